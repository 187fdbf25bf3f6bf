/- The texts AmA, AmB, AmC, AmF, AmD, AmE, AmG, AmH, AmI, AmJ, AmK, AmL of a proof of ProgTells, merged. -/
import GoSem.Core.View
import Derived.Lib.ItoaNum
import Derived.Lib.AtoiAll
import Derived.Lib.Split
import Derived.Lib.Fields
import Derived.Lib.Join
import Derived.Below
import Derived.Laws.CopyRow
import Derived.Laws.Append
import Derived.Orders
import GoSem.Core.Layout
import GoSem.Core.Region
import Derived.Laws.Entries
import Derived.Laws.StructEq
import Derived.Laws.Slices
import Derived.Laws.Small
import Derived.Laws.Strings
import Derived.Laws.Rows
import Derived.ChangeKeysEq
import Derived.MapKept
import Derived.Laws.BytesString
import Derived.Laws.MakeOwn
/- The abstract machine: its values, its memory, its code, and how it runs. Plain definitions, no theorem of the program. -/
namespace Go.AM
/-- so many package variables may be named -/
def GN : Nat := 1

mutual
/-- what stands for a number that is not known: a variable; what an operation makes of two; what is left of one in so many bits -/
inductive At where
  | v (n : Nat)
  | op (o : BinOp) (k : IntKind) (a b : Ln)
  | wr (k : IntKind) (a : Ln)
/-- a sum of such, each so many times, and a number -/
inductive Ln where
  | c (n : Int)
  | t (m : Int) (a : At) (r : Ln)
end
instance : Inhabited Ln := ⟨.c 0⟩

/-- Values: as the model's, but addresses are names of the abstract machine's own; a slice's room is known exactly (ex = 0), or is at least that (ex: an element's cells). -/
inductive AV where
  | b (x : Bool)
  | i (k : IntKind) (n : Int)
  /-- a number that is not known (in the open machine alone) -/
  | x (k : IntKind) (e : Ln)
  | s (x : List UInt8)
  | p (a : Option (Nat × Nat))
  | sl (a : Option (Nat × Nat)) (len cap ex : Nat)
  | m (r : Option Nat)
  | fn (f : Nat) (fst cap : List AV)
  | nilf
  | ifc (t : Nat) (v : AV)
  | nili
  | agg (l : List AV)
  | tup (l : List AV)
  /-- anything at all: nothing is known of it -/
  | bad
  deriving Inhabited

/-- A finite map from numbers. -/
inductive PM (α : Type) where
  | nil
  | node (v : Option α) (l r : PM α)
  deriving Inhabited

noncomputable def PM.get {α : Type} (t : PM α) : Nat → Option α :=
  PM.rec (motive := fun _ => Nat → Option α) (fun _ => none) (fun v _ _ l r n => bif Nat.beq n 0 then v else bif Nat.beq (Nat.mod n 2) 1 then l (Nat.div n 2) else r (Nat.sub (Nat.div n 2) 1)) t

def PM.mkL {α : Type} (u : Option α) (l r : PM α) : PM α :=
  match l with
  | .nil => .node u .nil r
  | .node a b c => .node u (.node a b c) r
def PM.mkR {α : Type} (u : Option α) (l r : PM α) : PM α :=
  match r with
  | .nil => .node u l .nil
  | .node a b c => .node u l (.node a b c)

noncomputable def PM.put {α : Type} (v : Option α) (f : Nat) : PM α → Nat → PM α :=
  Nat.rec (motive := fun _ => PM α → Nat → PM α) (fun t _ => t) (fun _ ih t =>
    PM.rec (motive := fun _ => Nat → PM α)
      (fun n => bif Nat.beq n 0 then .node v .nil .nil
        else bif Nat.beq (Nat.mod n 2) 1 then PM.mkL none (ih .nil (Nat.div n 2)) .nil else PM.mkR none .nil (ih .nil (Nat.sub (Nat.div n 2) 1)))
      (fun u l r _ _ n => bif Nat.beq n 0 then .node v l r
        else bif Nat.beq (Nat.mod n 2) 1 then PM.mkL u (ih l (Nat.div n 2)) r else PM.mkR u l (ih r (Nat.sub (Nat.div n 2) 1))) t) f
noncomputable def PM.set {α : Type} (t : PM α) (n : Nat) (v : Option α) : PM α := PM.put v (n + 1) t n

/-- A block of memory: cells of the machine's own, cells that are only read (an argument's), a map. -/
inductive AB where
  | cells (c : List AV)
  | ro (c : List AV)
  | map (es : List (AV × AV))
  deriving Inhabited

structure St where
  h : PM AB
  nx : Nat
  deriving Inhabited

/-- an operand: a variable that lives on, a temporary of the statement, a constant -/
inductive Opd where
  | l (n : Nat)
  | t (n : Nat)
  | c (v : AV)
  deriving Inhabited
inductive Dst where
  | no
  | l (n : Nat)
  | t (n : Nat)
  deriving Inhabited

inductive EqK where
  | bool | str | ptr | slnil | mapnil | fnil | ifc
  /-- an interface value and the literal nil -/
  | ifcn
  | agg (fs : List (Nat × Nat))
  deriving Inhabited

inductive AOp where
  -- no memory
  | mv | pick
  | build (z : List AV) (ps : List (Nat × Nat))
  | nilchk
  | bin (op : BinOp)
  | sbin (op : BinOp)
  | eq (neg : Bool) (k : EqK)
  | un (op : UnOp)
  | cvtI (k : IntKind)
  | cvtS
  | mkif (t : Nat)
  | mkfn (f nfst : Nat)
  | slc (size : Nat) (lo hi mx : Bool)
  | slcS (lo hi : Bool)
  | fad (off : Nat)
  | fld (off : Nat) (sz : Option Nat)
  | iad (size : Nat)
  | iadA (len size : Nat)
  | ixA (len size : Nat) (agg : Bool)
  | ixS
  | ext (k : Nat)
  | lenSl | lenS | lenC (n : Nat) | capSl
  | min | max
  -- reads
  | ld (sz : Option Nat)
  | lkup (z : AV) (ok : Bool)
  | mlen
  | cvtB
  -- makes a block
  | alloc (z : List AV)
  | box
  | bslice (z : List AV) (len size : Nat) (ps : List Nat)
  | mksl (z : List AV) (bytes : Nat)
  | mkmap
  -- effects
  | st (sz : Nat)
  | mset
  | mdel
  | app (size bytes : Nat)
  | clr (z : List AV)
  | cpy (size : Nat)
  | call (f : Nat)
  | callv
  deriving Inhabited

structure Op1 where
  dst : Dst
  gd : Option (Opd × Bool)
  op : AOp
  args : List Opd
  deriving Inhabited

inductive ACode where
  | skip
  | reg (ops : List Op1)
  /-- with places that are looked at again: operation, and the number of operations behind which -/
  | regD (ops : List Op1) (chk : List (Nat × Nat))
  | seq (a b : ACode)
  | cond (c : Opd) (x y : ACode)
  | block (id : Nat) (c : ACode)
  | loop (c : ACode)
  | exit (id : Nat)
  | ret
  /-- what a function of the library does, by number -/
  | ext (k : Nat)
  deriving Inhabited

inductive ResV where
  | tmp (t : Opd)
  | cell (t : Opd) (sz : Option Nat)
  deriving Inhabited

structure AFn where
  body : ACode
  res : List ResV
  deriving Inhabited

inductive Ex where
  | norm
  | ex (id : Nat)
  | ret
  deriving Inhabited

/-! ### numbers -/
def iLt : Int → Int → Bool
  | .ofNat a, .ofNat b => Nat.blt a b
  | .negSucc a, .negSucc b => Nat.blt b a
  | .ofNat _, .negSucc _ => false
  | .negSucc _, .ofNat _ => true
def iEq : Int → Int → Bool
  | .ofNat a, .ofNat b => Nat.beq a b
  | .negSucc a, .negSucc b => Nat.beq b a
  | _, _ => false
def fits (n : Int) : Bool :=
  match n with
  | .ofNat m => Nat.blt m 9223372036854775808
  | .negSucc m => Nat.blt m 9223372036854775808
def wr (k : IntKind) (n : Int) : Int :=
  match k with
  | .i64 => bif fits n then n else IntKind.wrap .i64 n
  | k => k.wrap n

def binI (op : BinOp) (k : IntKind) (a b : Int) : Option AV :=
  match op with
  | .add => some (.i k (wr k (a + b)))
  | .sub => some (.i k (wr k (a - b)))
  | .mul => some (.i k (wr k (a * b)))
  | .quo => bif iEq b 0 then none else some (.i k (wr k (a.tdiv b)))
  | .rem => bif iEq b 0 then none else some (.i k (a.tmod b))
  | .and => some (.i k (wr k (BitVec.toNat (BitVec.ofInt k.bits a &&& BitVec.ofInt k.bits b))))
  | .or => some (.i k (wr k (BitVec.toNat (BitVec.ofInt k.bits a ||| BitVec.ofInt k.bits b))))
  | .xor => some (.i k (wr k (BitVec.toNat (BitVec.ofInt k.bits a ^^^ BitVec.ofInt k.bits b))))
  | .andNot => some (.i k (wr k (BitVec.toNat (BitVec.ofInt k.bits a &&& ~~~ BitVec.ofInt k.bits b))))
  | .eql => some (.b (iEq a b))
  | .neq => some (.b (!iEq a b))
  | .lss => some (.b (iLt a b))
  | .leq => some (.b (!iLt b a))
  | .gtr => some (.b (iLt b a))
  | .geq => some (.b (!iLt a b))
  | .shl | .shr => none

def shI (op : BinOp) (k : IntKind) (a b : Int) : Option AV :=
  bif iLt b 0 then none else
  match op with
  | .shl => some (.i k (wr k (a * 2 ^ (Nat.min b.toNat k.bits))))
  | .shr => some (.i k (a.fdiv (2 ^ (Nat.min b.toNat k.bits))))
  | _ => none

def isSh : BinOp → Bool
  | .shl | .shr => true
  | _ => false

def kEq : IntKind → IntKind → Bool
  | .i8, .i8 | .i16, .i16 | .i32, .i32 | .i64, .i64 | .u8, .u8 | .u16, .u16 | .u32, .u32 | .u64, .u64 => true
  | _, _ => false

/-! ### strings -/
def bytesEq : List UInt8 → List UInt8 → Bool
  | [], [] => true
  | a :: x, b :: y => Nat.beq a.toNat b.toNat && bytesEq x y
  | _, _ => false
def bytesLt : List UInt8 → List UInt8 → Bool
  | _, [] => false
  | [], _ :: _ => true
  | a :: x, b :: y => Nat.blt a.toNat b.toNat || (Nat.beq a.toNat b.toNat && bytesLt x y)
def binS (op : BinOp) (x y : List UInt8) : Option AV :=
  match op with
  | .add => bif Nat.blt (x.length + y.length) 9223372036854775808 then some (.s (x ++ y)) else none
  | .eql => some (.b (bytesEq x y))
  | .neq => some (.b (!bytesEq x y))
  | .lss => some (.b (bytesLt x y))
  | .leq => some (.b (bytesLt x y || bytesEq x y))
  | .gtr => some (.b (!(bytesLt x y || bytesEq x y)))
  | .geq => some (.b (!bytesLt x y))
  | _ => none

/-! ### lists of cells -/
def AV.one : AV → Bool
  | .agg _ | .tup _ | .bad => false
  | _ => true
def AV.cellsOf : AV → Option (List AV)
  | .agg l => bif l.all AV.one then some l else none
  | .tup _ | .bad => none
  | v => some [v]
def splice (c : List AV) (off : Nat) (vs : List AV) : List AV := c.take off ++ vs ++ c.drop (off + vs.length)
def fillP : List AV → List (Nat × Nat) → List AV → Option (List AV)
  | c, [], [] => some c
  | c, (off, sz) :: ps, v :: vs =>
    match v.cellsOf with
    | some l => bif Nat.beq l.length sz && Nat.ble (off + sz) c.length then fillP (splice c off l) ps vs else none
    | none => none
  | _, _, _ => none
def cut (c : List AV) (off sz : Nat) : Option (List AV) := bif Nat.ble (off + sz) c.length then some ((c.drop off).take sz) else none
def reps (z : List AV) : Nat → List AV
  | 0 => []
  | n + 1 => z ++ reps z n
def one? : List AV → Option AV
  | [v] => some v
  | _ => none
/-- a value out of cells: one cell, or so many -/
def look (c : List AV) (off : Nat) : Option Nat → Option AV
  | none => c[off]?
  | some sz => (cut c off sz).map .agg

def AB.read : AB → Option (List AV)
  | .cells c => some c
  | .ro c => some c
  | .map _ => none

noncomputable def rdAt (h : PM AB) (a : Nat × Nat) (sz : Option Nat) : Option AV :=
  match h.get a.1 with
  | some blk => match blk.read with
    | some c => look c a.2 sz
    | none => none
  | none => none
noncomputable def rdCells (h : PM AB) (a : Option (Nat × Nat)) (n : Nat) : Option (List AV) :=
  match a with
  | none => bif Nat.beq n 0 then some [] else none
  | some (r, o) => match h.get r with
    | some blk => match blk.read with
      | some c => cut c o n
      | none => none
    | none => none
noncomputable def live (h : PM AB) (r : Nat) : Bool :=
  match h.get r with
  | some (.cells _) => true
  | _ => false
/-- cells that are written in a block of the machine's own -/
noncomputable def wrCells (h : PM AB) (a : Nat × Nat) (vs : List AV) : Option (PM AB) :=
  match h.get a.1 with
  | some (.cells c) => bif Nat.ble (a.2 + vs.length) c.length && vs.all AV.one then some (h.set a.1 (some (.cells (splice c a.2 vs)))) else none
  | _ => none

/-! ### maps (keys are whole numbers) -/
def mfind (k : IntKind) (n : Int) : List (AV × AV) → Option (Option AV)
  | [] => some none
  | (.i j a, v) :: es => bif kEq k j then (bif iEq n a then some (some v) else mfind k n es) else none
  | _ :: _ => none
def msetL (k : IntKind) (n : Int) (v : AV) : List (AV × AV) → Option (List (AV × AV))
  | [] => some [(.i k n, v)]
  | (.i j a, u) :: es => bif kEq k j then (bif iEq n a then some ((.i j a, v) :: es) else (msetL k n v es).map ((.i j a, u) :: ·)) else none
  | _ :: _ => none
def mdelL (k : IntKind) (n : Int) : List (AV × AV) → Option (List (AV × AV))
  | [] => some []
  | (.i j a, u) :: es => bif kEq k j then (bif iEq n a then some es else (mdelL k n es).map ((.i j a, u) :: ·)) else none
  | _ :: _ => none

/-! ### equality -/
def eqOne : Nat → AV → AV → Option Bool
  | 0, .b x, .b y => some (x == y)
  | 1, .i j x, .i k y => bif kEq j k then some (iEq x y) else none
  | 2, .s x, .s y => some (bytesEq x y)
  | _, _, _ => none
def eqAt (xs ys : List AV) : List (Nat × Nat) → Option Bool
  | [] => some true
  | (f, g) :: fs => match xs[f]?, ys[f]? with
    | some x, some y => match eqOne g x y with
      | some true => eqAt xs ys fs
      | some false => some false
      | none => none
    | _, _ => none
noncomputable def eqP (h : PM AB) : Option (Nat × Nat) → Option (Nat × Nat) → Option Bool
  | none, none => some true
  | none, some _ | some _, none => some false
  | some (a, i), some (b, j) =>
    bif Nat.beq a b then some (Nat.beq i j)
    else bif live h a && live h b then some false else none
noncomputable def eqV (h : PM AB) : EqK → AV → AV → Option Bool
  | .bool, .b x, .b y => some (x == y)
  | .str, .s x, .s y => some (bytesEq x y)
  | .ptr, .p x, .p y => eqP h x y
  | .slnil, .sl none _ _ _, .sl y _ _ _ => some y.isNone
  | .slnil, .sl (some _) _ _ _, .sl none _ _ _ => some false
  | .mapnil, .m none, .m y => some y.isNone
  | .mapnil, .m (some _), .m none => some false
  | .fnil, .nilf, .nilf => some true
  | .fnil, .nilf, .fn _ _ _ | .fnil, .fn _ _ _, .nilf => some false
  | .ifc, .nili, .ifc _ _ | .ifc, .ifc _ _, .nili => some false
  | .ifcn, .nili, .nili => some true
  | .ifcn, .nili, .ifc _ _ | .ifcn, .ifc _ _, .nili => some false
  | .agg fs, .agg xs, .agg ys => eqAt xs ys fs
  | _, _, _ => none

def minL (lt : Int → Int → Bool) : Int → List AV → IntKind → Option AV
  | x, [], k => some (.i k x)
  | x, .i j y :: rest, k => bif kEq j k then minL lt (bif lt y x then y else x) rest k else none
  | _, _ :: _, _ => none

def idx (v : AV) : Option Nat :=
  match v with
  | .i _ (.ofNat n) => some n
  | _ => none

def optIdx : Bool → List AV → Nat → Option (Nat × List AV)
  | true, v :: r, _ => (idx v).map fun n => (n, r)
  | true, [], _ => none
  | false, r, d => some (d, r)

def slcV (size : Nat) (lo hi mx : Bool) : List AV → Option AV
  | .sl a len cap ex :: r =>
    match optIdx lo r 0 with
    | none => none
    | some (l, r) => match optIdx hi r len with
      | none => none
      | some (h, r) => match optIdx mx r cap with
        | some (m, []) =>
          bif Nat.ble l h && Nat.ble h m && Nat.ble m cap && (Nat.beq ex 0 || Nat.beq ex size) then
            some (.sl (a.map fun (n, o) => (n, o + l * size)) (h - l) (m - l) (bif mx then 0 else ex))
          else none
        | _ => none
  | _ => none

def slcSV (lo hi : Bool) : List AV → Option AV
  | .s x :: r =>
    match optIdx lo r 0 with
    | none => none
    | some (l, r) => match optIdx hi r x.length with
      | some (h, []) => bif Nat.ble l h && Nat.ble h x.length then some (.s ((x.take h).drop l)) else none
      | _ => none
  | _ => none

/-- Operations that leave memory as it is: each by its own. -/
def rMv (_ : PM AB) : List AV → Option AV
  | [x] => some x
  | _ => none
def rPick (_ : PM AB) : List AV → Option AV
  | [.b c, x, y] => some (bif c then x else y)
  | _ => none
def rBuild (z : List AV) (ps : List (Nat × Nat)) (_ : PM AB) (vs : List AV) : Option AV := (fillP z ps vs).map .agg
def rNil (_ : PM AB) : List AV → Option AV
  | [.p (some a)] => some (.p (some a))
  | [.fn f a b] => some (.fn f a b)
  | _ => none
def rBin (op : BinOp) (_ : PM AB) : List AV → Option AV
  | [.i k a, .i j b] => bif isSh op then shI op k a b else bif kEq k j then binI op k a b else none
  | _ => none
def rSbin (op : BinOp) (_ : PM AB) : List AV → Option AV
  | [.s x, .s y] => binS op x y
  | _ => none
noncomputable def rEq (ng : Bool) (k : EqK) (h : PM AB) : List AV → Option AV
  | [x, y] => (eqV h k x y).map fun r => .b (r != ng)
  | _ => none
def rUn (op : UnOp) (_ : PM AB) : List AV → Option AV
  | [.b x] => match op with
    | .not => some (.b (!x))
    | _ => none
  | [.i k n] => match op with
    | .neg => some (.i k (wr k (0 - n)))
    | .xor => some (.i k (wr k (BitVec.toNat (BitVec.ofInt k.bits (if k.signed then -1 else k.max) ^^^ BitVec.ofInt k.bits n))))
    | _ => none
  | _ => none
def rCvtI (k : IntKind) (_ : PM AB) : List AV → Option AV
  | [.i _ n] => some (.i k (wr k n))
  | _ => none
def rCvtS (_ : PM AB) : List AV → Option AV
  | [.s x] => some (.s x)
  | _ => none
def rMkif (t : Nat) (_ : PM AB) : List AV → Option AV
  | [x] => some (.ifc t x)
  | _ => none
def rMkfn (f n : Nat) (_ : PM AB) (vs : List AV) : Option AV := some (.fn f (vs.take n) (vs.drop n))
def rSlc (size : Nat) (lo hi mx : Bool) (_ : PM AB) (vs : List AV) : Option AV := slcV size lo hi mx vs
def rSlcS (lo hi : Bool) (_ : PM AB) (vs : List AV) : Option AV := slcSV lo hi vs
def rFad (off : Nat) (_ : PM AB) : List AV → Option AV
  | [.p (some (n, o))] => some (.p (some (n, o + off)))
  | _ => none
def rFld (off : Nat) (sz : Option Nat) (_ : PM AB) : List AV → Option AV
  | [.agg l] => look l off sz
  | _ => none
def rIad (size : Nat) (_ : PM AB) : List AV → Option AV
  | [.sl (some (n, o)) len _ _, .i _ (.ofNat k)] => bif Nat.blt k len then some (.p (some (n, o + k * size))) else none
  | _ => none
def rIadA (len size : Nat) (_ : PM AB) : List AV → Option AV
  | [.p (some (n, o)), .i _ (.ofNat k)] => bif Nat.blt k len then some (.p (some (n, o + k * size))) else none
  | _ => none
def rIxA (len size : Nat) (ag : Bool) (_ : PM AB) : List AV → Option AV
  | [.agg l, .i _ (.ofNat k)] => bif Nat.blt k len then look l (k * size) (bif ag then some size else none) else none
  | _ => none
def rIxS (_ : PM AB) : List AV → Option AV
  | [.s x, .i _ (.ofNat k)] => (x[k]?).map fun c => .i .u8 (.ofNat c.toNat)
  | _ => none
def rExt (k : Nat) (_ : PM AB) : List AV → Option AV
  | [.tup l] => l[k]?
  | _ => none
def rLenSl (_ : PM AB) : List AV → Option AV
  | [.sl _ n _ _] => some (.i .i64 (.ofNat n))
  | _ => none
def rLenS (_ : PM AB) : List AV → Option AV
  | [.s x] => some (.i .i64 (.ofNat x.length))
  | _ => none
def rLenC (n : Nat) (_ : PM AB) : List AV → Option AV
  | [_] => some (.i .i64 (.ofNat n))
  | _ => none
def rCapSl (_ : PM AB) : List AV → Option AV
  | [.sl _ _ n 0] => some (.i .i64 (.ofNat n))
  | _ => none
def rMin (_ : PM AB) : List AV → Option AV
  | .i k x :: r => minL (fun y x => iLt y x) x r k
  | _ => none
def rMax (_ : PM AB) : List AV → Option AV
  | .i k x :: r => minL (fun y x => iLt x y) x r k
  | _ => none
noncomputable def rLd (sz : Option Nat) (h : PM AB) : List AV → Option AV
  | [.p (some a)] => rdAt h a sz
  | _ => none
noncomputable def rLkup (z : AV) (ok : Bool) (h : PM AB) : List AV → Option AV
  | [.m none, .i _ _] => some (bif ok then .tup [z, .b false] else z)
  | [.m (some r), .i k n] => match h.get r with
    | some (.map es) => match mfind k n es with
      | some (some v) => some (bif ok then .tup [v, .b true] else v)
      | some none => some (bif ok then .tup [z, .b false] else z)
      | none => none
    | _ => none
  | _ => none
noncomputable def rMlen (h : PM AB) : List AV → Option AV
  | [.m none] => some (.i .i64 0)
  | [.m (some r)] => match h.get r with
    | some (.map es) => some (.i .i64 (.ofNat es.length))
    | _ => none
  | _ => none
def u8s : List AV → Option (List UInt8)
  | [] => some []
  | .i .u8 (.ofNat n) :: r => match u8s r with
    | some l => some (UInt8.ofNat n :: l)
    | none => none
  | _ => none
/-- bytes as a string -/
noncomputable def rCvtB (h : PM AB) : List AV → Option AV
  | [.sl a n _ _] => bif Nat.beq n 0 then some (.s []) else match rdCells h a n with
    | some l => match u8s l with
      | some s => some (.s s)
      | none => none
    | none => none
  | _ => none
def rNone (_ : PM AB) (_ : List AV) : Option AV := none
noncomputable def semR : AOp → PM AB → List AV → Option AV
  | .mv => rMv
  | .pick => rPick
  | .build z ps => rBuild z ps
  | .nilchk => rNil
  | .bin op => rBin op
  | .sbin op => rSbin op
  | .eq ng k => rEq ng k
  | .un op => rUn op
  | .cvtI k => rCvtI k
  | .cvtS => rCvtS
  | .mkif t => rMkif t
  | .mkfn f n => rMkfn f n
  | .slc size lo hi mx => rSlc size lo hi mx
  | .slcS lo hi => rSlcS lo hi
  | .fad off => rFad off
  | .fld off sz => rFld off sz
  | .iad size => rIad size
  | .iadA len size => rIadA len size
  | .ixA len size ag => rIxA len size ag
  | .ixS => rIxS
  | .ext k => rExt k
  | .lenSl => rLenSl
  | .lenS => rLenS
  | .lenC n => rLenC n
  | .capSl => rCapSl
  | .min => rMin
  | .max => rMax
  | .ld sz => rLd sz
  | .lkup z ok => rLkup z ok
  | .mlen => rMlen
  | .cvtB => rCvtB
  | _ => rNone

/-- Operations that make one block: what is in it, and the value that names it. -/
def aAlloc (z : List AV) (nx : Nat) : List AV → Option (AB × AV)
  | [] => some (.cells z, .p (some (nx, 0)))
  | _ => none
def aBox (nx : Nat) : List AV → Option (AB × AV)
  | [v] => match v.cellsOf with
    | some l => some (.cells l, .p (some (nx, 0)))
    | none => none
  | _ => none
def aBslice (z : List AV) (len size : Nat) (ps : List Nat) (nx : Nat) (vs : List AV) : Option (AB × AV) :=
  match fillP (reps z len) (ps.map fun i => (i * size, size)) vs with
  | some c => bif c.all AV.one then some (.cells c, .sl (some (nx, 0)) len len 0) else none
  | none => none
def aMksl (z : List AV) (bytes : Nat) (nx : Nat) : List AV → Option (AB × AV)
  | [.i _ (.ofNat l), .i _ (.ofNat c)] =>
    bif Nat.ble l c && Nat.ble (c * bytes) 70368744177664 then some (.cells (reps z c), .sl (some (nx, 0)) l c 0) else none
  | _ => none
def aMkmap (nx : Nat) (_ : List AV) : Option (AB × AV) := some (.map [], .m (some nx))
def aNone (_ : Nat) (_ : List AV) : Option (AB × AV) := none
def semA : AOp → Nat → List AV → Option (AB × AV)
  | .alloc z => aAlloc z
  | .box => aBox
  | .bslice z len size ps => aBslice z len size ps
  | .mksl z bytes => aMksl z bytes
  | .mkmap => aMkmap
  | _ => aNone

/-- a slice of which the room is not known exactly is gone when it is appended to beyond it -/
noncomputable def gone (h : PM AB) (a : Option (Nat × Nat)) (ex size : Nat) : Option (PM AB) :=
  bif Nat.beq ex 0 then some h else bif Nat.beq ex size then match a with
    | some (r, _) => bif live h r then some (h.set r none) else none
    | none => none
  else none
noncomputable def appV (size bytes : Nat) (S : St) (a : Option (Nat × Nat)) (len cap ex : Nat) (n : Nat) (new : List AV) : Option (AV × St) :=
  bif Nat.ble (len + n) cap then
    match a with
    | none => some (.sl none (len + n) cap ex, S)
    | some (r, o) =>
      bif Nat.beq n 0 then some (.sl (some (r, o)) len cap ex, S) else
      match wrCells S.h (r, o + len * size) new with
      | some h => some (.sl (some (r, o)) (len + n) cap ex, { S with h := h })
      | none => none
  else bif Nat.ble ((len + n) * bytes) 70368744177664 then
    match rdCells S.h a (len * size), gone S.h a ex size with
    | some old, some h => some (.sl (some (S.nx, 0)) (len + n) (len + n) size, { h := h.set S.nx (some (.cells (old ++ new))), nx := S.nx + 1 })
    | _, _ => none
  else none

/-- Operations that change memory; calls. -/
abbrev Cll := Nat → List AV → St → Option (AV × St)
noncomputable def eSt (sz : Nat) (_ : Cll) (S : St) : List AV → Option (AV × St)
  | [.p (some a), v] => match v.cellsOf with
    | some l =>
      bif Nat.beq l.length sz then match wrCells S.h a l with
        | some h => some (.bad, { S with h := h })
        | none => none
      else none
    | none => none
  | _ => none
noncomputable def eMset (_ : Cll) (S : St) : List AV → Option (AV × St)
  | [.m (some r), .i k n, v] => match S.h.get r with
    | some (.map es) => match msetL k n v es with
      | some es => some (.bad, { S with h := S.h.set r (some (.map es)) })
      | none => none
    | _ => none
  | _ => none
noncomputable def eMdel (_ : Cll) (S : St) : List AV → Option (AV × St)
  | [.m none, .i _ _] => some (.bad, S)
  | [.m (some r), .i k n] => match S.h.get r with
    | some (.map es) => match mdelL k n es with
      | some es => some (.bad, { S with h := S.h.set r (some (.map es)) })
      | none => none
    | _ => none
  | _ => none
noncomputable def eApp (size bytes : Nat) (_ : Cll) (S : St) : List AV → Option (AV × St)
  | [.sl a len cap ex, .sl b n _ _] =>
    match rdCells S.h b (n * size) with
    | some new => bif new.all AV.one then appV size bytes S a len cap ex n new else none
    | none => none
  | _ => none
noncomputable def eClr (z : List AV) (_ : Cll) (S : St) : List AV → Option (AV × St)
  | [.sl a n _ _] =>
    bif Nat.beq n 0 then some (.bad, S) else
    match a with
    | some a => match wrCells S.h a (reps z n) with
      | some h => some (.bad, { S with h := h })
      | none => none
    | none => none
  | _ => none
noncomputable def eCpy (size : Nat) (_ : Cll) (S : St) : List AV → Option (AV × St)
  | [.sl a dl _ _, .sl b sl _ _] =>
    match rdCells S.h b (Nat.min sl dl * size) with
    | some vs => bif Nat.beq (Nat.min sl dl) 0 then some (.i .i64 0, S) else
      match a with
      | some a => match wrCells S.h a vs with
        | some h => some (.i .i64 (.ofNat (Nat.min sl dl)), { S with h := h })
        | none => none
      | none => none
    | none => none
  | _ => none
def eCall (f : Nat) (call : Cll) (S : St) (vs : List AV) : Option (AV × St) := call f vs S
def eCallv (call : Cll) (S : St) : List AV → Option (AV × St)
  | .fn f fst cap :: vs => call f (fst ++ vs ++ cap) S
  | _ => none
def eNone (_ : Cll) (_ : St) (_ : List AV) : Option (AV × St) := none
noncomputable def semE : AOp → Cll → St → List AV → Option (AV × St)
  | .st sz => eSt sz
  | .mset => eMset
  | .mdel => eMdel
  | .app size bytes => eApp size bytes
  | .clr z => eClr z
  | .cpy size => eCpy size
  | .call f => eCall f
  | .callv => eCallv
  | _ => eNone

inductive Cl where
  | R | A | E
def AOp.cl : AOp → Cl
  | .alloc _ | .box | .bslice .. | .mksl .. | .mkmap => .A
  | .st _ | .mset | .mdel | .app .. | .clr _ | .cpy _ | .call _ | .callv => .E
  | _ => .R

/-- the variables that live on; the statement's temporaries, the last one first -/
structure Tm where
  l : List (Nat × AV)
  r : List (Nat × AV)
  deriving Inhabited
noncomputable def aget (l : List (Nat × AV)) : Nat → AV :=
  List.rec (motive := fun _ => Nat → AV) (fun _ => .bad) (fun p _ ih n => bif Nat.beq p.1 n then p.2 else ih n) l
noncomputable def aput (n : Nat) (v : AV) (l : List (Nat × AV)) : List (Nat × AV) :=
  List.rec (motive := fun _ => List (Nat × AV)) [(n, v)] (fun p r ih => bif Nat.beq p.1 n then (p.1, v) :: r else p :: ih) l
theorem aget_nil (n : Nat) : aget [] n = .bad := rfl
theorem aget_cons (k : Nat) (v : AV) (r : List (Nat × AV)) (n : Nat) : aget ((k, v) :: r) n = bif Nat.beq k n then v else aget r n := rfl
theorem aput_nil (n : Nat) (v : AV) : aput n v [] = [(n, v)] := rfl
theorem aput_cons (n : Nat) (v : AV) (k : Nat) (u : AV) (r : List (Nat × AV)) : aput n v ((k, u) :: r) = bif Nat.beq k n then (k, v) :: r else (k, u) :: aput n v r := rfl
noncomputable def Opd.ev (T : Tm) : Opd → AV
  | .l n => aget T.l n
  | .t n => aget T.r n
  | .c v => v
noncomputable def evs (T : Tm) (l : List Opd) : List AV := List.rec (motive := fun _ => List AV) [] (fun x _ ih => x.ev T :: ih) l
theorem evs_nil (T : Tm) : evs T [] = [] := rfl
theorem evs_cons (T : Tm) (x : Opd) (r : List Opd) : evs T (x :: r) = x.ev T :: evs T r := rfl
noncomputable def Tm.put (T : Tm) (v : AV) : Dst → Tm
  | .no => T
  | .l n => { T with l := aput n v T.l }
  | .t n => { T with r := (n, v) :: T.r }

def opR (f : PM AB → List AV → Option AV) (_ : Cll) (S : St) (vs : List AV) : Option (AV × St) :=
  match f S.h vs with
  | some v => some (v, S)
  | none => none
noncomputable def opA (f : Nat → List AV → Option (AB × AV)) (_ : Cll) (S : St) (vs : List AV) : Option (AV × St) :=
  match f S.nx vs with
  | some (blk, v) => some (v, { h := S.h.set S.nx (some blk), nx := S.nx + 1 })
  | none => none
noncomputable def semOp (o : AOp) : Cll → St → List AV → Option (AV × St) :=
  match o.cl with
  | .R => opR (semR o)
  | .A => opA (semA o)
  | .E => semE o

/-- is the operation carried out? -/
noncomputable def wants (T : Tm) : Option (Opd × Bool) → Option Bool
  | none => some true
  | some (t, w) => match t.ev T with
    | .b x => some (x == w)
    | .bad => none
    | _ => some false

noncomputable def step1 (call : Cll) (o : Op1) (T : Tm) (S : St) : Option (Tm × St) :=
  match wants T o.gd with
  | some true =>
    match semOp o.op call S (evs T o.args) with
    | some (v, S') => some (T.put v o.dst, S')
    | none => none
  | some false => some (T.put (.tup []) o.dst, S)
  | none => none

noncomputable def runOps (call : Cll) (l : List Op1) : Tm → St → Option (Tm × St) :=
  List.rec (motive := fun _ => Tm → St → Option (Tm × St)) (fun T S => some (T, S)) (fun o _ ih T S => match step1 call o T S with
    | some (T', S') => ih T' S'
    | none => none) l
theorem runOps_nil (call : Cll) (T : Tm) (S : St) : runOps call [] T S = some (T, S) := rfl
theorem runOps_cons (call : Cll) (o : Op1) (r : List Op1) (T : Tm) (S : St) : runOps call (o :: r) T S = match step1 call o T S with
    | some (T', S') => runOps call r T' S'
    | none => none := rfl

/-- all states on the way -/
noncomputable def trace (call : Cll) : List Op1 → Tm → St → Option (List (Tm × St))
  | [], T, S => some [(T, S)]
  | o :: r, T, S => match step1 call o T S with
    | some (T', S') => (trace call r T' S').map ((T, S) :: ·)
    | none => none

def bopEq : BinOp → BinOp → Bool
  | .add, .add | .sub, .sub | .mul, .mul | .quo, .quo | .rem, .rem | .and, .and | .or, .or | .xor, .xor | .andNot, .andNot | .shl, .shl | .shr, .shr => true
  | _, _ => false
mutual
def At.beq : At → At → Bool
  | .v n, .v m => Nat.beq n m
  | .op o k a b, .op p j c d => bopEq o p && kEq k j && Ln.beq a c && Ln.beq b d
  | .wr k a, .wr j b => kEq k j && Ln.beq a b
  | _, _ => false
def Ln.beq : Ln → Ln → Bool
  | .c n, .c m => iEq n m
  | .t m a r, .t n b s => iEq m n && At.beq a b && Ln.beq r s
  | _, _ => false
end
/-- the same value, of one cell -/
def same1 : AV → AV → Bool
  | .s x, .s y => bytesEq x y
  | .nilf, .nilf => true
  | .nili, .nili => true
  | .x j e, .x k f => kEq j k && Ln.beq e f
  | .b x, .b y => x == y
  | .i j x, .i k y => kEq j k && iEq x y
  | .p none, .p none => true
  | .p (some (a, i)), .p (some (b, j)) => Nat.beq a b && Nat.beq i j
  | .sl none l c e, .sl none m d f => Nat.beq l m && Nat.beq c d && Nat.beq e f
  | .sl (some (a, i)) l c e, .sl (some (b, j)) m d f => Nat.beq a b && Nat.beq i j && Nat.beq l m && Nat.beq c d && Nat.beq e f
  | .m none, .m none => true
  | .m (some a), .m (some b) => Nat.beq a b
  | _, _ => false

def sameL : List AV → List AV → Bool
  | [], [] => true
  | x :: r, y :: q => same1 x y && sameL r q
  | _, _ => false
/-- the same value -/
def sameV : AV → AV → Bool
  | .agg x, .agg y => sameL x y
  | x, y => same1 x y

noncomputable def again (ops : List Op1) (tr : List (Tm × St)) (c : Nat × Nat) : Bool :=
  match ops[c.1]?, tr[c.1]?, tr[c.2]? with
  | some o, some (T, S), some (_, S') =>
    match wants T o.gd with
    | some true =>
      match semR o.op S.h (evs T o.args), semR o.op S'.h (evs T o.args) with
      | some v, some v' => sameV v v'
      | _, _ => false
    | some false => true
    | none => false
  | _, _, _ => false

def lastOf : List (Tm × St) → Option (Tm × St)
  | [] => none
  | [x] => some x
  | _ :: r => lastOf r

def initL : List AV → Nat → List (Nat × AV)
  | [], _ => []
  | v :: r, n => (n, v) :: initL r (Nat.succ n)
def initT (vs : List AV) : Tm := ⟨initL vs 0, []⟩

noncomputable def resOne (T : Tm) (h : PM AB) : ResV → Option AV
  | .tmp t => some (t.ev T)
  | .cell t sz => match t.ev T with
    | .p (some a) => rdAt h a sz
    | _ => none
noncomputable def resL (T : Tm) (h : PM AB) : List ResV → Option (List AV)
  | [] => some []
  | r :: rs => match resOne T h r with
    | some v => (resL T h rs).map (v :: ·)
    | none => none
noncomputable def resV (T : Tm) (h : PM AB) (rs : List ResV) : Option AV :=
  match resL T h rs with
  | some [v] => some v
  | some vs => some (.tup vs)
  | none => none

abbrev Ec := ACode → Tm → St → Option (Ex × Tm × St)
noncomputable def callOf (F : Nat → Option AFn) (E : Ec) : Cll := fun f vs S =>
  match F f with
  | none => none
  | some fn => match E fn.body (initT vs) S with
    | some (.norm, T', S') | some (.ret, T', S') => (resV T' S'.h fn.res).map fun v => (v, S')
    | _ => none
noncomputable def xReg (call : Cll) (ops : List Op1) (T : Tm) (S : St) : Option (Ex × Tm × St) :=
  match runOps call ops { T with r := [] } S with
  | some (T', S') => some (.norm, T', S')
  | none => none
noncomputable def xRegD (call : Cll) (ops : List Op1) (chk : List (Nat × Nat)) (T : Tm) (S : St) : Option (Ex × Tm × St) :=
  match trace call ops { T with r := [] } S with
  | some tr => bif chk.all (again ops tr) then (lastOf tr).map fun (T', S') => (.norm, T', S') else none
  | none => none
noncomputable def xSeq (E : Ec) (a b : ACode) (T : Tm) (S : St) : Option (Ex × Tm × St) :=
  match E a T S with
  | some (.norm, T', S') => E b T' S'
  | r => r
noncomputable def xCond (E : Ec) (c : Opd) (x y : ACode) (T : Tm) (S : St) : Option (Ex × Tm × St) :=
  match c.ev T with
  | .b true => E x T S
  | .b false => E y T S
  | _ => none
noncomputable def xBlock (E : Ec) (id : Nat) (c : ACode) (T : Tm) (S : St) : Option (Ex × Tm × St) :=
  match E c T S with
  | some (.ex j, T', S') => bif Nat.beq j id then some (.norm, T', S') else some (.ex j, T', S')
  | r => r
noncomputable def xLoop (E : Ec) (c : ACode) (T : Tm) (S : St) : Option (Ex × Tm × St) :=
  match E c T S with
  | some (.norm, T', S') => E (.loop c) T' S'
  | r => r
def intsOf : List AV → Option (List Int)
  | [] => some []
  | .i .i64 n :: r => (intsOf r).map (n :: ·)
  | _ :: _ => none
/-- slices.Sort at numbers -/
noncomputable def xSort (vs : List AV) (S : St) : Option (AV × St) :=
  match vs with
  | [.sl (some a) len _ _] => match (bif Nat.blt len 1000000 then rdCells S.h (some a) len else none) with
    | some cs => match intsOf cs with
      | some zs => match zs with
        | [] => none
        | _ :: _ => match wrCells S.h a ((zs.mergeSort fun x y => decide (x ≤ y)).map fun n => .i .i64 n) with
          | some h' => some (.tup [], { S with h := h' })
          | none => none
      | none => none
    | none => none
  | [.sl none 0 0 0] => some (.tup [], S)
  | _ => none
/-- a word of bytes that are not too many -/
def shortS (l : List UInt8) : Bool := Nat.blt l.length 1000000000
/-- strconv.Itoa -/
noncomputable def xItoa (vs : List AV) (S : St) : Option (AV × St) :=
  match vs with
  | [.i .i64 n] => bif fits n then some (.s (Lib.itoa n), S) else none
  | _ => none
/-- strconv.Atoi; the type of its error -/
noncomputable def xAtoi (t : Nat) (vs : List AV) (S : St) : Option (AV × St) :=
  match vs with
  | [.s l] => bif shortS l then some (match Lib.atoiAll l with
      | .ok v => .tup [.i .i64 v, .nili]
      | .range => .tup [.i .i64 (Lib.atoiSat l), .ifc t .bad]
      | _ => .tup [.i .i64 0, .ifc t .bad], S) else none
  | _ => none
/-- words in a slice of their own -/
noncomputable def xWords (ls : List (List UInt8)) (S : St) : Option (AV × St) :=
  some (.sl (some (S.nx, 0)) ls.length ls.length 0, { h := S.h.set S.nx (some (.cells (ls.map .s))), nx := S.nx + 1 })
/-- strings.Fields, of ASCII -/
noncomputable def xFields (vs : List AV) (S : St) : Option (AV × St) :=
  match vs with
  | [.s l] => bif shortS l && l.all (fun b => Nat.blt b.toNat 128) then xWords (Lib.fields l) S else none
  | _ => none
/-- strings.Split -/
noncomputable def xSplit (vs : List AV) (S : St) : Option (AV × St) :=
  match vs with
  | [.s l, .s sep] => bif shortS l && !sep.isEmpty then xWords (Lib.split l sep) S else none
  | _ => none
/-- strings.Cut -/
noncomputable def xCut (vs : List AV) (S : St) : Option (AV × St) :=
  match vs with
  | [.s l, .s sep] => bif shortS l then some (.tup [.s (Lib.cut l sep).1, .s (Lib.cut l sep).2.1, .b (Lib.cut l sep).2.2], S) else none
  | _ => none
def wordsOf : List AV → Option (List (List UInt8))
  | [] => some []
  | .s l :: r => (wordsOf r).map (l :: ·)
  | _ :: _ => none
/-- strings.Join, of one word at least -/
noncomputable def xJoin (vs : List AV) (S : St) : Option (AV × St) :=
  match vs with
  | [.sl (some a) len _ _, .s sep] => match rdCells S.h (some a) len with
    | some cs => match wordsOf cs with
      | some ls => match ls with
        | [] => none
        | _ :: _ => bif Nat.blt ls.length 1000000 && shortS (Lib.join ls sep) then some (.s (Lib.join ls sep), S) else none
      | none => none
    | none => none
  | _ => none
/-- events' words -/
def evWords : List (List UInt8) := [[116, 111, 108, 100], [119, 97, 105, 116, 115], [103, 111, 101, 115], [101, 110, 100, 115], [115, 116, 97, 114, 116, 115], [102, 105, 114, 101, 115], [108, 97, 112, 115, 101, 115], [114, 101, 102, 117, 115, 101, 100]]
noncomputable def evWord (k : Int) : List UInt8 := if 1 ≤ k ∧ k ≤ 8 then evWords.getD (k.toNat - 1) [] else Lib.itoa k
/-- an event's line, of its six numbers -/
noncomputable def evLine : List Int → List UInt8
  | s :: k :: r => Lib.join (Lib.itoa s :: evWord k :: r.map Lib.itoa) [32]
  | _ => []
noncomputable def evText : Nat → List Int → List UInt8
  | 0, _ => []
  | n + 1, l => evLine (l.take 6) ++ 10 :: evText n (l.drop 6)
/-- trace.Text -/
noncomputable def xText (vs : List AV) (S : St) : Option (AV × St) :=
  match vs with
  | [.sl a len _ _] => bif Nat.beq len 0 then some (.s [], S) else match a with
    | some a => match rdCells S.h (some a) (len * 6) with
      | some cs => match intsOf cs with
        | some zs => bif Nat.blt len 1000000 && zs.all fits then some (.s (evText len zs), S) else none
        | none => none
      | none => none
    | none => none
  | _ => none
noncomputable def extSem (k : Nat) (vs : List AV) (S : St) : Option (AV × St) :=
  match k with
  | 0 => xSort vs S
  | 1 => xItoa vs S
  | 2 => xFields vs S
  | 3 => xSplit vs S
  | 4 => xCut vs S
  | 5 => xJoin vs S
  | 6 => xText vs S
  | t + 7 => xAtoi t vs S
noncomputable def exec1 (F : Nat → Option AFn) (E : Ec) : Ec
  | .skip => fun T S => some (.norm, T, S)
  | .reg ops => xReg (callOf F E) ops
  | .regD ops chk => xRegD (callOf F E) ops chk
  | .seq a b => xSeq E a b
  | .cond c x y => xCond E c x y
  | .block id c => xBlock E id c
  | .loop c => xLoop E c
  | .exit id => fun T S => some (.ex id, T, S)
  | .ret => fun T S => some (.ret, T, S)
  | .ext k => fun T S => match extSem k (T.l.map fun x => x.2) S with
    | some (v, S') => some (.ret, { T with l := [(0, v)] }, S')
    | none => none
noncomputable def exec (F : Nat → Option AFn) (n : Nat) : Ec := Nat.rec (motive := fun _ => Ec) (fun _ _ _ => none) (fun _ E => exec1 F E) n

noncomputable def acall (F : Nat → Option AFn) (n : Nat) : Cll := callOf F (exec F n)
end Go.AM

/- The relation between the abstract machine's memory and the model's, and what a step may do to it. Plain theorems over definitions; no program in sight. -/
set_option linter.unusedVariables false
set_option linter.unusedSimpArgs false
namespace Go.AM
open Go.RowKit (Below)

/-! ### finite maps -/
theorem PM.get_mkL {α : Type} (u : Option α) (l r : PM α) (n : Nat) : (PM.mkL u l r).get n = (PM.node u l r).get n := by
  cases l <;> rfl
theorem PM.get_mkR {α : Type} (u : Option α) (l r : PM α) (n : Nat) : (PM.mkR u l r).get n = (PM.node u l r).get n := by
  cases r <;> rfl
theorem PM.get_node {α : Type} (u : Option α) (l r : PM α) (n : Nat) :
    (PM.node u l r).get n = if n = 0 then u else if n % 2 = 1 then l.get (n / 2) else r.get (n / 2 - 1) := by
  show (bif Nat.beq n 0 then u else bif Nat.beq (n % 2) 1 then l.get (n / 2) else r.get (n / 2 - 1)) = _
  by_cases h : n = 0
  · subst h; rfl
  · have h0 : Nat.beq n 0 = false := by
      cases hb : Nat.beq n 0
      · rfl
      · exact absurd (Nat.eq_of_beq_eq_true hb) h
    rw [if_neg h, h0]
    by_cases h1 : n % 2 = 1
    · rw [if_pos h1, h1]; rfl
    · have : n % 2 = 0 := by omega
      rw [if_neg h1, this]; rfl
theorem PM.get_nil {α : Type} (n : Nat) : (PM.nil : PM α).get n = none := rfl
theorem PM.get_put {α : Type} (v : Option α) : ∀ (f : Nat) (t : PM α) (n m : Nat), n < f → (PM.put v f t n).get m = if m = n then v else t.get m := by
  intro f
  induction f with
  | zero => intro t n m h; omega
  | succ f ih =>
    intro t n m h
    have h2 : n % 2 < 2 := Nat.mod_lt _ (by omega)
    cases t with
    | nil =>
      show (bif Nat.beq n 0 then PM.node v .nil .nil else bif Nat.beq (n % 2) 1 then PM.mkL none (PM.put v f .nil (n / 2)) .nil else PM.mkR none .nil (PM.put v f .nil (n / 2 - 1))).get m = _
      by_cases h0 : n = 0
      · subst h0
        show (PM.node v .nil .nil).get m = _
        rw [PM.get_node]
        by_cases hm : m = 0
        · simp [hm]
        · simp [hm, PM.get_nil]
      · have hb : Nat.beq n 0 = false := by
          cases hb : Nat.beq n 0
          · rfl
          · exact absurd (Nat.eq_of_beq_eq_true hb) h0
        rw [hb]
        by_cases h1 : n % 2 = 1
        · rw [h1]
          show (PM.mkL none (PM.put v f .nil (n / 2)) .nil).get m = _
          rw [PM.get_mkL, PM.get_node, ih _ _ _ (by omega)]
          by_cases hm : m = n
          · subst hm; simp [h0, h1]
          · simp only [hm, if_false, PM.get_nil]
            repeat' split
            all_goals first | rfl | (exfalso; omega)
        · have h10 : n % 2 = 0 := by omega
          rw [h10]
          show (PM.mkR none .nil (PM.put v f .nil (n / 2 - 1))).get m = _
          rw [PM.get_mkR, PM.get_node, ih _ _ _ (by omega)]
          by_cases hm : m = n
          · subst hm; simp [h0, h1]
          · simp only [hm, if_false, PM.get_nil]
            repeat' split
            all_goals first | rfl | (exfalso; omega)
    | node u l r =>
      show (bif Nat.beq n 0 then PM.node v l r else bif Nat.beq (n % 2) 1 then PM.mkL u (PM.put v f l (n / 2)) r else PM.mkR u l (PM.put v f r (n / 2 - 1))).get m = _
      by_cases h0 : n = 0
      · subst h0
        show (PM.node v l r).get m = _
        rw [PM.get_node, PM.get_node]
        by_cases hm : m = 0
        · simp [hm]
        · simp [hm]
      · have hb : Nat.beq n 0 = false := by
          cases hb : Nat.beq n 0
          · rfl
          · exact absurd (Nat.eq_of_beq_eq_true hb) h0
        rw [hb]
        by_cases h1 : n % 2 = 1
        · rw [h1]
          show (PM.mkL u (PM.put v f l (n / 2)) r).get m = _
          rw [PM.get_mkL, PM.get_node, PM.get_node, ih _ _ _ (by omega)]
          by_cases hm : m = n
          · subst hm; simp [h0, h1]
          · simp only [hm, if_false]
            repeat' split
            all_goals first | rfl | (exfalso; omega)
        · have h10 : n % 2 = 0 := by omega
          rw [h10]
          show (PM.mkR u l (PM.put v f r (n / 2 - 1))).get m = _
          rw [PM.get_mkR, PM.get_node, PM.get_node, ih _ _ _ (by omega)]
          by_cases hm : m = n
          · subst hm; simp [h0, h1]
          · simp only [hm, if_false]
            repeat' split
            all_goals first | rfl | (exfalso; omega)
theorem PM.get_set {α : Type} (t : PM α) (n m : Nat) (v : Option α) : (t.set n v).get m = if m = n then v else t.get m :=
  PM.get_put v (n + 1) t n m (by omega)

/-! ### values -/
/-- Where each name lies: a block, where in it, and how many cells there are from there on. -/
abbrev Bt := Nat → Option (Nat × Nat × Nat)

mutual
inductive VR (β : Bt) : AV → Value → Prop
  | bad (v : Value) : VR β .bad v
  | b (x : Bool) : VR β (.b x) (.bool x)
  | i (k : IntKind) (n : Int) : VR β (.i k n) (.int k n)
  | s (l : List UInt8) : VR β (.s l) (.string ⟨l.toArray⟩)
  | pn : VR β (.p none) (.pointer none)
  | p {n k b o z : Nat} (h : β n = some (b, o, z)) : VR β (.p (some (n, k))) (.pointer (some ⟨b, o + k, none⟩))
  | sln : VR β (.sl none 0 0 0) (.slice none 0 0)
  | sl {n k b o z len c c' e : Nat} {ad : Addr} (h : β n = some (b, o, z)) (hl : len ≤ c) (hc : c ≤ c') (he : e = 0 → c' = c) (hz : e ≠ 0 → k + c' * e ≤ z) (ha : c' = 0 ∨ ad = ⟨b, o + k, none⟩) :
      VR β (.sl (some (n, k)) len c e) (.slice (some ad) len c')
  | mn : VR β (.m none) (.map none)
  | m {n b z : Nat} (h : β n = some (b, 0, z)) : VR β (.m (some n)) (.map (some b))
  | fn (f : Nat) {fs cs : List AV} {fs' cs' : Array Value} (h1 : VRs β fs fs'.toList) (h2 : VRs β cs cs'.toList) : VR β (.fn f fs cs) (.func (.func f) fs' cs')
  | nilf : VR β .nilf .nilFunc
  | ifc (t : Nat) {v : AV} {v' : Value} (h : VR β v v') : VR β (.ifc t v) (.iface t v')
  | nili : VR β .nili .nilIface
  | agg {l : List AV} {l' : Array Value} (h : VRs β l l'.toList) : VR β (.agg l) (.agg l')
  | tup {l : List AV} {l' : Array Value} (h : VRs β l l'.toList) : VR β (.tup l) (.tuple l')
inductive VRs (β : Bt) : List AV → List Value → Prop
  | nil : VRs β [] []
  | cons {v : AV} {v' : Value} {l : List AV} {l' : List Value} (h : VR β v v') (t : VRs β l l') : VRs β (v :: l) (v' :: l')
end

def Ext (β γ : Bt) : Prop := ∀ n x, β n = some x → γ n = some x
theorem Ext.refl (β : Bt) : Ext β β := fun _ _ h => h
theorem Ext.trans {β γ δ : Bt} (h : Ext β γ) (k : Ext γ δ) : Ext β δ := fun n x e => k n x (h n x e)

mutual
theorem VR.mono {β γ : Bt} (e : Ext β γ) {v : AV} {v' : Value} : VR β v v' → VR γ v v'
  | .bad v => .bad v
  | .b x => .b x
  | .i k n => .i k n
  | .s l => .s l
  | .pn => .pn
  | .p h => .p (e _ _ h)
  | .sln => .sln
  | .sl h hl hc he hz ha => .sl (e _ _ h) hl hc he hz ha
  | .mn => .mn
  | .m h => .m (e _ _ h)
  | .fn f h1 h2 => .fn f (VRs.mono e h1) (VRs.mono e h2)
  | .nilf => .nilf
  | .ifc t h => .ifc t (VR.mono e h)
  | .nili => .nili
  | .agg h => .agg (VRs.mono e h)
  | .tup h => .tup (VRs.mono e h)
theorem VRs.mono {β γ : Bt} (e : Ext β γ) {l : List AV} {l' : List Value} : VRs β l l' → VRs γ l l'
  | .nil => .nil
  | .cons h t => .cons (VR.mono e h) (VRs.mono e t)
end

theorem VRs.length {β : Bt} : ∀ {l : List AV} {l' : List Value}, VRs β l l' → l.length = l'.length
  | _, _, .nil => rfl
  | _, _, .cons _ t => by simp [VRs.length t]
theorem VRs.get {β : Bt} : ∀ {l : List AV} {l' : List Value} (_ : VRs β l l') {i : Nat} {v : AV}, l[i]? = some v → ∃ v', l'[i]? = some v' ∧ VR β v v'
  | _, _, .nil, i, v, h => by simp at h
  | _, _, .cons hv t, 0, v, h => by simp at h; subst h; exact ⟨_, rfl, hv⟩
  | _, _, .cons _ t, i + 1, v, h => by
    obtain ⟨v', h1, h2⟩ := VRs.get t (i := i) (by simpa using h)
    exact ⟨v', by simpa using h1, h2⟩
theorem VRs.of_get {β : Bt} : ∀ {l : List AV} {l' : List Value}, l.length = l'.length → (∀ (i : Nat) v v', l[i]? = some v → l'[i]? = some v' → VR β v v') → VRs β l l'
  | [], [], _, _ => .nil
  | [], _ :: _, h, _ => by simp at h
  | _ :: _, [], h, _ => by simp at h
  | v :: l, v' :: l', h, k => .cons (k 0 v v' rfl rfl) (VRs.of_get (by simpa using h) fun i a b ha hb => k (i + 1) a b (by simpa using ha) (by simpa using hb))
theorem VRs.append {β : Bt} : ∀ {l : List AV} {l' : List Value} {m : List AV} {m' : List Value}, VRs β l l' → VRs β m m' → VRs β (l ++ m) (l' ++ m')
  | _, _, _, _, .nil, h => h
  | _, _, _, _, .cons hv t, h => .cons hv (VRs.append t h)
theorem VRs.take {β : Bt} : ∀ (n : Nat) {l : List AV} {l' : List Value}, VRs β l l' → VRs β (l.take n) (l'.take n)
  | 0, _, _, _ => by simp; exact .nil
  | n + 1, _, _, .nil => by simp; exact .nil
  | n + 1, _, _, .cons hv t => by simp; exact .cons hv (VRs.take n t)
theorem VRs.drop {β : Bt} : ∀ (n : Nat) {l : List AV} {l' : List Value}, VRs β l l' → VRs β (l.drop n) (l'.drop n)
  | 0, _, _, h => by simpa using h
  | n + 1, _, _, .nil => by simp; exact .nil
  | n + 1, _, _, .cons hv t => by simpa using VRs.drop n t

theorem VR.one {β : Bt} {v : AV} {v' : Value} (h : VR β v v') (h1 : v.one = true) : v'.oneCell' = true := by
  cases h <;> first | rfl | (simp [AV.one] at h1)
theorem VRs.ones {β : Bt} : ∀ {l : List AV} {l' : List Value}, VRs β l l' → l.all AV.one = true → ∀ v ∈ l', v.oneCell' = true
  | _, _, .nil, _, v, hv => by simp at hv
  | _, _, .cons h t, h1, v, hv => by
    simp only [List.all_cons, Bool.and_eq_true] at h1
    rcases List.mem_cons.1 hv with rfl | hv
    · exact h.one h1.1
    · exact VRs.ones t h1.2 v hv
theorem VR.cells {β : Bt} {v : AV} {v' : Value} {l : List AV} (h : VR β v v') (hc : v.cellsOf = some l) : VRs β l v'.cells.toList ∧ l.all AV.one = true := by
  cases h with
  | agg h =>
    simp only [AV.cellsOf] at hc
    rename_i m m'
    cases hm : m.all AV.one
    · rw [hm] at hc; simp at hc
    · rw [hm] at hc; simp at hc; subst hc; exact ⟨h, hm⟩
  | tup h => simp [AV.cellsOf] at hc
  | bad => simp [AV.cellsOf] at hc
  | _ => simp only [AV.cellsOf, Option.some.injEq] at hc; subst hc; exact ⟨.cons (by constructor <;> assumption) .nil, rfl⟩

/-! ### blocks -/
def CellsR (β : Bt) (c : List AV) (o : Nat) (cur : Array Value) : Prop := ∀ (i : Nat) v, c[i]? = some v → ∃ u, cur[o + i]? = some u ∧ VR β v u
inductive MapR (β : Bt) : List (AV × AV) → List MapEntry → Prop
  | nil : MapR β [] []
  | cons {k : IntKind} {n : Int} {v : AV} {v' : Value} {bn : Nat} {es : List (AV × AV)} {es' : List MapEntry} (h : VR β v v') (t : MapR β es es') : MapR β ((.i k n, v) :: es) (⟨.int k n, v', bn⟩ :: es')
theorem CellsR.mono {β γ : Bt} (e : Ext β γ) {c : List AV} {o : Nat} {cur : Array Value} (h : CellsR β c o cur) : CellsR γ c o cur :=
  fun i v hv => let ⟨u, h1, h2⟩ := h i v hv; ⟨u, h1, h2.mono e⟩
theorem MapR.mono {β γ : Bt} (e : Ext β γ) : ∀ {es : List (AV × AV)} {es' : List MapEntry}, MapR β es es' → MapR γ es es'
  | _, _, .nil => .nil
  | _, _, .cons h t => .cons (h.mono e) (MapR.mono e t)

def AB.own : AB → Bool
  | .ro _ => false
  | _ => true

/-- A block of the abstract machine, and what lies at a place of the model's memory. -/
def BR (β : Bt) (B0 : Nat) (heap : Array Obj) (b o z : Nat) : AB → Prop
  | .cells c => B0 ≤ b ∧ ∃ cur t, heap[b]? = some (.cells cur t (0, 0)) ∧ o + z ≤ cur.size ∧ CellsR β c o cur
  | .ro c => ∃ cur t fr, heap[b]? = some (.cells cur t fr) ∧ CellsR β c o cur
  | .map es => B0 ≤ b ∧ o = 0 ∧ ∃ ES clk, heap[b]? = some (.map ES clk) ∧ MapR β es ES.toList
theorem BR.mono {β γ : Bt} (e : Ext β γ) {B0 : Nat} {heap : Array Obj} {b o z : Nat} : ∀ {blk : AB}, BR β B0 heap b o z blk → BR γ B0 heap b o z blk
  | .cells _, ⟨h0, cur, t, h1, hz, h2⟩ => ⟨h0, cur, t, h1, hz, h2.mono e⟩
  | .ro _, ⟨cur, t, fr, h1, h2⟩ => ⟨cur, t, fr, h1, h2.mono e⟩
  | .map _, ⟨h0, ho, ES, clk, h1, h2⟩ => ⟨h0, ho, ES, clk, h1, h2.mono e⟩
theorem BR.congr {β : Bt} {B0 : Nat} {heap heap' : Array Obj} {b o z : Nat} (h : heap'[b]? = heap[b]?) : ∀ {blk : AB}, BR β B0 heap b o z blk → BR β B0 heap' b o z blk
  | .cells _, ⟨h0, cur, t, h1, hz, h2⟩ => ⟨h0, cur, t, h.trans h1, hz, h2⟩
  | .ro _, ⟨cur, t, fr, h1, h2⟩ => ⟨cur, t, fr, h.trans h1, h2⟩
  | .map _, ⟨h0, ho, ES, clk, h1, h2⟩ => ⟨h0, ho, ES, clk, h.trans h1, h2⟩
theorem BR.lt {β : Bt} {B0 : Nat} {heap : Array Obj} {b o z : Nat} : ∀ {blk : AB}, BR β B0 heap b o z blk → b < heap.size
  | .cells _, ⟨_, _, _, h1, _, _⟩ => (Array.getElem?_eq_some_iff.1 h1).1
  | .ro _, ⟨_, _, _, h1, _⟩ => (Array.getElem?_eq_some_iff.1 h1).1
  | .map _, ⟨_, _, _, _, h1, _⟩ => (Array.getElem?_eq_some_iff.1 h1).1
theorem BR.le {β : Bt} {B0 : Nat} {heap : Array Obj} {b o z : Nat} : ∀ {blk : AB}, BR β B0 heap b o z blk → blk.own = true → B0 ≤ b
  | .cells _, h, _ => h.1
  | .map _, h, _ => h.1
  | .ro _, _, h => by simp [AB.own] at h

/-- what the package variables hold -/
def GC : Nat → List AV := fun _ => [.i .u8 0, .i .u8 0, .i .u8 0, .i .u8 0, .i .u8 0, .i .u8 0, .i .u8 0, .i .u8 0, .i .u8 0, .i .u8 1, .i .u8 1, .i .u8 1, .i .u8 1, .i .u8 1, .i .u8 0, .i .u8 0, .i .u8 0, .i .u8 0, .i .u8 0, .i .u8 0, .i .u8 0, .i .u8 0, .i .u8 0, .i .u8 0, .i .u8 0, .i .u8 0, .i .u8 0, .i .u8 0, .i .u8 0, .i .u8 0, .i .u8 0, .i .u8 0, .i .u8 1, .i .u8 0, .i .u8 0, .i .u8 0, .i .u8 0, .i .u8 0, .i .u8 0, .i .u8 0, .i .u8 0, .i .u8 0, .i .u8 0, .i .u8 0, .i .u8 0, .i .u8 0, .i .u8 0, .i .u8 0, .i .u8 0, .i .u8 0, .i .u8 0, .i .u8 0, .i .u8 0, .i .u8 0, .i .u8 0, .i .u8 0, .i .u8 0, .i .u8 0, .i .u8 0, .i .u8 0, .i .u8 0, .i .u8 0, .i .u8 0, .i .u8 0, .i .u8 0, .i .u8 0, .i .u8 0, .i .u8 0, .i .u8 0, .i .u8 0, .i .u8 0, .i .u8 0, .i .u8 0, .i .u8 0, .i .u8 0, .i .u8 0, .i .u8 0, .i .u8 0, .i .u8 0, .i .u8 0, .i .u8 0, .i .u8 0, .i .u8 0, .i .u8 0, .i .u8 0, .i .u8 0, .i .u8 0, .i .u8 0, .i .u8 0, .i .u8 0, .i .u8 0, .i .u8 0, .i .u8 0, .i .u8 0, .i .u8 0, .i .u8 0, .i .u8 0, .i .u8 0, .i .u8 0, .i .u8 0, .i .u8 0, .i .u8 0, .i .u8 0, .i .u8 0, .i .u8 0, .i .u8 0, .i .u8 0, .i .u8 0, .i .u8 0, .i .u8 0, .i .u8 0, .i .u8 0, .i .u8 0, .i .u8 0, .i .u8 0, .i .u8 0, .i .u8 0, .i .u8 0, .i .u8 0, .i .u8 0, .i .u8 0, .i .u8 0, .i .u8 0, .i .u8 0, .i .u8 0, .i .u8 0, .i .u8 0, .i .u8 0, .i .u8 0, .i .u8 0, .i .u8 0, .i .u8 0, .i .u8 0, .i .u8 0, .i .u8 0, .i .u8 0, .i .u8 0, .i .u8 0, .i .u8 0, .i .u8 0, .i .u8 0, .i .u8 0, .i .u8 0, .i .u8 0, .i .u8 0, .i .u8 0, .i .u8 0, .i .u8 0, .i .u8 0, .i .u8 0, .i .u8 0, .i .u8 0, .i .u8 0, .i .u8 0, .i .u8 0, .i .u8 0, .i .u8 0, .i .u8 0, .i .u8 0, .i .u8 0, .i .u8 0, .i .u8 0, .i .u8 0, .i .u8 0, .i .u8 0, .i .u8 0, .i .u8 0, .i .u8 0, .i .u8 0, .i .u8 0, .i .u8 0, .i .u8 0, .i .u8 0, .i .u8 0, .i .u8 0, .i .u8 0, .i .u8 0, .i .u8 0, .i .u8 0, .i .u8 0, .i .u8 0, .i .u8 0, .i .u8 0, .i .u8 0, .i .u8 0, .i .u8 0, .i .u8 0, .i .u8 0, .i .u8 0, .i .u8 0, .i .u8 0, .i .u8 0, .i .u8 0, .i .u8 0, .i .u8 0, .i .u8 0, .i .u8 0, .i .u8 0, .i .u8 0, .i .u8 0, .i .u8 0, .i .u8 0, .i .u8 0, .i .u8 0, .i .u8 0, .i .u8 0, .i .u8 0, .i .u8 0, .i .u8 0, .i .u8 0, .i .u8 0, .i .u8 0, .i .u8 0, .i .u8 0, .i .u8 0, .i .u8 0, .i .u8 0, .i .u8 0, .i .u8 0, .i .u8 0, .i .u8 0, .i .u8 0, .i .u8 0, .i .u8 0, .i .u8 0, .i .u8 0, .i .u8 0, .i .u8 0, .i .u8 0, .i .u8 0, .i .u8 0, .i .u8 0, .i .u8 0, .i .u8 0, .i .u8 0, .i .u8 0, .i .u8 0, .i .u8 0, .i .u8 0, .i .u8 0, .i .u8 0, .i .u8 0, .i .u8 0, .i .u8 0, .i .u8 0, .i .u8 0, .i .u8 0, .i .u8 0, .i .u8 0, .i .u8 0, .i .u8 0, .i .u8 0, .i .u8 0, .i .u8 0, .i .u8 0, .i .u8 0]
def GW (w : World) : Prop := ∀ g, g < GN → ∃ cur t fr, w.heap[g]? = some (.cells cur t fr) ∧ CellsR (fun _ => none) (GC g) 0 cur ∧ cur.size = (GC g).length
theorem GW.mono {B0 : Nat} {w w' : World} (h : GW w) (hl : GN ≤ B0) (e : ∀ k, k < B0 → w'.heap[k]? = w.heap[k]?) : GW w' := fun g hg => by
  obtain ⟨cur, t, fr, h1, h2⟩ := h g hg
  exact ⟨cur, t, fr, by rw [e g (by omega)]; exact h1, h2⟩
structure GOk (β : Bt) (B0 : Nat) (w : World) : Prop where
  nm : ∀ g, g < GN → β g = some (g, 0, 0)
  le : GN ≤ B0
  gw : GW w
theorem GOk.mono {β γ : Bt} {B0 : Nat} {w w' : World} (h : GOk β B0 w) (he : Ext β γ) (e : ∀ k, k < B0 → w'.heap[k]? = w.heap[k]?) : GOk γ B0 w' :=
  ⟨fun g hg => he _ _ (h.nm g hg), h.le, h.gw.mono h.le e⟩
/-- The whole memory. -/
structure Rel (β : Bt) (B0 : Nat) (h : PM AB) (w : World) : Prop where
  blk : ∀ n bl b o z, h.get n = some bl → β n = some (b, o, z) → BR β B0 w.heap b o z bl
  inj : ∀ n m bl bm b x y, h.get n = some bl → h.get m = some bm → bl.own = true → β n = some (b, x) → β m = some (b, y) → n = m
  le : B0 ≤ w.heap.size
  gl : GOk β B0 w

theorem Rel.lt {β : Bt} {B0 : Nat} {h : PM AB} {w : World} (hR : Rel β B0 h w) {n : Nat} {bl : AB} {b : Nat} {x : Nat × Nat} (hg : h.get n = some bl) (hn : β n = some (b, x)) : b < w.heap.size := (hR.blk n bl b x.1 x.2 hg hn).lt

/-- Is block b one of the machine's own that lives? -/
def Own (β : Bt) (h : PM AB) (b : Nat) : Prop := ∃ n bl x, h.get n = some bl ∧ bl.own = true ∧ β n = some (b, x)

/-- From one state to a later one. -/
structure Stp (B0 : Nat) (β : Bt) (S : St) (w : World) (γ : Bt) (S' : St) (w' : World) : Prop where
  ext : Ext β γ
  dom : ∀ n, β n = none → γ n ≠ none → S.nx ≤ n ∧ n < S'.nx
  rel : Rel γ B0 S'.h w'
  bel : Below B0 w w'
  fr : ∀ b, b < w.heap.size → ¬ Own β S.h b → w'.heap[b]? = w.heap[b]?
  src : ∀ b, Own γ S'.h b → w.heap.size ≤ b ∨ Own β S.h b
  ph : ∀ n, n < S.nx → β n = none → S'.h.get n = S.h.get n
  nx : S.nx ≤ S'.nx

/-- Names that are still free for this step. -/
def Free (β : Bt) (n m : Nat) : Prop := ∀ k, n ≤ k → k < m → β k = none

theorem Stp.refl {B0 : Nat} {β : Bt} {S : St} {w : World} (h : Rel β B0 S.h w) : Stp B0 β S w β S w :=
  ⟨Ext.refl β, fun n h1 h2 => absurd h1 h2, h, Below.refl _ _, fun _ _ _ => rfl, fun b hb => .inr hb, fun _ _ _ => rfl, Nat.le_refl _⟩
theorem Stp.trans {B0 : Nat} {β γ δ : Bt} {S S1 S2 : St} {w w1 w2 : World} (h : Stp B0 β S w γ S1 w1) (k : Stp B0 γ S1 w1 δ S2 w2) : Stp B0 β S w δ S2 w2 where
  ext := h.ext.trans k.ext
  dom := fun n h1 h2 => by
    cases hg : γ n with
    | none => have := k.dom n hg h2; have := h.nx; exact ⟨by omega, by omega⟩
    | some x => have := h.dom n h1 (by simp [hg]); have := k.nx; exact ⟨by omega, by omega⟩
  rel := k.rel
  bel := h.bel.trans k.bel
  fr := fun b hb hn => by
    rw [k.fr b (Nat.lt_of_lt_of_le hb h.bel.size) (fun ho => (h.src b ho).elim (fun h' => absurd hb (by omega)) hn), h.fr b hb hn]
  src := fun b hb => by
    rcases k.src b hb with h' | h'
    · exact .inl (Nat.le_trans h.bel.size h')
    · exact h.src b h'
  ph := fun n hn hb => by
    have hg : γ n = none := by
      cases hg : γ n with
      | none => rfl
      | some x => have := h.dom n hb (by simp [hg]); omega
    rw [k.ph n (Nat.lt_of_lt_of_le hn h.nx) hg, h.ph n hn hb]
  nx := Nat.le_trans h.nx k.nx
theorem Free.left {β : Bt} {n m k : Nat} (h : Free β n k) (hm : m ≤ k) : Free β n m := fun j h1 h2 => h j h1 (by omega)
theorem Free.right {B0 : Nat} {β γ : Bt} {S S' : St} {w w' : World} {m : Nat} (h : Free β S.nx m) (hs : Stp B0 β S w γ S' w') : Free γ S'.nx m := fun j h1 h2 => by
  cases hg : γ j with
  | none => rfl
  | some x =>
    have h0 : β j = none := h j (Nat.le_trans hs.nx h1) h2
    have := hs.dom j h0 (by simp [hg])
    omega
end Go.AM

/- Steps on memory: cells read, cells written, a new block, a block that is gone. Plain theorems over definitions. -/
set_option linter.unusedVariables false
set_option linter.unusedSimpArgs false
namespace Go.AM
open Go.RowKit (Below)

theorem add_at (b o j : Nat) : (⟨b, o, none⟩ : Addr).add j = ⟨b, o + j, none⟩ := by unfold Addr.add; split <;> simp_all

/-! ### reading -/
theorem BR.reads {β : Bt} {B0 : Nat} {w : World} {b o z : Nat} {bl : AB} {c : List AV} (h : BR β B0 w.heap b o z bl) (hr : bl.read = some c) :
    ∃ cur t fr, w.heap[b]? = some (.cells cur t fr) ∧ CellsR β c o cur := by
  cases bl with
  | cells c' => simp [AB.read] at hr; subst hr; obtain ⟨_, cur, t, h1, _, h2⟩ := h; exact ⟨cur, t, _, h1, h2⟩
  | ro c' => simp [AB.read] at hr; subst hr; obtain ⟨cur, t, fr, h1, h2⟩ := h; exact ⟨cur, t, fr, h1, h2⟩
  | map es => simp [AB.read] at hr
theorem cell_of {w : World} {b i : Nat} {cur : Array Value} {t : TypeId} {fr : Nat × Nat} {u : Value} (h : w.heap[b]? = some (.cells cur t fr)) (hu : cur[i]? = some u) : w.cell? ⟨b, i, none⟩ = some u := by
  simp [World.cell?, h, hu]
theorem cut_get {c l : List AV} {k n : Nat} (h : cut c k n = some l) : l.length = n ∧ k + n ≤ c.length ∧ ∀ j v, l[j]? = some v → c[k + j]? = some v := by
  unfold cut at h
  cases hb : Nat.ble (k + n) c.length with
  | false => rw [hb] at h; cases h
  | true =>
    have hle : k + n ≤ c.length := Nat.le_of_ble_eq_true hb
    rw [hb] at h
    have h' : (c.drop k).take n = l := by simpa using h
    subst h'
    refine ⟨by simp; omega, hle, fun j v hv => ?_⟩
    rw [List.getElem?_take] at hv
    split at hv
    · simpa using hv
    · cases hv
/-- cells that are read out of a block -/
theorem read_cells {β : Bt} {B0 : Nat} {h : PM AB} {w : World} (hR : Rel β B0 h w) {n b o z k m : Nat} {bl : AB} {c l : List AV} (hg : h.get n = some bl) (hr : bl.read = some c)
    (hb : β n = some (b, o, z)) (hc : cut c k m = some l) : ∃ l', VRs β l l' ∧ ∀ j v', l'[j]? = some v' → w.cell? ⟨b, o + k + j, none⟩ = some v' := by
  obtain ⟨cur, t, fr, h1, h2⟩ := (hR.blk n bl b o z hg hb).reads hr
  obtain ⟨hl, hle, hget⟩ := cut_get hc
  have key : ∀ j, ∀ v, l[j]? = some v → ∃ u, cur[o + k + j]? = some u ∧ VR β v u := fun j v hv => by
    obtain ⟨u, hu, hv'⟩ := h2 _ _ (hget j v hv)
    exact ⟨u, by rw [Nat.add_assoc]; exact hu, hv'⟩
  rcases Nat.eq_zero_or_pos l.length with h0 | h0
  · obtain rfl : l = [] := List.eq_nil_of_length_eq_zero h0
    exact ⟨[], .nil, fun j v' hv => by simp at hv⟩
  have hsz : o + k + l.length ≤ cur.size := by
    obtain ⟨u, hu, _⟩ := key (l.length - 1) (l[l.length - 1]'(by omega)) (by simp)
    have := (Array.getElem?_eq_some_iff.1 hu).1
    omega
  refine ⟨(cur.toList.drop (o + k)).take l.length, ?_, ?_⟩
  · refine VRs.of_get (by simp; omega) fun i v v' hv hv' => ?_
    obtain ⟨u, hu, hr⟩ := key i v hv
    rw [List.getElem?_take] at hv'
    split at hv'
    · rw [List.getElem?_drop, Array.getElem?_toList, hu] at hv'
      cases hv'
      exact hr
    · cases hv'
  · intro j v' hv'
    rw [List.getElem?_take] at hv'
    split at hv'
    · rw [List.getElem?_drop, Array.getElem?_toList] at hv'
      exact cell_of h1 hv'
    · cases hv'

theorem rd_cells {β : Bt} {B0 : Nat} {h : PM AB} {w : World} (hR : Rel β B0 h w) {a : Nat × Nat} {m : Nat} {l : List AV} (hc : rdCells h (some a) m = some l) {b o z : Nat} (hb : β a.1 = some (b, o, z)) :
    l.length = m ∧ ∃ l', VRs β l l' ∧ ∀ j v', l'[j]? = some v' → w.cell? ⟨b, o + a.2 + j, none⟩ = some v' := by
  unfold rdCells at hc
  obtain ⟨r, k⟩ := a
  simp only at hc hb
  split at hc
  · rename_i bl hg
    split at hc
    · rename_i c hr
      exact ⟨(cut_get hc).1, read_cells hR hg hr hb hc⟩
    · cases hc
  · cases hc
theorem rd_at {β : Bt} {B0 : Nat} {h : PM AB} {w : World} (hR : Rel β B0 h w) {a : Nat × Nat} {v : AV} (hc : rdAt h a none = some v) {b o z : Nat} (hb : β a.1 = some (b, o, z)) :
    ∃ v', VR β v v' ∧ w.cell? ⟨b, o + a.2, none⟩ = some v' := by
  unfold rdAt at hc
  obtain ⟨r, k⟩ := a
  simp only at hc hb
  split at hc
  · rename_i bl hg
    split at hc
    · rename_i c hr
      obtain ⟨cur, t, fr, h1, h2⟩ := (hR.blk r bl b o z hg hb).reads hr
      obtain ⟨u, hu, hv⟩ := h2 k v hc
      exact ⟨u, hv, cell_of h1 hu⟩
    · cases hc
  · cases hc
theorem rd_agg {β : Bt} {B0 : Nat} {h : PM AB} {w : World} (hR : Rel β B0 h w) {a : Nat × Nat} {sz : Nat} {v : AV} (hc : rdAt h a (some sz) = some v) {b o z : Nat} (hb : β a.1 = some (b, o, z)) :
    ∃ l l', v = .agg l ∧ l.length = sz ∧ VRs β l l' ∧ ∀ j v', l'[j]? = some v' → w.cell? ⟨b, o + a.2 + j, none⟩ = some v' := by
  unfold rdAt at hc
  obtain ⟨r, k⟩ := a
  simp only at hc hb
  split at hc
  · rename_i bl hg
    split at hc
    · rename_i c hr
      simp only [look] at hc
      cases hl : cut c k sz with
      | none => rw [hl] at hc; cases hc
      | some l =>
        rw [hl] at hc
        cases hc
        obtain ⟨l', h1, h2⟩ := read_cells hR hg hr hb hl
        exact ⟨l, l', rfl, (cut_get hl).1, h1, h2⟩
    · cases hc
  · cases hc

/-! ### a block is changed -/
theorem stp_set {β : Bt} {B0 : Nat} {S : St} {w w' : World} (hR : Rel β B0 S.h w) {n b o z : Nat} {bl bl' : AB} (hg : S.h.get n = some bl) (ho : bl.own = true) (ho' : bl'.own = true)
    (hb : β n = some (b, o, z)) (hos : w'.os = w.os) (htp : w'.tape = w.tape) (hou : w'.output = w.output) (hsz : w'.heap.size = w.heap.size)
    (hoth : ∀ k, k ≠ b → w'.heap[k]? = w.heap[k]?) (hbr : BR β B0 w'.heap b o z bl') : Stp B0 β S w β { S with h := S.h.set n (some bl') } w' := by
  have hlb : B0 ≤ b := (hR.blk n bl b o z hg hb).le ho
  have own_of : ∀ m blm x, (S.h.set n (some bl')).get m = some blm → β m = some (b, x) → m = n := by
    intro m blm x hm hbm
    by_cases hmn : m = n
    · exact hmn
    · rw [PM.get_set, if_neg hmn] at hm
      exact (hR.inj n m bl blm b _ _ hg hm ho hb hbm).symm
  refine ⟨Ext.refl β, fun _ h1 h2 => absurd h1 h2, ⟨?_, ?_, ?_, hR.gl.mono (Ext.refl β) fun k hk => hoth k (by omega)⟩, ?_, ?_, ?_, ?_, Nat.le_refl _⟩
  · intro m blm b1 o1 z1 hm hbm
    by_cases hmn : m = n
    · subst hmn
      rw [PM.get_set, if_pos rfl] at hm
      cases hm
      rw [hb] at hbm
      cases hbm
      exact hbr
    · have hm0 := hm
      rw [PM.get_set, if_neg hmn] at hm
      have hne : b1 ≠ b := fun e => hmn (own_of m blm (o1, z1) hm0 (by rw [hbm, e]))
      exact (hR.blk m blm b1 o1 z1 hm hbm).congr (hoth b1 hne)
  · intro m k blm blk b1 x y hm hk hom hbm hbk
    by_cases hb1 : b1 = b
    · subst hb1
      rw [own_of m blm x hm hbm, own_of k blk y hk hbk]
    · have hmn : m ≠ n := fun e => by subst e; rw [hb] at hbm; cases hbm; exact hb1 rfl
      have hkn : k ≠ n := fun e => by subst e; rw [hb] at hbk; cases hbk; exact hb1 rfl
      rw [PM.get_set, if_neg hmn] at hm
      rw [PM.get_set, if_neg hkn] at hk
      exact hR.inj m k blm blk b1 x y hm hk hom hbm hbk
  · have := hR.le
    show B0 ≤ w'.heap.size
    omega
  · exact ⟨hos, htp, hou, by omega, fun k hk => hoth k (by omega)⟩
  · intro k hk hn
    exact hoth k fun e => hn (e ▸ ⟨n, bl, _, hg, ho, hb⟩)
  · rintro k ⟨m, blm, x, hm, hom, hbm⟩
    refine .inr ?_
    by_cases hmn : m = n
    · subst hmn
      exact ⟨m, bl, x, hg, ho, hbm⟩
    · change (S.h.set n (some bl')).get m = some blm at hm
      rw [PM.get_set, if_neg hmn] at hm
      exact ⟨m, blm, x, hm, hom, hbm⟩
  · intro m hm hbm
    have hmn : m ≠ n := fun e => by subst e; rw [hb] at hbm; cases hbm
    show (S.h.set n (some bl')).get m = _
    rw [PM.get_set, if_neg hmn]

/-! ### a block is gone -/
theorem stp_gone {β : Bt} {B0 : Nat} {S : St} {w : World} (hR : Rel β B0 S.h w) (n : Nat) (hn : β n ≠ none) : Stp B0 β S w β { S with h := S.h.set n none } w := by
  have hge : ∀ m bl, (S.h.set n none).get m = some bl → S.h.get m = some bl := by
    intro m bl hm
    rw [PM.get_set] at hm
    split at hm
    · cases hm
    · exact hm
  refine ⟨Ext.refl β, fun _ h1 h2 => absurd h1 h2, ⟨?_, ?_, hR.le, hR.gl⟩, Below.refl _ _, fun _ _ _ => rfl, ?_, ?_, Nat.le_refl _⟩
  · intro m blm b1 o1 z1 hm hbm
    exact hR.blk m blm b1 o1 z1 (hge m blm hm) hbm
  · intro m k blm blk b1 x y hm hk hom hbm hbk
    exact hR.inj m k blm blk b1 x y (hge m blm hm) (hge k blk hk) hom hbm hbk
  · rintro k ⟨m, blm, x, hm, hom, hbm⟩
    exact .inr ⟨m, blm, x, hge m blm hm, hom, hbm⟩
  · intro m hm hbm
    have hmn : m ≠ n := fun e => hn (e ▸ hbm)
    show (S.h.set n none).get m = _
    rw [PM.get_set, if_neg hmn]

/-! ### a new name -/
def upd (β : Bt) (n : Nat) (x : Nat × Nat × Nat) : Bt := fun m => if m = n then some x else β m
theorem upd_ext {β : Bt} {n : Nat} {x : Nat × Nat × Nat} (h : β n = none) : Ext β (upd β n x) := fun m y hy => by
  unfold upd
  split
  · rename_i e; subst e; rw [h] at hy; cases hy
  · exact hy
theorem upd_same (β : Bt) (n : Nat) (x : Nat × Nat × Nat) : upd β n x n = some x := by simp [upd]

/-- a name that is new: for a block that is new, or that nobody owns any more -/
theorem name_core {β : Bt} {B0 : Nat} {S : St} {w w' : World} (hR : Rel β B0 S.h w) {b o z : Nat} {bl : AB} (hfree : β S.nx = none) (ho : bl.own = true)
    (hos : w'.os = w.os) (htp : w'.tape = w.tape) (hou : w'.output = w.output) (hsz : w.heap.size ≤ w'.heap.size) (hoth : ∀ k, k ≠ b → k < w.heap.size → w'.heap[k]? = w.heap[k]?)
    (hno : ∀ m blm x, S.h.get m = some blm → m ≠ S.nx → β m ≠ some (b, x)) (hlb : B0 ≤ b) (hbr : BR (upd β S.nx (b, o, z)) B0 w'.heap b o z bl) :
    Ext β (upd β S.nx (b, o, z)) ∧ Rel (upd β S.nx (b, o, z)) B0 (S.h.set S.nx (some bl)) w' ∧ Below B0 w w' := by
  have hext := upd_ext (x := (b, o, z)) hfree
  refine ⟨hext, ⟨?_, ?_, ?_, hR.gl.mono hext fun k hk => hoth k (by omega) (Nat.lt_of_lt_of_le hk hR.le)⟩, ⟨hos, htp, hou, hsz, fun k hk => hoth k (by omega) (Nat.lt_of_lt_of_le hk hR.le)⟩⟩
  · intro m blm b1 o1 z1 hm hbm
    by_cases hmn : m = S.nx
    · subst hmn
      rw [PM.get_set, if_pos rfl] at hm
      cases hm
      rw [upd_same] at hbm
      cases hbm
      exact hbr
    · rw [PM.get_set, if_neg hmn] at hm
      simp only [upd, if_neg hmn] at hbm
      have hne : b1 ≠ b := fun e => hno m blm (o1, z1) hm hmn (by rw [hbm, e])
      exact ((hR.blk m blm b1 o1 z1 hm hbm).mono hext).congr (hoth b1 hne (hR.lt hm hbm))
  · intro m k blm blk b1 x y hm hk hom hbm hbk
    by_cases hmn : m = S.nx <;> by_cases hkn : k = S.nx
    · rw [hmn, hkn]
    · subst hmn
      rw [PM.get_set, if_neg hkn] at hk
      rw [upd_same] at hbm
      simp only [upd, if_neg hkn] at hbk
      cases hbm
      exact absurd hbk (hno k blk y hk hkn)
    · subst hkn
      rw [PM.get_set, if_neg hmn] at hm
      rw [upd_same] at hbk
      simp only [upd, if_neg hmn] at hbm
      cases hbk
      exact absurd hbm (hno m blm x hm hmn)
    · rw [PM.get_set, if_neg hmn] at hm
      rw [PM.get_set, if_neg hkn] at hk
      simp only [upd, if_neg hmn] at hbm
      simp only [upd, if_neg hkn] at hbk
      exact hR.inj m k blm blk b1 x y hm hk hom hbm hbk
  · exact Nat.le_trans hR.le hsz

theorem stp_new {β : Bt} {B0 : Nat} {S : St} {w w' : World} (hR : Rel β B0 S.h w) {z : Nat} {bl : AB} {x : Obj} (hfree : β S.nx = none) (ho : bl.own = true)
    (hos : w'.os = w.os) (htp : w'.tape = w.tape) (hou : w'.output = w.output) (hh : w'.heap = w.heap.push x)
    (hbr : BR (upd β S.nx (w.heap.size, 0, z)) B0 w'.heap w.heap.size 0 z bl) :
    Stp B0 β S w (upd β S.nx (w.heap.size, 0, z)) { h := S.h.set S.nx (some bl), nx := S.nx + 1 } w' := by
  have hoth : ∀ k, k < w.heap.size → w'.heap[k]? = w.heap[k]? := fun k hk => by rw [hh, Array.getElem?_push, if_neg (by omega)]
  have hsz : w'.heap.size = w.heap.size + 1 := by rw [hh]; simp
  obtain ⟨h1, h2, h3⟩ := name_core hR hfree ho hos htp hou (by omega) (fun k _ hk => hoth k hk)
    (fun m blm y hm hmn hb => by have := hR.lt hm hb; omega) hR.le hbr
  refine ⟨h1, ?_, h2, h3, fun b hb _ => hoth b hb, ?_, ?_, by simp⟩
  · intro n hn hg
    by_cases e : n = S.nx
    · subst e; exact ⟨Nat.le_refl _, Nat.lt_succ_self _⟩
    · simp only [upd, if_neg e] at hg
      exact absurd hn hg
  · rintro b ⟨m, blm, y, hm, hom, hbm⟩
    by_cases e : m = S.nx
    · subst e
      rw [upd_same] at hbm
      cases hbm
      exact .inl (Nat.le_refl _)
    · change (S.h.set S.nx (some bl)).get m = some blm at hm
      rw [PM.get_set, if_neg e] at hm
      simp only [upd, if_neg e] at hbm
      exact .inr ⟨m, blm, y, hm, hom, hbm⟩
  · intro n hn hb
    show (S.h.set S.nx (some bl)).get n = _
    rw [PM.get_set, if_neg (by omega)]

theorem stp_reuse {β : Bt} {B0 : Nat} {S : St} {w w' : World} (hR : Rel β B0 S.h w) {r b o z : Nat} {y : Nat × Nat} {bl0 bl : AB} (hfree : β S.nx = none) (ho : bl.own = true)
    (hg : S.h.get r = some bl0) (ho0 : bl0.own = true) (hb : β r = some (b, y))
    (hos : w'.os = w.os) (htp : w'.tape = w.tape) (hou : w'.output = w.output) (hsz : w'.heap.size = w.heap.size) (hoth : ∀ k, k ≠ b → w'.heap[k]? = w.heap[k]?)
    (hbr : BR (upd β S.nx (b, o, z)) B0 w'.heap b o z bl) :
    Stp B0 β S w (upd β S.nx (b, o, z)) { h := (S.h.set r none).set S.nx (some bl), nx := S.nx + 1 } w' := by
  have hs := stp_gone hR r (by rw [hb]; simp)
  have hrn : r ≠ S.nx := fun e => by rw [e, hfree] at hb; cases hb
  have hlb : B0 ≤ b := (hR.blk r bl0 b _ _ hg hb).le ho0
  obtain ⟨h1, h2, h3⟩ := name_core (S := { S with h := S.h.set r none }) hs.rel hfree ho hos htp hou (by omega) (fun k hk _ => hoth k hk)
    (fun m blm x hm hmn hbm => by
      change (S.h.set r none).get m = some blm at hm
      rw [PM.get_set] at hm
      split at hm
      · cases hm
      · rename_i hmr
        exact hmr (hR.inj r m bl0 blm b _ _ hg hm ho0 hb hbm).symm) hlb hbr
  refine ⟨h1, ?_, h2, h3, ?_, ?_, ?_, by simp⟩
  · intro n hn hgn
    by_cases e : n = S.nx
    · subst e; exact ⟨Nat.le_refl _, Nat.lt_succ_self _⟩
    · simp only [upd, if_neg e] at hgn
      exact absurd hn hgn
  · intro k hk hn
    exact hoth k fun e => hn (e ▸ ⟨r, bl0, _, hg, ho0, hb⟩)
  · rintro k ⟨m, blm, x, hm, hom, hbm⟩
    refine .inr ?_
    by_cases e : m = S.nx
    · subst e
      rw [upd_same] at hbm
      cases hbm
      exact ⟨r, bl0, _, hg, ho0, hb⟩
    · change ((S.h.set r none).set S.nx (some bl)).get m = some blm at hm
      rw [PM.get_set, if_neg e, PM.get_set] at hm
      split at hm
      · cases hm
      · simp only [upd, if_neg e] at hbm
        exact ⟨m, blm, x, hm, hom, hbm⟩
  · intro n hn hbn
    show ((S.h.set r none).set S.nx (some bl)).get n = _
    rw [PM.get_set, if_neg (by omega), PM.get_set, if_neg (fun e => by rw [e, hb] at hbn; cases hbn)]

/-! ### writing -/
theorem setRow_size (w : World) (g : Nat) (c : Array Value) : (w.setRow g c).heap.size = w.heap.size := by simp [World.setRow]
theorem setRow_other (w : World) (g : Nat) (c : Array Value) (k : Nat) (h : k ≠ g) : (w.setRow g c).heap[k]? = w.heap[k]? := by
  simp only [World.setRow, Array.getElem?_modify]
  rw [if_neg (by omega)]
theorem setRow_at {w : World} {g : Nat} {cur : Array Value} {t : TypeId} (c : Array Value) (h : w.heap[g]? = some (.cells cur t (0, 0))) : (w.setRow g c).heap[g]? = some (.cells c t (0, 0)) :=
  setRow_heap w g cur c t _ h

theorem splice_get (c vs : List AV) (k : Nat) (h : k + vs.length ≤ c.length) (i : Nat) :
    (splice c k vs)[i]? = if i < k then c[i]? else if i < k + vs.length then vs[i - k]? else c[i]? := by
  unfold splice
  rw [List.append_assoc, List.getElem?_append]
  have h1 : (c.take k).length = k := by simp; omega
  rw [h1]
  split
  · rw [List.getElem?_take, if_pos (by assumption)]
  · rw [List.getElem?_append]
    split
    · rename_i h2 h3
      rw [if_pos (by omega)]
    · rename_i h2 h3
      rw [if_neg (by omega), List.getElem?_drop]
      congr 1
      omega

/-- cells that are written: what the model's store does, and the step -/
theorem wr_cells {P : Program} {β : Bt} {B0 : Nat} {S : St} {w : World} (hR : Rel β B0 S.h w) {a : Nat × Nat} {vs : List AV} {vs' : List Value} {h' : PM AB} (hw : wrCells S.h a vs = some h')
    {b o z : Nat} (hb : β a.1 = some (b, o, z)) (hv : VRs β vs vs') :
    ∃ w', (storeCells ⟨b, o + a.2, none⟩ vs').run P w = .ok () w' ∧ Stp B0 β S w β { S with h := h' } w' := by
  obtain ⟨r, k⟩ := a
  simp only [wrCells] at hw
  simp only at hb ⊢
  split at hw
  · rename_i c hg
    cases hc : (Nat.ble (k + vs.length) c.length && vs.all AV.one) with
    | false => rw [hc] at hw; cases hw
    | true =>
      rw [hc] at hw
      simp only [Bool.and_eq_true] at hc
      have hle : k + vs.length ≤ c.length := Nat.le_of_ble_eq_true hc.1
      obtain ⟨h0, cur, t, hh, hz, hcr⟩ := hR.blk r _ b o z hg hb
      have hlen := hv.length
      have h1 := hv.ones hc.2
      have hsz : o + k + vs'.length ≤ cur.size := by
        rcases Nat.eq_zero_or_pos vs.length with hv0 | hv0
        · by_cases hk : k = 0
          · have := hR.blk r _ b o z hg hb
            omega
          · have hkl : k - 1 < c.length := by omega
            obtain ⟨u, hu, _⟩ := hcr (k - 1) _ (List.getElem?_eq_getElem hkl)
            have := (Array.getElem?_eq_some_iff.1 hu).1
            omega
        · have hkl : k + vs.length - 1 < c.length := by omega
          obtain ⟨u, hu, _⟩ := hcr (k + vs.length - 1) _ (List.getElem?_eq_getElem hkl)
          have := (Array.getElem?_eq_some_iff.1 hu).1
          omega
      refine ⟨_, run_storeCells_at P b (o + k) t vs' 0 cur w hh (by omega) h1, ?_⟩
      cases hw
      refine stp_set hR hg rfl rfl hb rfl rfl rfl (setRow_size _ _ _) (fun j hj => setRow_other _ _ _ _ hj) ⟨h0, _, t, setRow_at _ hh, ?_, ?_⟩
      · simp only [List.size_toArray, List.length_append, List.length_take, List.length_drop, Array.length_toList]
        omega
      · intro i v hi
        rw [splice_get c vs k hle] at hi
        rw [List.getElem?_toArray, List.append_assoc, List.getElem?_append]
        have hl1 : (cur.toList.take (o + k + 0)).length = o + k := by simp; omega
        rw [hl1]
        by_cases hik : i < k
        · rw [if_pos hik] at hi
          obtain ⟨u, hu, hv⟩ := hcr i v hi
          rw [if_pos (by omega), List.getElem?_take, if_pos (by omega), Array.getElem?_toList]
          exact ⟨u, hu, hv⟩
        · rw [if_neg hik] at hi
          rw [if_neg (by omega), List.getElem?_append]
          by_cases hi2 : i < k + vs.length
          · rw [if_pos hi2] at hi
            rw [if_pos (by omega)]
            obtain ⟨u, hu, hv⟩ := hv.get hi
            exact ⟨u, by rw [show o + i - (o + k) = i - k by omega]; exact hu, hv⟩
          · rw [if_neg hi2] at hi
            obtain ⟨u, hu, hv⟩ := hcr i v hi
            rw [if_neg (by omega), List.getElem?_drop, Array.getElem?_toList]
            exact ⟨u, by rw [show o + k + 0 + vs'.length + (o + i - (o + k) - vs'.length) = o + i by omega]; exact hu, hv⟩
  · cases hw
end Go.AM

/- From the model's code to the abstract machine's: by the program's tables; where it answers, the later texts show that the abstract machine runs as the model does. -/
namespace Go.AM

def toAV1 : Value → Option AV
  | .bool x => some (.b x)
  | .int k n => some (.i k n)
  | .string s => some (.s s.data.toList)
  | .pointer none => some (.p none)
  | .slice none 0 0 => some (.sl none 0 0 0)
  | .map none => some (.m none)
  | .nilFunc => some .nilf
  | .nilIface => some .nili
  | _ => none
def mapO {α β : Type} (f : α → Option β) : List α → Option (List β)
  | [] => some []
  | x :: r => match f x with
    | some y => (mapO f r).map (y :: ·)
    | none => none
def toAV : Value → Option AV
  | .agg cs => (mapO toAV1 cs.toList).map .agg
  | v => toAV1 v

/-- the variables that live on, as bits -/
def per (ps : Nat) (t : Nat) : Bool := ps.testBit t
def opT (ps : Nat) (t : Nat) : Opd := bif per ps t then .l t else .t t
def compOpd (ps nt : Nat) : Operand → Option Opd
  | .tmp t => bif Nat.blt t nt then some (opT ps t) else none
  | .const v => (toAV v).map .c
  | .global g => bif Nat.blt g GN then some (.c (.p (some (g, 0)))) else none
  | .func f => some (.c (.fn f [] []))

section
variable (P : Program)
def zcells (t : TypeId) : Option (List AV) :=
  match P.info? t with
  | some i => match i.zero with
    | some z => match mapO toAV1 z.cells.toList with
      | some l => bif Nat.beq l.length i.size then some l else none
      | none => none
    | none => none
  | none => none
def zval (t : TypeId) : Option AV :=
  match P.info? t with
  | some i => match i.zero with
    | some z => toAV z
    | none => none
  | none => none
def tsize (t : TypeId) : Option Nat := (P.info? t).map (·.size)
def tbytes (t : TypeId) : Option Nat := (P.info? t).map (·.bytes)
def tagg (t : TypeId) : Option Bool :=
  match P.underlying t with
  | some (.struct _) => some true
  | some (.array _ _) => some true
  | some _ => some false
  | none => none
/-- none: one cell; some: so many, together -/
def tshape (t : TypeId) : Option (Option Nat) :=
  match tagg P t, tsize P t with
  | some true, some n => some (some n)
  | some false, some _ => some none
  | _, _ => none
def scalTag (t : TypeId) : Option Nat :=
  match P.underlying t with
  | some .bool => some 0
  | some (.int _) => some 1
  | some .string => some 2
  | _ => none
def scalFields : List Field → Option (List (Nat × Nat))
  | [] => some []
  | f :: r => match scalTag P f.type with
    | some g => bif f.name == "_" then none else (scalFields r).map ((f.offset, g) :: ·)
    | none => none
def fieldPlaces (fs : List Field) : Option (List (Nat × Nat)) := mapO (fun f => (tsize P f.type).map fun s => (f.offset, s)) fs
def placesOf (t : TypeId) (parts : List (Nat × Operand)) : Option (List (Nat × Nat)) :=
  match P.underlying t with
  | some (.struct fs) => match fieldPlaces P fs.toList with
    | some pl => mapO (fun p => pl[p.1]?) parts
    | none => none
  | some (.array _ e) => match tsize P e with
    | some s => some (parts.map fun p => (p.1 * s, s))
    | none => none
  | _ => none
def isIntT (t : TypeId) : Bool := match P.underlying t with | some (.int _) => true | _ => false

def isLit : Operand → Bool
  | .const _ => true
  | _ => false
def compEq (lit ng : Bool) (t : TypeId) : Option AOp :=
  match P.underlying t with
  | some .bool => some (.eq ng .bool)
  | some (.pointer e) => match tsize P e with
    | some s => bif Nat.beq s 0 then none else some (.eq ng .ptr)
    | none => none
  | some (.slice _) => some (.eq ng .slnil)
  | some (.map _ _) => some (.eq ng .mapnil)
  | some (.func _ _ _) => some (.eq ng .fnil)
  | some (.interface _) => some (.eq ng (bif lit then .ifcn else .ifc))
  | some (.struct fs) => bif P.stoodInHeld t then none else (scalFields P fs.toList).map fun l => .eq ng (.agg l)
  | _ => none

def isEq : BinOp → Bool
  | .eql | .neq => true
  | _ => false
def isNeq : BinOp → Bool
  | .neq => true
  | _ => false

/-- the builtins -/
def compBuiltin (b : Builtin) (argTypes : Array TypeId) (args : Array Operand) : Option (AOp × List Operand) :=
  match b, argTypes.toList with
  | .len, [t] => match P.underlying t with
    | some .string => some (.lenS, args.toList)
    | some (.slice _) => some (.lenSl, args.toList)
    | some (.map _ _) => some (.mlen, args.toList)
    | some (.array n _) => some (.lenC n, args.toList)
    | _ => none
  | .cap, [t] => match P.underlying t with
    | some (.slice _) => some (.capSl, args.toList)
    | _ => none
  | .min, _ => some (.min, args.toList)
  | .max, _ => some (.max, args.toList)
  | .append, [t, u] => match P.underlying t, P.underlying u with
    | some (.slice e), some (.slice _) => match tsize P e, tbytes P e, zcells P e with
      | some s, some by', some _ => bif Nat.beq s 0 || Nat.beq by' 0 then none else some (.app s by', args.toList)
      | _, _, _ => none
    | _, _ => none
  | .clear, [t] => match P.underlying t with
    | some (.slice e) => match zcells P e with
      | some z => some (.clr z, args.toList)
      | none => none
    | _ => none
  | .copy, [t, u] => match P.underlying t, P.underlying u with
    | some (.slice e), some (.slice _) => match tsize P e with
      | some s => some (.cpy s, args.toList)
      | none => none
    | _, _ => none
  | .delete, [t, _] => match P.underlying t with
    | some (.map k _) => bif isIntT P k then some (.mdel, args.toList) else none
    | _ => none
  | _, _ => none

def isTmp : Operand → Bool
  | .tmp _ => true
  | _ => false

def compOp (o : Oper) : Option (AOp × List Operand) :=
  match o.op with
  | .move x | .assign x => some (.mv, [x])
  | .pick c a b => some (.pick, [c, a, b])
  | .alloc e => (zcells P e).map fun z => (.alloc z, [])
  | .box _ x => some (.box, [x])
  | .build t parts =>
    match zcells P t, placesOf P t parts.toList with
    | some z, some ps => some (.build z ps, parts.toList.map (·.2))
    | _, _ => none
  | .buildSlice t len parts =>
    match P.underlying t with
    | some (.slice e) => match tsize P e, zcells P e with
      | some s, some z => bif Nat.ble (len * s) 16777216 then some (.bslice z len s (parts.toList.map (·.1)), parts.toList.map (·.2)) else none
      | _, _ => none
    | _ => none
  | .load t a => (tshape P t).map fun s => (.ld s, [a])
  | .store t a x => (tsize P t).map fun s => (.st s, [a, x])
  | .nilCheck x => some (.nilchk, [x])
  | .binOp op t x y _ =>
    match P.underlying t with
    | some (.int _) => some (.bin op, [x, y])
    | some .string => some (.sbin op, [x, y])
    | _ => bif isEq op then (compEq P (isLit x || isLit y) (isNeq op) t).map fun a => (a, [x, y]) else none
  | .unOp op _ x => some (.un op, [x])
  | .convert a b x =>
    match P.underlying a, P.underlying b with
    | some (.int _), some (.int k) => some (.cvtI k, [x])
    | some .string, some .string => some (.cvtS, [x])
    | some (.slice e), some .string => match P.underlying e with
      | some (.int .u8) => some (.cvtB, [x])
      | _ => none
    | _, _ => none
  | .makeInterface t x => match P.underlying t with
    | some (.interface _) => none
    | some _ => some (.mkif t, [x])
    | none => none
  | .makeFunc (.func f) fst cap => some (.mkfn f fst.size, fst.toList ++ cap.toList)
  | .makeMap _ none => some (.mkmap, [])
  | .makeSlice t l c => match P.underlying t with
    | some (.slice e) => match zcells P e, tbytes P e with
      | some z, some n => bif Nat.beq n 0 then none else some (.mksl z n, [l, c])
      | _, _ => none
    | _ => none
  | .slice t x lo hi mx => match P.underlying t with
    | some (.slice e) => bif mx.isSome && hi.isNone then none else (tsize P e).map fun s => (.slc s lo.isSome hi.isSome mx.isSome, [x] ++ lo.toList ++ hi.toList ++ mx.toList)
    | some .string => bif mx.isNone then some (.slcS lo.isSome hi.isSome, [x] ++ lo.toList ++ hi.toList) else none
    | _ => none
  | .fieldAddr t x f => match P.underlying t with
    | some (.struct fs) => match fs[f]? with
      | some g => match tsize P g.type with
        | some s => bif Nat.beq s 0 then none else some (.fad g.offset, [x])
        | none => none
      | none => none
    | _ => none
  | .field t x f => match P.underlying t with
    | some (.struct fs) => match fs[f]? with
      | some g => (tshape P g.type).map fun s => (.fld g.offset s, [x])
      | none => none
    | _ => none
  | .indexAddr t x i => match P.underlying t with
    | some (.slice e) => (tsize P e).map fun s => (.iad s, [x, i])
    | some (.array n e) => (tsize P e).map fun s => (.iadA n s, [x, i])
    | _ => none
  | .index t x i => match P.underlying t with
    | some (.array n e) => match tshape P e, tsize P e with
      | some sh, some s => some (.ixA n s sh.isSome, [x, i])
      | _, _ => none
    | some .string => some (.ixS, [x, i])
    | _ => none
  | .lookup t x i ok => match P.underlying t with
    | some (.map k e) => bif isIntT P k then (zval P e).map fun z => (.lkup z ok, [x, i]) else none
    | _ => none
  | .mapUpdate t m k v => match P.underlying t with
    | some (.map kt _) => bif isIntT P kt then some (.mset, [m, k, v]) else none
    | _ => none
  | .extract t k => some (.ext k, [t])
  | .call c => match c.callee with
    | .builtin b => compBuiltin P b c.argTypes c.args
    | .value (.func f) => some (.call f, c.args.toList)
    | .value x => bif isTmp x then some (.callv, x :: c.args.toList) else none
    | .invoke _ _ => none
  | _ => none

def compGuard (ps : Nat) (ops : Array Oper) (nt : Nat) : Option (Nat × Bool) → Option (Option (Opd × Bool))
  | none => some none
  | some (j, w) => match (ops[j]?).bind (·.dst) with
    | some t => bif Nat.blt t nt then some (some (opT ps t, w)) else none
    | none => none

def comp1 (ps : Nat) (ops : Array Oper) (nt : Nat) (o : Oper) : Option Op1 :=
  match compOp P o, compGuard ps ops nt o.guard with
  | some (op, xs), some gd => match mapO (compOpd ps nt) xs with
    | some args => match o.dst with
      | none => some ⟨.no, gd, op, args⟩
      | some d => bif Nat.blt d nt then some ⟨bif per ps d then .l d else .t d, gd, op, args⟩ else none
    | none => none
  | _, _ => none

/-! ### regions whose order is open -/
/-- what binds an operation to come behind, in any mode -/
def preds (o : Oper) : List Nat := (o.after.toList.filter fun e => Region.binds .any e).map (·.on)
/-- bits: all that must come ahead -/
def befores : List (List Nat) → List Nat → List Nat
  | [], acc => acc
  | ds :: r, acc => befores r (acc ++ [ds.foldl (fun s e => s ||| 2 ^ e ||| acc.getD e 0) 0])
def bef (b : List Nat) (i j : Nat) : Bool := (b.getD j 0).testBit i

def Dst.tm : Dst → Option Nat
  | .no => none
  | .l n => some n
  | .t n => some n
def Opd.tm : Opd → Option Nat
  | .l n => some n
  | .t n => some n
  | .c _ => none
def temps1 (o : Op1) : List Nat := o.dst.tm.toList ++ (o.gd.bind (·.1.tm)).toList ++ o.args.filterMap Opd.tm

def isE (o : Op1) : Bool := match o.op.cl with | .E => true | _ => false
def AOp.mem : AOp → Bool
  | .ld _ | .lkup .. | .mlen | .cvtB => true
  | .eq _ .ptr => true
  | _ => false

/-- each temporary that is written is named by no other operation but in order -/
def tempsOk (ops : List Op1) (b : List Nat) : Bool :=
  ops.zipIdx.all fun (o, i) => match o.dst.tm with
    | none => true
    | some d => ops.zipIdx.all fun (p, j) => Nat.beq i j || !((temps1 p).contains d) || (bif Nat.blt i j then bef b i j else bef b j i)
def effOk (ops : List Op1) (b : List Nat) : Bool :=
  ops.zipIdx.all fun (o, i) => !isE o || ops.zipIdx.all fun (p, j) => !isE p || !Nat.blt i j || bef b i j
def backOk (ps : List (List Nat)) : Bool := ps.zipIdx.all fun (ds, j) => ds.all fun i => Nat.blt i j

def effs (ops : List Op1) : List Nat := (ops.zipIdx.filter fun (o, _) => isE o).map (·.2)
/-- can operation r be carried out when just the effects below p have been? -/
def feas (es : List Nat) (b : List Nat) (r p : Nat) : Bool := es.all fun e => (!bef b e r || Nat.blt e p) && (!bef b r e || Nat.ble p e)
/-- have the same effects been carried out at p as at r? -/
def ownW (es : List Nat) (r p : Nat) : Bool := es.all fun e => Nat.blt e p == Nat.blt e r
/-- the places at which operation r is to be looked at again -/
def chkOf (ops : List Op1) (b : List Nat) : List (Nat × Nat) :=
  let es := effs ops
  (ops.zipIdx.map fun (o, r) =>
    bif o.op.mem then ((0 :: es.map Nat.succ).filter fun p => feas es b r p && !ownW es r p).map fun p => (r, p)
    else []).flatten

def compReg (ps nt : Nat) (ops : Array Oper) (draw : Bool) : Option ACode :=
  match mapO (comp1 P ps ops nt) ops.toList with
  | none => none
  | some l =>
    bif draw then
      let ds := ops.toList.map preds
      let b := befores ds []
      bif backOk ds && tempsOk l b && effOk l b then
        match chkOf l b with
        | [] => some (.reg l)
        | c => some (.regD l c)
      else none
    else some (.reg l)

def compCode (ps nt : Nat) : Code → Option ACode
  | .skip => some .skip
  | .region _ ops d => compReg P ps nt ops d
  | .seq a b => match compCode ps nt a, compCode ps nt b with
    | some x, some y => some (.seq x y)
    | _, _ => none
  | .cond c a b => match compOpd ps nt c, compCode ps nt a, compCode ps nt b with
    | some c, some x, some y => some (.cond c x y)
    | _, _, _ => none
  | .block id c => (compCode ps nt c).map (.block id)
  | .loop c => (compCode ps nt c).map .loop
  | .exit id => some (.exit id)
  | .ret => some .ret
  | _ => none

def compRes (ps nt : Nat) : ResultVar → Option ResV
  | .tmp t => bif Nat.blt t nt then some (.tmp (opT ps t)) else none
  | .cell t ty => bif Nat.blt t nt then (tshape P ty).map (.cell (opT ps t)) else none

def compFn (ps : Nat) (f : Func) : Option AFn :=
  match f.body with
  | none => none
  | some c => bif !(f.name == "runtime.NumGoroutine") then
      match compCode P ps f.ntmps c, mapO (compRes P ps f.ntmps) f.results.toList with
      | some b, some r => some ⟨b, r⟩
      | _, _ => none
    else none
end
end Go.AM

/- Each operation that leaves memory as it is: the model does what the abstract machine says. -/
set_option linter.unusedVariables false
set_option linter.unusedSimpArgs false
namespace Go.AM

/-! ### numbers -/
theorem beq_nat (a b : Nat) : Nat.beq a b = decide (a = b) := by
  cases h : Nat.beq a b
  · symm; rw [decide_eq_false_iff_not]; intro e; subst e; simp at h
  · symm; rw [decide_eq_true_eq]; exact Nat.eq_of_beq_eq_true h
theorem ble_nat (a b : Nat) : Nat.ble a b = decide (a ≤ b) := by
  cases h : Nat.ble a b
  · symm; rw [decide_eq_false_iff_not]; intro e; have := Nat.ble_eq_true_of_le e; rw [h] at this; cases this
  · symm; rw [decide_eq_true_eq]; exact Nat.le_of_ble_eq_true h
theorem blt_nat (a b : Nat) : Nat.blt a b = decide (a < b) := by
  show Nat.ble (a + 1) b = _
  rw [ble_nat]; rfl
theorem iEq_eq (a b : Int) : iEq a b = (a == b) := by
  cases a <;> cases b <;> simp only [iEq, beq_nat]
  · rename_i x y
    rw [Bool.eq_iff_iff]; simp; omega
  · symm; rw [beq_eq_false_iff_ne]; nofun
  · symm; rw [beq_eq_false_iff_ne]; nofun
  · rename_i x y
    rw [Bool.eq_iff_iff]; simp; omega
theorem iLt_eq (a b : Int) : iLt a b = decide (a < b) := by
  cases a <;> cases b <;> simp only [iLt, blt_nat] <;> rw [Bool.eq_iff_iff] <;> simp <;> omega
theorem kEq_iff {a b : IntKind} : kEq a b = true ↔ a = b := by cases a <;> cases b <;> simp [kEq]
theorem wrap_fits {n : Int} (h : fits n = true) : IntKind.i64.wrap n = n := by
  have h' : -9223372036854775808 ≤ n ∧ n < 9223372036854775808 := by
    cases n with
    | ofNat m => simp only [fits, blt_nat, decide_eq_true_eq] at h; constructor <;> (simp only [Int.ofNat_eq_natCast]; omega)
    | negSucc m => simp only [fits, blt_nat, decide_eq_true_eq] at h; constructor <;> omega
  obtain ⟨h1, h2⟩ := h'
  have e1 : (2 : Int) ^ IntKind.i64.bits = 18446744073709551616 := by decide
  have e2 : (2 : Int) ^ (IntKind.i64.bits - 1) = 9223372036854775808 := by decide
  unfold IntKind.wrap
  simp only [e1, e2]
  by_cases hc : 0 ≤ n
  · rw [if_neg (by simp [IntKind.signed]; omega)]
    omega
  · rw [if_pos (by simp [IntKind.signed]; omega)]
    omega
theorem wr_eq (k : IntKind) (n : Int) : wr k n = k.wrap n := by
  cases k <;> simp only [wr]
  cases h : fits n
  · rfl
  · exact (wrap_fits h).symm

theorem binI_run {P : Program} {w : World} {op : BinOp} {k : IntKind} {a b : Int} {v : AV} (t : TypeId) (hs : isSh op = false) (h : binI op k a b = some v) :
    ∃ v', (binOp op t (.int k a) (.int k b)).run P w = .ok v' w ∧ ∀ β, VR β v v' := by
  cases op <;> simp only [isSh] at hs <;> simp only [binI, wr_eq, iEq_eq, iLt_eq, Option.some.injEq] at h
  case add => subst h; exact ⟨_, by simp [binOp, Op.intArith], fun _ => .i _ _⟩
  case sub => subst h; exact ⟨_, by simp [binOp, Op.intArith], fun _ => .i _ _⟩
  case mul => subst h; exact ⟨_, by simp [binOp, Op.intArith], fun _ => .i _ _⟩
  case quo =>
    cases hb : (b == 0)
    · rw [hb] at h; simp at h; subst h
      have hb0 : b ≠ 0 := by simpa using hb
      exact ⟨_, by simp [binOp, Op.intDiv, hb0], fun _ => .i _ _⟩
    · rw [hb] at h; cases h
  case rem =>
    cases hb : (b == 0)
    · rw [hb] at h; simp at h; subst h
      have hb0 : b ≠ 0 := by simpa using hb
      exact ⟨_, by simp [binOp, Op.intDiv, hb0], fun _ => .i _ _⟩
    · rw [hb] at h; cases h
  case and => subst h; exact ⟨_, by simp [binOp, Op.intBits], fun _ => .i _ _⟩
  case or => subst h; exact ⟨_, by simp [binOp, Op.intBits], fun _ => .i _ _⟩
  case xor => subst h; exact ⟨_, by simp [binOp, Op.intBits], fun _ => .i _ _⟩
  case andNot => subst h; exact ⟨_, by simp [binOp, Op.intBits], fun _ => .i _ _⟩
  case eql => subst h; exact ⟨_, by simp [binOp, Op.intCmp], fun _ => .b _⟩
  case neq => subst h; exact ⟨.bool (a != b), by simp [binOp, Op.intCmp], fun _ => .b _⟩
  case lss => subst h; exact ⟨_, by simp [binOp, Op.intCmp], fun _ => .b _⟩
  case leq => subst h; exact ⟨.bool (decide (a ≤ b)), by simp [binOp, Op.intCmp], fun _ => by
    have : (!decide (b < a)) = decide (a ≤ b) := by rw [Bool.eq_iff_iff]; simp
    rw [this]; exact .b _⟩
  case gtr => subst h; exact ⟨.bool (decide (a > b)), by simp [binOp, Op.intCmp], fun _ => .b _⟩
  case geq => subst h; exact ⟨.bool (decide (a ≥ b)), by simp [binOp, Op.intCmp], fun _ => by
    have : (!decide (a < b)) = decide (a ≥ b) := by rw [Bool.eq_iff_iff]; simp
    rw [this]; exact .b _⟩
  case shl => cases hs
  case shr => cases hs

theorem shI_run {P : Program} {w : World} {op : BinOp} {k j : IntKind} {a b : Int} {v : AV} (t : TypeId) (h : shI op k a b = some v) :
    ∃ v', (binOp op t (.int k a) (.int j b)).run P w = .ok v' w ∧ ∀ β, VR β v v' := by
  unfold shI at h
  rw [iLt_eq] at h
  cases hb : decide (b < 0) with
  | true => rw [hb] at h; cases h
  | false =>
    rw [hb] at h
    have hb' : ¬ b < 0 := by simpa using hb
    cases op <;> simp only [cond_false, Option.some.injEq, wr_eq] at h <;> first | cases h | skip
    · exact ⟨_, by simp only [binOp, Op.shift, if_neg hb']; rfl, fun _ => .i _ _⟩
    · exact ⟨_, by simp only [binOp, Op.shift, if_neg hb']; rfl, fun _ => .i _ _⟩

/-! ### strings -/
theorem bytesEq_eq : ∀ (x y : List UInt8), bytesEq x y = (x == y)
  | [], [] => rfl
  | [], _ :: _ => rfl
  | _ :: _, [] => rfl
  | a :: x, b :: y => by
    simp only [bytesEq, bytesEq_eq x y, beq_nat]
    rw [Bool.eq_iff_iff]
    simp [UInt8.toNat_inj]
theorem bytesLt_eq : ∀ (x y : List UInt8), bytesLt x y = Op.bytesLess x y
  | [], [] => rfl
  | _ :: _, [] => rfl
  | [], _ :: _ => rfl
  | a :: x, b :: y => by
    simp only [bytesLt, Op.bytesLess, bytesLt_eq x y, beq_nat, blt_nat]
    rw [Bool.eq_iff_iff]
    simp [UInt8.lt_iff_toNat_lt, UInt8.toNat_inj]
theorem toList_mk (l : List UInt8) : (ByteArray.mk l.toArray).toList = l := by
  rw [ByteArray.toList_eq]
theorem append_mk (x y : List UInt8) : ByteArray.mk x.toArray ++ ByteArray.mk y.toArray = ByteArray.mk (x ++ y).toArray := by
  apply ByteArray.ext
  simp [ByteArray.data_append]
theorem size_mk (l : List UInt8) : (ByteArray.mk l.toArray).size = l.length := by
  show (l.toArray).size = _
  simp
theorem binS_run {P : Program} {w : World} {op : BinOp} {x y : List UInt8} {v : AV} (t : TypeId) (h : binS op x y = some v) :
    ∃ v', (binOp op t (.string ⟨x.toArray⟩) (.string ⟨y.toArray⟩)).run P w = .ok v' w ∧ ∀ β, VR β v v' := by
  have hb : binOp op t (.string ⟨x.toArray⟩) (.string ⟨y.toArray⟩) = Op.stringOp op ⟨x.toArray⟩ ⟨y.toArray⟩ := by cases op <;> rfl
  rw [hb]
  cases op <;> simp only [binS, bytesEq_eq, bytesLt_eq, blt_nat, Option.some.injEq] at h <;> simp only [Op.stringOp, toList_mk, size_mk]
  case add =>
    cases hc : decide (x.length + y.length < 9223372036854775808) with
    | false => rw [hc] at h; cases h
    | true =>
      rw [hc] at h
      simp at h hc
      subst h
      refine ⟨.string ⟨(x ++ y).toArray⟩, ?_, fun _ => .s _⟩
      rw [if_neg (by simp; omega), append_mk]; rfl
  all_goals first
    | (subst h; exact ⟨_, rfl, fun _ => .b _⟩)
    | cases h

/-! ### equality -/
theorem eqGuardType_scal {P : Program} {t : TypeId} {g : Nat} (h : scalTag P t = some g) (d : Nat) : P.eqGuardType (d + 1) t = false := by
  unfold scalTag at h
  split at h <;> first | (cases h; done) | simp [Program.eqGuardType, *]
theorem scalFields_all {P : Program} : ∀ {fs : List Field} {l : List (Nat × Nat)}, scalFields P fs = some l → ∀ f ∈ fs, (∃ g, scalTag P f.type = some g) ∧ f.name ≠ "_"
  | [], _, _, f, hf => by cases hf
  | f :: fs, l, h, g, hg => by
    unfold scalFields at h
    split at h
    · rename_i tg htg
      cases hb : (f.name == "_") with
      | true => rw [hb] at h; cases h
      | false =>
        rw [hb] at h
        cases hr : scalFields P fs with
        | none => rw [hr] at h; cases h
        | some r =>
          rcases List.mem_cons.1 hg with rfl | hg
          · exact ⟨⟨tg, htg⟩, by simpa using hb⟩
          · exact scalFields_all hr g hg
    · cases h
theorem eqGuardType_struct {P : Program} {t : TypeId} {fs : Array Field} {l : List (Nat × Nat)} (hu : P.underlying t = some (.struct fs)) (h : scalFields P fs.toList = some l) : P.eqGuardType P.depth t = false := by
  obtain ⟨d, hd⟩ : ∃ d, P.depth = d + 2 := ⟨_, rfl⟩
  rw [hd, show d + 2 = (d + 1) + 1 from rfl, Program.eqGuardType]
  simp only [hu]
  rw [← Array.any_toList, List.any_eq_false]
  intro f hf
  obtain ⟨g, hg⟩ := (scalFields_all h f hf).1
  rw [eqGuardType_scal hg d]
  simp
theorem eqOne_run {P : Program} {w : World} {β : Bt} {a b : AV} {a' b' : Value} {t : TypeId} {g : Nat} (ha : VR β a a') (hb : VR β b b') (hs : scalTag P t = some g) {r : Bool} (h : eqOne g a b = some r) (d : Nat) :
    (Op.equalIn (d + 1) t a' b').run P w = .ok r w := by
  unfold scalTag at hs
  split at hs <;> first | (cases hs; done) | skip
  · rename_i hu
    cases hs
    cases a <;> cases b <;> simp only [eqOne] at h <;> first | (cases h; done) | skip
    cases ha; cases hb
    cases h
    exact run_equalIn_bool w d t _ _ hu
  · rename_i k' hu
    cases hs
    cases a <;> cases b <;> simp only [eqOne] at h <;> first | (cases h; done) | skip
    cases ha; cases hb
    rename_i j n k m
    cases hk : kEq j k with
    | false => rw [hk] at h; cases h
    | true =>
      rw [hk] at h
      have := kEq_iff.1 hk
      subst this
      simp at h
      subst h
      rw [iEq_eq]
      exact run_equalIn_int w d t _ _ _ _ hu
  · rename_i hu
    cases hs
    cases a <;> cases b <;> simp only [eqOne] at h <;> first | (cases h; done) | skip
    cases ha; cases hb
    simp at h
    subst h
    rw [bytesEq_eq, run_equalIn_string w d t _ _ hu, toList_mk, toList_mk]

theorem isAgg_run {P : Program} {w : World} {t : TypeId} {x : Bool} (h : tagg P t = some x) : (isAgg t).run P w = .ok x w := by
  unfold tagg at h
  split at h
  · rename_i fs hu; cases h; simp [isAgg, run_underlying hu]
  · rename_i n e hu; cases h; simp [isAgg, run_underlying hu]
  · rename_i d h1 h2 hu
    cases h
    simp only [isAgg, Sem.run_bind, run_underlying hu, Result.andThen_ok]
    cases d <;> first | rfl | (exact absurd rfl (h1 _ )) | (exact absurd rfl (h2 _ _))
  · cases h
theorem sizeOf_run {P : Program} {w : World} {t : TypeId} {n : Nat} (h : tsize P t = some n) : (sizeOf t).run P w = .ok n w := by
  unfold tsize at h
  cases hi : P.info? t with
  | none => rw [hi] at h; cases h
  | some i => rw [hi] at h; cases h; simp [sizeOf, run_typeInfo w hi]
theorem scal_agg {P : Program} {t : TypeId} {g : Nat} (h : scalTag P t = some g) : tagg P t = some false := by
  unfold scalTag at h
  split at h <;> first | (cases h; done) | simp [tagg, *]
theorem part_one {P : Program} {w : World} {t : TypeId} {cs : Array Value} {off : Nat} {v : Value} (h : tagg P t = some false) (hv : cs[off]? = some v) : (part t cs off).run P w = .ok v w := by
  simp [part, isAgg_run h, hv]

theorem eqAt_run {P : Program} {w : World} {β : Bt} {xs ys : List AV} {xs' ys' : Array Value} (hx : VRs β xs xs'.toList) (hy : VRs β ys ys'.toList) (d : Nat) :
    ∀ {fs : List Field} {l : List (Nat × Nat)} {r : Bool}, scalFields P fs = some l → eqAt xs ys l = some r → (Op.eqFields (d + 1) xs' ys' fs).run P w = .ok r w
  | [], l, r, h, he => by
    simp only [scalFields, Option.some.injEq] at h
    subst h
    simp only [eqAt, Option.some.injEq] at he
    subst he
    simp [Op.eqFields]
  | f :: fs, l, r, h, he => by
    have hall := scalFields_all h f (by simp)
    unfold scalFields at h
    split at h
    · rename_i tg htg
      cases hb : (f.name == "_") with
      | true => rw [hb] at h; cases h
      | false =>
        rw [hb] at h
        cases hr : scalFields P fs with
        | none => rw [hr] at h; cases h
        | some l' =>
          rw [hr] at h
          simp at h
          subst h
          simp only [eqAt] at he
          split at he
          · rename_i x y hxe hye
            obtain ⟨x', hx1, hx2⟩ := hx.get hxe
            obtain ⟨y', hy1, hy2⟩ := hy.get hye
            have hp1 := part_one (P := P) (w := w) (scal_agg htg) (by rw [← Array.getElem?_toList]; exact hx1)
            have hp2 := part_one (P := P) (w := w) (scal_agg htg) (by rw [← Array.getElem?_toList]; exact hy1)
            simp only [Op.eqFields, if_pos hall.2, Sem.run_bind, hp1, hp2, Result.andThen_ok]
            split at he
            · rename_i hq
              rw [eqOne_run hx2 hy2 htg hq d]
              simp only [Result.andThen_ok, Bool.not_true, Bool.false_eq_true, if_false]
              exact eqAt_run hx hy d hr he
            · rename_i hq
              rw [eqOne_run hx2 hy2 htg hq d]
              cases he
              simp
            · cases he
          · cases he
    · cases h

/-- blocks of the machine's own are told apart by their addresses -/
theorem sameAddr_own {P : Program} {β : Bt} {B0 : Nat} {h : PM AB} {w : World} (hR : Rel β B0 h w) {n m b c o o' z z' i j : Nat} (hn : β n = some (b, o, z)) (hm : β m = some (c, o', z')) {r : Bool}
    (he : eqP h (some (n, i)) (some (m, j)) = some r) : (sameAddr ⟨b, o + i, none⟩ ⟨c, o' + j, none⟩).run P w = .ok r w := by
  simp only [eqP, beq_nat] at he
  by_cases hnm : n = m
  · subst hnm
    rw [hn] at hm
    cases hm
    simp at he
    subst he
    have hq : ((⟨b, o + i, none⟩ : Addr) == ⟨b, o + j, none⟩) = decide (i = j) := by
      rw [Bool.eq_iff_iff]
      simp
    simp only [sameAddr, beq_self_eq_true, if_true, hq]
    rfl
  · simp only [hnm, decide_false, cond_false] at he
    cases hl : (live h n && live h m) with
    | false => rw [hl] at he; cases he
    | true =>
      rw [hl] at he
      simp at he
      subst he
      simp only [Bool.and_eq_true, live] at hl
      obtain ⟨h1, h2⟩ := hl
      split at h1
      · rename_i c1 hg1
        split at h2
        · rename_i c2 hg2
          have hbc : b ≠ c := fun e => by
            subst e
            exact hnm (hR.inj n m _ _ b _ _ hg1 hg2 rfl hn hm)
          obtain ⟨_, cur1, t1, hh1, _, _⟩ := hR.blk n _ b o z hg1 hn
          obtain ⟨_, cur2, t2, hh2, _, _⟩ := hR.blk m _ c o' z' hg2 hm
          have f1 : ∀ k, w.frozen? ⟨b, k, none⟩ = false := fun k => by simp [World.frozen?, hh1]
          have f2 : ∀ k, w.frozen? ⟨c, k, none⟩ = false := fun k => by simp [World.frozen?, hh2]
          have s1 : w.shape? b = some (t1, cur1.size) := by simp [World.shape?, hh1]
          have s2 : w.shape? c = some (t2, cur2.size) := by simp [World.shape?, hh2]
          have hbe : (b == c) = false := by simpa using hbc
          simp [sameAddr, hbe, f1, f2, noView, viewAt, s1, s2, mayBeOne, stringish]
        · cases h2
      · cases h1

theorem isEq_cases {op : BinOp} (h : isEq op = true) : (op = .eql ∧ isNeq op = false) ∨ (op = .neq ∧ isNeq op = true) := by
  cases op <;> simp [isEq] at h <;> simp [isNeq]
/-- '==' and '!=' of values that are no numbers and no strings -/
def plainEq : Value → Value → Bool
  | .int _ _, _ | _, .int _ _ | .float _ _, _ | .complex _ _ _, _ | .string _, _ => false
  | _, _ => true
theorem binOp_eqlike {t : TypeId} {a b : Value} (h : plainEq a b = true) :
    binOp .eql t a b = (do pure (.bool (← Op.equal t a b))) ∧ binOp .neq t a b = (do pure (.bool (!(← Op.equal t a b)))) := by
  cases a <;> cases b <;> first | (simp [plainEq] at h; done) | exact ⟨rfl, rfl⟩
theorem eq_of_equal {P : Program} {w : World} {op : BinOp} {t : TypeId} {x y : Operand} {a b : Value} {r : Bool} (hop : isEq op = true) (hp : plainEq a b = true) (hg : (eqGuard op t x y a b).run P w = .ok () w)
    (he : ∀ d, (Op.equalIn (d + 2) t a b).run P w = .ok r w) : ((do eqGuard op t x y a b; binOp op t a b) : Sem Value).run P w = .ok (.bool (r != isNeq op)) w := by
  have h1 := binOp_eqlike (t := t) hp
  have he : (Op.equalIn Op.maxDepth t a b).run P w = .ok r w := he 9998
  rcases isEq_cases hop with ⟨rfl, hn⟩ | ⟨rfl, hn⟩
  · rw [h1.1, hn]
    simp [hg, Op.equal, he]
  · rw [h1.2, hn]
    simp [hg, Op.equal, he]

section
variable {P : Program} {w : World} {t : TypeId} (d : Nat)
theorem equalIn_ptr_nil {e : TypeId} (hu : P.underlying t = some (.pointer e)) (b : Option Addr) : (Op.equalIn (d + 1) t (.pointer none) (.pointer b)).run P w = .ok b.isNone w := by
  simp only [Op.equalIn, Sem.run_bind, run_underlying hu, Result.andThen_ok]; rfl
theorem equalIn_ptr_nil' {e : TypeId} (hu : P.underlying t = some (.pointer e)) (a : Addr) : (Op.equalIn (d + 1) t (.pointer (some a)) (.pointer none)).run P w = .ok false w := by
  simp only [Op.equalIn, Sem.run_bind, run_underlying hu, Result.andThen_ok]; rfl
theorem equalIn_ptr {e : TypeId} {s : Nat} (hu : P.underlying t = some (.pointer e)) (hs : tsize P e = some s) (h0 : s ≠ 0) {a b : Addr} {r : Bool} (h : (sameAddr a b).run P w = .ok r w) :
    (Op.equalIn (d + 1) t (.pointer (some a)) (.pointer (some b))).run P w = .ok r w := by
  simp only [Op.equalIn, Sem.run_bind, run_underlying hu, Result.andThen_ok, sizeOf_run hs, if_pos h0, Sem.run_ite, ne_eq, h0, not_false_eq_true, if_true, h]
theorem equalIn_sl_nil {e : TypeId} (hu : P.underlying t = some (.slice e)) (n m k l : Nat) (b : Option Addr) : (Op.equalIn (d + 1) t (.slice none n m) (.slice b k l)).run P w = .ok b.isNone w := by
  simp only [Op.equalIn, Sem.run_bind, run_underlying hu, Result.andThen_ok]; rfl
theorem equalIn_sl_nil' {e : TypeId} (hu : P.underlying t = some (.slice e)) (n m k l : Nat) (b : Addr) : (Op.equalIn (d + 1) t (.slice (some b) n m) (.slice none k l)).run P w = .ok false w := by
  simp only [Op.equalIn, Sem.run_bind, run_underlying hu, Result.andThen_ok]; rfl
theorem equalIn_map_nil {e f : TypeId} (hu : P.underlying t = some (.map e f)) (b : Option Nat) : (Op.equalIn (d + 1) t (.map none) (.map b)).run P w = .ok b.isNone w := by
  simp only [Op.equalIn, Sem.run_bind, run_underlying hu, Result.andThen_ok]; rfl
theorem equalIn_map_nil' {e f : TypeId} (hu : P.underlying t = some (.map e f)) (b : Nat) : (Op.equalIn (d + 1) t (.map (some b)) (.map none)).run P w = .ok false w := by
  simp only [Op.equalIn, Sem.run_bind, run_underlying hu, Result.andThen_ok]; rfl
theorem equalIn_fn_nil {ps rs : Array TypeId} {v : Bool} (hu : P.underlying t = some (.func ps rs v)) : (Op.equalIn (d + 1) t .nilFunc .nilFunc).run P w = .ok true w := by
  simp only [Op.equalIn, Sem.run_bind, run_underlying hu, Result.andThen_ok]; rfl
theorem equalIn_fn_nil1 {ps rs : Array TypeId} {v : Bool} (hu : P.underlying t = some (.func ps rs v)) (f : Fn) (a b : Array Value) : (Op.equalIn (d + 1) t .nilFunc (.func f a b)).run P w = .ok false w := by
  simp only [Op.equalIn, Sem.run_bind, run_underlying hu, Result.andThen_ok]; rfl
theorem equalIn_fn_nil2 {ps rs : Array TypeId} {v : Bool} (hu : P.underlying t = some (.func ps rs v)) (f : Fn) (a b : Array Value) : (Op.equalIn (d + 1) t (.func f a b) .nilFunc).run P w = .ok false w := by
  simp only [Op.equalIn, Sem.run_bind, run_underlying hu, Result.andThen_ok]; rfl
theorem equalIn_if_nil0 {ms : Array (String × TypeId)} (hu : P.underlying t = some (.interface ms)) : (Op.equalIn (d + 1) t .nilIface .nilIface).run P w = .ok true w := by
  simp only [Op.equalIn, Sem.run_bind, run_underlying hu, Result.andThen_ok]; rfl
theorem equalIn_if_nil1 {ms : Array (String × TypeId)} (hu : P.underlying t = some (.interface ms)) (x : TypeId) (v : Value) : (Op.equalIn (d + 1) t .nilIface (.iface x v)).run P w = .ok false w := by
  simp only [Op.equalIn, Sem.run_bind, run_underlying hu, Result.andThen_ok]; rfl
theorem equalIn_if_nil2 {ms : Array (String × TypeId)} (hu : P.underlying t = some (.interface ms)) (x : TypeId) (v : Value) : (Op.equalIn (d + 1) t (.iface x v) .nilIface).run P w = .ok false w := by
  simp only [Op.equalIn, Sem.run_bind, run_underlying hu, Result.andThen_ok]; rfl
end

theorem eq_run {P : Program} {β : Bt} {B0 : Nat} {h : PM AB} {w : World} (hR : Rel β B0 h w) {op : BinOp} (hop : isEq op = true) {t : TypeId} (x y : Operand) {ng : Bool} {k : EqK} {a b : AV} {a' b' : Value} {r : Bool}
    (hc : compEq P (isLit x || isLit y) (isNeq op) t = some (.eq ng k)) (ha : VR β a a') (hb : VR β b b') (hs : eqV h k a b = some r) :
    ng = isNeq op ∧ ((do eqGuard op t x y a' b'; binOp op t a' b') : Sem Value).run P w = .ok (.bool (r != isNeq op)) w := by
  have g0 : ∀ {u v : Value}, (∃ z, u = .bool z) ∨ (∃ z, u = .pointer z) ∨ (∃ z n m, u = .slice z n m) ∨ (∃ z, u = .map z) ∨ (∃ f c d, u = .func f c d) ∨ u = .nilFunc → (eqGuard op t x y u v).run P w = .ok () w := by
    rintro u v (⟨z, rfl⟩ | ⟨z, rfl⟩ | ⟨z, n, m, rfl⟩ | ⟨z, rfl⟩ | ⟨f, c, d, rfl⟩ | rfl) <;> simp [eqGuard_at_bool, eqGuard_at_pointer, eqGuard_at_slice, eqGuard_at_map, eqGuard_at_func, eqGuard_at_nilFunc]
  unfold compEq at hc
  split at hc
  · rename_i hu
    cases hc
    refine ⟨rfl, ?_⟩
    cases a <;> cases b <;> simp only [eqV] at hs <;> first | (cases hs; done) | skip
    cases ha; cases hb; cases hs
    exact eq_of_equal hop rfl (g0 (.inl ⟨_, rfl⟩)) (fun d => run_equalIn_bool w _ t _ _ hu)
  · rename_i e hu
    split at hc
    · rename_i s hsz
      rw [beq_nat] at hc
      by_cases hs0 : s = 0
      · simp [hs0] at hc
      · simp only [hs0, decide_false, cond_false, Option.some.injEq, AOp.eq.injEq] at hc
        obtain ⟨rfl, rfl⟩ := hc
        refine ⟨rfl, ?_⟩
        cases a <;> cases b <;> simp only [eqV] at hs <;> first | (cases hs; done) | skip
        cases ha with
        | pn =>
          cases hb with
          | pn => cases hs; exact eq_of_equal hop rfl (g0 (.inr (.inl ⟨_, rfl⟩))) (fun d => equalIn_ptr_nil _ hu _)
          | p hb => cases hs; exact eq_of_equal hop rfl (g0 (.inr (.inl ⟨_, rfl⟩))) (fun d => equalIn_ptr_nil _ hu _)
        | p ha =>
          cases hb with
          | pn => cases hs; exact eq_of_equal hop rfl (g0 (.inr (.inl ⟨_, rfl⟩))) (fun d => equalIn_ptr_nil' _ hu _)
          | p hb =>
            have := sameAddr_own (P := P) hR ha hb hs
            exact eq_of_equal hop rfl (g0 (.inr (.inl ⟨_, rfl⟩))) (fun d => equalIn_ptr _ hu hsz hs0 this)
    · cases hc
  · rename_i e hu
    cases hc
    refine ⟨rfl, ?_⟩
    cases a <;> cases b <;> simp only [eqV] at hs <;> first | (cases hs; done) | skip
    cases ha with
    | sln =>
      cases hb with
      | sln => cases hs; exact eq_of_equal hop rfl (g0 (.inr (.inr (.inl ⟨_, _, _, rfl⟩)))) (fun d => equalIn_sl_nil _ hu _ _ _ _ _)
      | sl => cases hs; exact eq_of_equal hop rfl (g0 (.inr (.inr (.inl ⟨_, _, _, rfl⟩)))) (fun d => equalIn_sl_nil _ hu _ _ _ _ _)
    | sl =>
      cases hb with
      | sln => cases hs; exact eq_of_equal hop rfl (g0 (.inr (.inr (.inl ⟨_, _, _, rfl⟩)))) (fun d => equalIn_sl_nil' _ hu _ _ _ _ _)
      | sl => cases hs
  · rename_i e1 e2 hu
    cases hc
    refine ⟨rfl, ?_⟩
    cases a <;> cases b <;> simp only [eqV] at hs <;> first | (cases hs; done) | skip
    cases ha with
    | mn =>
      cases hb with
      | mn => cases hs; exact eq_of_equal hop rfl (g0 (.inr (.inr (.inr (.inl ⟨_, rfl⟩))))) (fun d => equalIn_map_nil _ hu _)
      | m => cases hs; exact eq_of_equal hop rfl (g0 (.inr (.inr (.inr (.inl ⟨_, rfl⟩))))) (fun d => equalIn_map_nil _ hu _)
    | m =>
      cases hb with
      | mn => cases hs; exact eq_of_equal hop rfl (g0 (.inr (.inr (.inr (.inl ⟨_, rfl⟩))))) (fun d => equalIn_map_nil' _ hu _)
      | m => cases hs
  · rename_i e1 e2 e3 hu
    cases hc
    refine ⟨rfl, ?_⟩
    cases a <;> cases b <;> simp only [eqV] at hs <;> first | (cases hs; done) | skip
    · cases ha; cases hb; cases hs
      exact eq_of_equal hop rfl (g0 (.inr (.inr (.inr (.inr (.inl ⟨_, _, _, rfl⟩)))))) (fun d => equalIn_fn_nil2 _ hu _ _ _)
    · cases ha; cases hb; cases hs
      exact eq_of_equal hop rfl (g0 (.inr (.inr (.inr (.inr (.inr rfl)))))) (fun d => by first | exact equalIn_fn_nil _ hu | exact equalIn_fn_nil1 _ hu _ _ _)
    · cases ha; cases hb; cases hs
      exact eq_of_equal hop rfl (g0 (.inr (.inr (.inr (.inr (.inr rfl)))))) (fun d => by first | exact equalIn_fn_nil _ hu | exact equalIn_fn_nil1 _ hu _ _ _)
  · rename_i e hu
    cases hlit : (isLit x || isLit y) <;> rw [hlit] at hc <;> cases hc <;> refine ⟨rfl, ?_⟩ <;> cases a <;> cases b <;> simp only [eqV] at hs <;> first | (cases hs; done) | skip
    · cases ha; cases hb; cases hs
      exact eq_of_equal hop rfl (by rw [eqGuard_at_iface]; rfl) (fun d => equalIn_if_nil2 _ hu _ _)
    · cases ha; cases hb; cases hs
      exact eq_of_equal hop rfl (by rw [eqGuard_nil_iface]; rfl) (fun d => equalIn_if_nil1 _ hu _ _)
    · cases ha; cases hb; cases hs
      exact eq_of_equal hop rfl (by rw [eqGuard_at_iface]; rfl) (fun d => equalIn_if_nil2 _ hu _ _)
    · cases ha; cases hb; cases hs
      exact eq_of_equal hop rfl (by rw [eqGuard_nil_iface]; rfl) (fun d => equalIn_if_nil1 _ hu _ _)
    · cases ha; cases hb; cases hs
      refine eq_of_equal hop rfl ?_ (fun d => equalIn_if_nil0 _ hu)
      rcases Bool.or_eq_true_iff.1 hlit with hl | hl
      · cases x with
        | const z => cases op <;> first | rfl | cases hop
        | _ => cases hl
      · cases y with
        | const z => cases op <;> first | rfl | (cases x <;> rfl) | cases hop
        | _ => cases hl
  · rename_i fs hu
    cases hh : P.stoodInHeld t with
    | true => rw [hh] at hc; cases hc
    | false =>
      rw [hh] at hc
      cases hf : scalFields P fs.toList with
      | none => rw [hf] at hc; cases hc
      | some l =>
        rw [hf] at hc
        simp at hc
        obtain ⟨rfl, rfl⟩ := hc
        refine ⟨rfl, ?_⟩
        cases a <;> cases b <;> simp only [eqV] at hs <;> first | (cases hs; done) | skip
        cases ha with
        | agg ha =>
          cases hb with
          | agg hb =>
            have hfo : P.fieldsOf t = fs := by simp [Program.fieldsOf, hu]
            have hd := eqGuardType_struct hu hf
            refine eq_of_equal hop rfl (run_eqGuard_agg w op t x y _ _ hd) fun d => ?_
            rw [run_equalIn_struct w (d + 1) t _ _ (by rw [hfo]; exact hu) hh, hfo]
            exact eqAt_run ha hb d hf hs
  · cases hc
end Go.AM

/- Constants, parts of values, rows of zeros: what the abstract machine's lists say of the model's. -/
set_option linter.unusedVariables false
set_option linter.unusedSimpArgs false
namespace Go.AM

/-! ### constants -/
theorem toAV1_VR {β : Bt} {v : Value} {a : AV} (h : toAV1 v = some a) : VR β a v := by
  unfold toAV1 at h
  split at h <;> first | (cases h; done) | skip
  · cases h; exact .b _
  · cases h; exact .i _ _
  · rename_i s; cases h; exact .s s.data.toList
  · cases h; exact .pn
  · cases h; exact .sln
  · cases h; exact .mn
  · cases h; exact .nilf
  · cases h; exact .nili
theorem mapO_len {α γ : Type} {f : α → Option γ} : ∀ {l : List α} {m : List γ}, mapO f l = some m → l.length = m.length
  | [], m, h => by simp [mapO] at h; subst h; rfl
  | x :: l, m, h => by
    unfold mapO at h
    split at h
    · cases hr : mapO f l with
      | none => rw [hr] at h; cases h
      | some r => rw [hr] at h; cases h; simp [mapO_len hr]
    · cases h
theorem mapO_get {α γ : Type} {f : α → Option γ} : ∀ {l : List α} {m : List γ}, mapO f l = some m → ∀ (i : Nat) (x : α), l[i]? = some x → ∃ y, f x = some y ∧ m[i]? = some y
  | [], m, h, i, x, hx => by simp at hx
  | z :: l, m, h, i, x, hx => by
    unfold mapO at h
    split at h
    · rename_i y hy
      cases hr : mapO f l with
      | none => rw [hr] at h; cases h
      | some r =>
        rw [hr] at h; cases h
        cases i with
        | zero => simp at hx; subst hx; exact ⟨y, hy, rfl⟩
        | succ i => simpa using mapO_get hr i x (by simpa using hx)
    · cases h
theorem mapO_VRs {β : Bt} {l : List Value} {m : List AV} (h : mapO toAV1 l = some m) : VRs β m l := by
  refine VRs.of_get (mapO_len h).symm fun i a v ha hv => ?_
  obtain ⟨y, hy, hm⟩ := mapO_get h i v hv
  rw [ha] at hm
  cases hm
  exact toAV1_VR hy
theorem toAV_VR {β : Bt} {v : Value} {a : AV} (h : toAV v = some a) : VR β a v := by
  unfold toAV at h
  split at h
  · rename_i cs
    cases hr : mapO toAV1 cs.toList with
    | none => rw [hr] at h; cases h
    | some l => rw [hr] at h; cases h; exact .agg (mapO_VRs hr)
  · exact toAV1_VR h
theorem zero_run {P : Program} {w : World} {t : TypeId} {i : TypeInfo} {z : Value} (hi : P.info? t = some i) (hz : i.zero = some z) : (zeroValue t).run P w = .ok z w := by
  simp [zeroValue, run_typeInfo w hi, hz]
theorem zcells_spec {P : Program} {t : TypeId} {l : List AV} (h : zcells P t = some l) : ∃ i z, P.info? t = some i ∧ i.zero = some z ∧ (∀ β, VRs β l z.cells.toList) ∧ l.length = i.size ∧ l.all AV.one = true := by
  unfold zcells at h
  split at h
  · rename_i i hi
    split at h
    · rename_i z hz
      split at h
      · rename_i m hm
        rw [beq_nat] at h
        by_cases hl : m.length = i.size
        · simp [hl] at h
          subst h
          refine ⟨i, z, hi, hz, fun β => mapO_VRs hm, hl, ?_⟩
          rw [List.all_eq_true]
          intro a ha
          obtain ⟨k, hk⟩ := List.mem_iff_getElem?.1 ha
          have hlen := mapO_len hm
          have hkl : k < z.cells.toList.length := by
            have := (List.getElem?_eq_some_iff.1 hk).1
            omega
          obtain ⟨y, hy, hm2⟩ := mapO_get hm k _ (List.getElem?_eq_getElem hkl)
          rw [hk] at hm2
          cases hm2
          unfold toAV1 at hy
          split at hy <;> first | (cases hy; done) | (cases hy; rfl)
        · simp [hl] at h
      · cases h
    · cases h
  · cases h

/-! ### filling -/
theorem fold_set (off : Nat) : ∀ (vs : List Value) (k : Nat) (cells : Array Value), off + k + vs.length ≤ cells.size →
    ((vs.zipIdx k).foldl (fun cs p => cs.setIfInBounds (off + p.2) p.1) cells).size = cells.size ∧
    ∀ i, ((vs.zipIdx k).foldl (fun cs p => cs.setIfInBounds (off + p.2) p.1) cells)[i]? = if off + k ≤ i ∧ i < off + k + vs.length then vs[i - (off + k)]? else cells[i]?
  | [], k, cells, h => by
    refine ⟨rfl, fun i => ?_⟩
    rw [if_neg (by simp only [List.length_nil]; omega)]
    rfl
  | v :: vs, k, cells, h => by
    simp only [List.length_cons] at h
    obtain ⟨h1, h2⟩ := fold_set off vs (k + 1) (cells.setIfInBounds (off + k) v) (by rw [Array.size_setIfInBounds]; omega)
    simp only [List.zipIdx_cons, List.foldl_cons]
    refine ⟨by rw [h1]; simp, fun i => ?_⟩
    rw [h2 i]
    by_cases hi : i = off + k
    · subst hi
      have hlt : off + k < cells.size := by omega
      rw [if_neg (by omega), if_pos (by simp)]
      simp [hlt]
    · by_cases hc : off + (k + 1) ≤ i ∧ i < off + (k + 1) + vs.length
      · rw [if_pos hc, if_pos (by simp; omega)]
        rw [show i - (off + k) = (i - (off + (k + 1))) + 1 by omega]
        simp
      · rw [if_neg hc, if_neg (by simp; omega), Array.getElem?_setIfInBounds_ne (by omega)]
theorem fold_set' (off : Nat) (vs cells : Array Value) (h : off + vs.size ≤ cells.size) :
    (vs.zipIdx.foldl (fun cs (c, j) => cs.setIfInBounds (off + j) c) cells).size = cells.size ∧
    ∀ i, (vs.zipIdx.foldl (fun cs (c, j) => cs.setIfInBounds (off + j) c) cells)[i]? = if off ≤ i ∧ i < off + vs.size then vs[i - off]? else cells[i]? := by
  rw [← Array.foldl_toList, Array.toList_zipIdx]
  have := fold_set off vs.toList 0 cells (by simpa using h)
  simpa using this
theorem fill_run {β : Bt} (place : Nat → Option (Nat × Nat)) : ∀ {ps : List (Nat × Nat)} {vs : List AV} {parts : List (Nat × Value)} {c : List AV} {c' : Array Value} {r : List AV},
    VRs β c c'.toList → VRs β vs (parts.map (·.2)) → (∀ (i : Nat) (p : Nat × Value), parts[i]? = some p → place p.1 = ps[i]?) → fillP c ps vs = some r →
    ∃ r', Instr.fill place c' parts = some r' ∧ VRs β r r'.toList
  | [], [], [], c, c', r, hc, _, _, h => by simp [fillP] at h; subst h; exact ⟨c', rfl, hc⟩
  | [], [], _ :: _, c, c', r, _, hv, _, _ => by cases hv
  | [], _ :: _, _, c, c', r, _, _, _, h => by simp [fillP] at h
  | _ :: _, [], _, c, c', r, _, _, _, h => by simp [fillP] at h
  | _ :: _, _ :: _, [], c, c', r, _, hv, _, _ => by cases hv
  | (off, sz) :: ps, v :: vs, (i, x) :: parts, c, c', r, hc, hv, hp, h => by
    unfold fillP at h
    cases hl : v.cellsOf with
    | none => rw [hl] at h; cases h
    | some l =>
      rw [hl] at h
      simp only at h
      cases hb : (Nat.beq l.length sz && Nat.ble (off + sz) c.length) with
      | false => rw [hb] at h; cases h
      | true =>
        rw [hb] at h
        simp only [Bool.and_eq_true, beq_nat, ble_nat, decide_eq_true_eq] at hb
        cases hv with
        | cons hvx hvr =>
          obtain ⟨hcl, _⟩ := hvx.cells hl
          have hlen := hcl.length
          have hclen := hc.length
          have hsz : x.cells.size = sz := by rw [← hb.1, hlen]; simp
          have hle : off + x.cells.size ≤ c'.size := by rw [hsz]; have := hb.2; simp at hclen; omega
          obtain ⟨f1, f2⟩ := fold_set' off x.cells c' hle
          have hp0 : place i = some (off, sz) := by have := hp 0 (i, x) rfl; simpa using this
          simp only [Instr.fill, hp0]
          rw [if_neg (by simp [hsz]; omega)]
          refine fill_run place ?_ hvr (fun k p hk => by simpa using hp (k + 1) p (by simpa using hk)) h
          refine VRs.of_get ?_ fun k a b ha hb2 => ?_
          · have : (splice c off l).length = c.length := by unfold splice; simp; omega
            rw [this, hclen, Array.length_toList, Array.length_toList]; exact f1.symm
          · rw [splice_get c l off (by omega)] at ha
            rw [Array.getElem?_toList, f2 k] at hb2
            by_cases h1 : k < off
            · rw [if_pos h1] at ha
              rw [if_neg (by omega)] at hb2
              obtain ⟨u, hu, hvr⟩ := hc.get ha
              rw [Array.getElem?_toList, hb2] at hu
              cases hu
              exact hvr
            · rw [if_neg h1] at ha
              by_cases h2 : k < off + l.length
              · rw [if_pos h2] at ha
                rw [if_pos (by omega)] at hb2
                obtain ⟨u, hu, hvr⟩ := hcl.get ha
                rw [Array.getElem?_toList, hb2] at hu
                cases hu
                exact hvr
              · rw [if_neg h2] at ha
                rw [if_neg (by omega)] at hb2
                obtain ⟨u, hu, hvr⟩ := hc.get ha
                rw [Array.getElem?_toList, hb2] at hu
                cases hu
                exact hvr

/-! ### rows of zeros -/
theorem reps_length (z : List AV) : ∀ n, (reps z n).length = n * z.length
  | 0 => by simp [reps]
  | n + 1 => by simp [reps, reps_length z n, Nat.succ_mul]; omega
theorem reps_get (z : List AV) (hz : 0 < z.length) : ∀ (n i : Nat), i < n * z.length → (reps z n)[i]? = z[i % z.length]?
  | 0, i, h => by simp at h
  | n + 1, i, h => by
    simp only [reps]
    rw [List.getElem?_append]
    split
    · rename_i hi
      rw [Nat.mod_eq_of_lt hi]
    · rename_i hi
      rw [Nat.succ_mul] at h
      rw [reps_get z hz n (i - z.length) (by omega)]
      congr 1
      rw [← Nat.mod_eq_sub_mod (by omega)]
theorem zeros_VRs {β : Bt} {z : List AV} {z' : Array Value} (h : VRs β z z'.toList) (n m : Nat) (hm : m = n * z'.size) : VRs β (reps z n) ((Array.range m).map fun i => z'[i % z'.size]!).toList := by
  have hl := h.length
  simp at hl
  refine VRs.of_get (by simp [reps_length, hl, hm]) fun i a b ha hb => ?_
  have hi : i < n * z.length := by
    have := (List.getElem?_eq_some_iff.1 ha).1
    rwa [reps_length] at this
  have hz : 0 < z.length := by
    rcases Nat.eq_zero_or_pos z.length with h0 | h0
    · rw [h0] at hi; simp at hi
    · exact h0
  rw [reps_get z hz n i hi] at ha
  obtain ⟨u, hu, hv⟩ := h.get ha
  have hmod : i % z'.size < z'.size := Nat.mod_lt _ (by omega)
  rw [Array.getElem?_toList] at hu hb
  simp only [Array.getElem?_map, Option.map_eq_some_iff] at hb
  obtain ⟨j, hj, hb⟩ := hb
  have hji : j = i := by
    have := Array.getElem?_eq_some_iff.1 hj
    obtain ⟨h1, h2⟩ := this
    simp at h2
    exact h2.symm
  subst hji
  rw [hl] at hu
  have : z'[j % z'.size]! = u := by
    rw [getElem!_pos z' _ hmod]
    rw [Array.getElem?_eq_getElem hmod] at hu
    cases hu
    rfl
  rw [← hb, this]
  exact hv
theorem reps_one {z : List AV} (h : z.all AV.one = true) : ∀ n, (reps z n).all AV.one = true
  | 0 => rfl
  | n + 1 => by simp only [reps, List.all_append, h, reps_one h n, Bool.and_self]
end Go.AM

/- Operations that leave memory as it is: one by one, then all. -/
set_option linter.unusedVariables false
set_option linter.unusedSimpArgs false
namespace Go.AM

theorem vrs1 {β : Bt} {vs : List AV} {x : Value} (h : VRs β vs [x]) : ∃ v, vs = [v] ∧ VR β v x := by
  cases h with | cons h t => cases t; exact ⟨_, rfl, h⟩
theorem vrs2 {β : Bt} {vs : List AV} {x y : Value} (h : VRs β vs [x, y]) : ∃ v u, vs = [v, u] ∧ VR β v x ∧ VR β u y := by
  cases h with | cons h t => obtain ⟨u, rfl, hu⟩ := vrs1 t; exact ⟨_, _, rfl, h, hu⟩
theorem vrs3 {β : Bt} {vs : List AV} {x y z : Value} (h : VRs β vs [x, y, z]) : ∃ v u t, vs = [v, u, t] ∧ VR β v x ∧ VR β u y ∧ VR β t z := by
  cases h with | cons h t => obtain ⟨u, q, rfl, hu, hq⟩ := vrs2 t; exact ⟨_, _, _, rfl, h, hu, hq⟩

section
variable {P : Program} {β : Bt} {B0 : Nat} {h : PM AB} {w : World} (ρ : Operand → Value)

theorem g_pick {vs : List AV} {v : AV} {c a b : Value} (hv : VRs β vs [c, a, b]) (hs : rPick h vs = some v) :
    ∃ v', ((do pure (.value (if ← asBool c then a else b))) : Sem Next).run P w = .ok (.value v') w ∧ VR β v v' := by
  obtain ⟨x, y, z, rfl, hx, hy, hz⟩ := vrs3 hv
  cases x <;> simp only [rPick] at hs <;> first | (cases hs; done) | skip
  cases hx
  rename_i q
  cases q <;> cases hs
  · exact ⟨_, by simp [asBool], hz⟩
  · exact ⟨_, by simp [asBool], hy⟩

theorem g_nil {vs : List AV} {v : AV} {x : Value} (o : Oper) {y : Operand} (ho : o.op = .nilCheck y) (hy : ρ y = x) (hv : VRs β vs [x]) (hs : rNil h vs = some v) :
    ∃ v', (execOp ρ o).run P w = .ok (.value v') w ∧ VR β v v' := by
  obtain ⟨x, rfl, hx⟩ := vrs1 hv
  simp only [execOp, ho, hy]
  cases x <;> simp only [rNil] at hs <;> first | (cases hs; done) | skip
  · rename_i a
    cases a with
    | none => cases hs
    | some a => cases hs; cases hx with | p hb => exact ⟨_, rfl, .p hb⟩
  · cases hs; cases hx with | fn _ h1 h2 => exact ⟨_, rfl, .fn _ h1 h2⟩

theorem eqGuard_int (op : BinOp) (t : TypeId) (x y : Operand) (k : IntKind) (n : Int) (b : Value) : (eqGuard op t x y (.int k n) b).run P w = .ok () w := by
  rw [eqGuard_at_int]; rfl
theorem eqGuard_str (op : BinOp) (t : TypeId) (x y : Operand) (s : ByteArray) (b : Value) : (eqGuard op t x y (.string s) b).run P w = .ok () w := by
  rw [eqGuard_at_string]; rfl
theorem g_bin {vs : List AV} {v : AV} {a b : Value} {op : BinOp} (t : TypeId) (x y : Operand) (hv : VRs β vs [a, b]) (hs : rBin op h vs = some v) :
    ∃ v', ((do eqGuard op t x y a b; binOp op t a b) : Sem Value).run P w = .ok v' w ∧ VR β v v' := by
  obtain ⟨p, q, rfl, hp, hq⟩ := vrs2 hv
  cases p <;> simp only [rBin] at hs <;> first | (cases hs; done) | skip
  cases q <;> simp only [] at hs <;> first | (cases hs; done) | skip
  cases hp; cases hq
  cases hsh : isSh op with
  | true =>
    rw [hsh] at hs
    rename_i k n j m
    obtain ⟨v', h1, h2⟩ := shI_run (P := P) (w := w) (j := j) t hs
    exact ⟨v', by simp [eqGuard_int, h1], h2 β⟩
  | false =>
    rw [hsh] at hs
    rename_i k n j m
    cases hk : kEq k j with
    | false => rw [hk] at hs; cases hs
    | true =>
      rw [hk] at hs
      have := kEq_iff.1 hk
      subst this
      obtain ⟨v', h1, h2⟩ := binI_run (P := P) (w := w) t hsh hs
      exact ⟨v', by simp [eqGuard_int, h1], h2 β⟩
theorem g_sbin {vs : List AV} {v : AV} {a b : Value} {op : BinOp} (t : TypeId) (x y : Operand) (hv : VRs β vs [a, b]) (hs : rSbin op h vs = some v) :
    ∃ v', ((do eqGuard op t x y a b; binOp op t a b) : Sem Value).run P w = .ok v' w ∧ VR β v v' := by
  obtain ⟨p, q, rfl, hp, hq⟩ := vrs2 hv
  cases p <;> simp only [rSbin] at hs <;> first | (cases hs; done) | skip
  cases q <;> simp only [] at hs <;> first | (cases hs; done) | skip
  cases hp; cases hq
  obtain ⟨v', h1, h2⟩ := binS_run (P := P) (w := w) t hs
  exact ⟨v', by simp [eqGuard_str, h1], h2 β⟩
theorem g_eq (hR : Rel β B0 h w) {vs : List AV} {v : AV} {a b : Value} {op : BinOp} (hop : isEq op = true) {t : TypeId} (x y : Operand) {ng : Bool} {k : EqK} (hc : compEq P (isLit x || isLit y) (isNeq op) t = some (.eq ng k))
    (hv : VRs β vs [a, b]) (hs : rEq ng k h vs = some v) :
    ∃ v', ((do eqGuard op t x y a b; binOp op t a b) : Sem Value).run P w = .ok v' w ∧ VR β v v' := by
  obtain ⟨p, q, rfl, hp, hq⟩ := vrs2 hv
  simp only [rEq] at hs
  cases he : eqV h k p q with
  | none => rw [he] at hs; cases hs
  | some r =>
    rw [he] at hs
    cases hs
    obtain ⟨rfl, h1⟩ := eq_run hR hop x y hc hp hq he
    exact ⟨_, h1, .b _⟩
theorem g_un {vs : List AV} {v : AV} {a : Value} {op : UnOp} (hv : VRs β vs [a]) (hs : rUn op h vs = some v) :
    ∃ v', (Op.unary op a).run P w = .ok v' w ∧ VR β v v' := by
  obtain ⟨p, rfl, hp⟩ := vrs1 hv
  cases p <;> simp only [rUn] at hs <;> first | (cases hs; done) | skip
  · cases op <;> simp only [] at hs <;> first | (cases hs; done) | skip
    cases hs; cases hp
    exact ⟨_, rfl, .b _⟩
  · cases op <;> simp only [] at hs <;> first | (cases hs; done) | skip
    all_goals (cases hs; cases hp; rw [wr_eq]; exact ⟨_, rfl, .i _ _⟩)
theorem g_cvtI {vs : List AV} {v : AV} {a : Value} {s d : TypeId} {k k' : IntKind} (hsd : P.underlying s = some (.int k')) (hd : P.underlying d = some (.int k)) (hv : VRs β vs [a]) (hs : rCvtI k h vs = some v) :
    ∃ v', (convert s d a).run P w = .ok v' w ∧ VR β v v' := by
  obtain ⟨p, rfl, hp⟩ := vrs1 hv
  cases p <;> simp only [rCvtI] at hs <;> first | (cases hs; done) | skip
  cases hs; cases hp
  rw [wr_eq]
  refine ⟨_, ?_, .i _ _⟩
  simp only [convert, Sem.run_bind, run_underlying hsd, run_underlying hd, Result.andThen_ok]
  rfl
theorem g_cvtS {vs : List AV} {v : AV} {a : Value} {s d : TypeId} (hsd : P.underlying s = some .string) (hd : P.underlying d = some .string) (hv : VRs β vs [a]) (hs : rCvtS h vs = some v) :
    ∃ v', (convert s d a).run P w = .ok v' w ∧ VR β v v' := by
  obtain ⟨p, rfl, hp⟩ := vrs1 hv
  cases p <;> simp only [rCvtS] at hs <;> first | (cases hs; done) | skip
  cases hs; cases hp
  refine ⟨_, ?_, .s _⟩
  simp only [convert, Sem.run_bind, run_underlying hsd, run_underlying hd, Result.andThen_ok]
  rfl

theorem idx_VR {v : AV} {v' : Value} {n : Nat} (hv : VR β v v') (h : idx v = some n) : ∃ k, v' = .int k (n : Int) := by
  cases v <;> simp only [idx] at h <;> first | (cases h; done) | skip
  rename_i k m
  cases m with
  | ofNat m => cases h; cases hv; exact ⟨k, rfl⟩
  | negSucc m => cases h
theorem bound_run (k : IntKind) (i y : Nat) (code : BoundsCode) (h : i ≤ y) : (Instr.sliceBound (.int k (i : Int)) y code).run P w = .ok i w := by
  have := run_sliceBound (P := P) (w := w) k (i : Int) y code (by omega) (by omega)
  simpa using this
/-- the operands of a slice expression -/
theorem optIdx_spec {x : Option Operand} {r : List AV} {rest : List Value} {d n : Nat} {r' : List AV} (hv : VRs β r ((x.toList.map ρ) ++ rest)) (h : optIdx x.isSome r d = some (n, r')) :
    VRs β r' rest ∧ ((x = none ∧ n = d) ∨ ∃ y k, x = some y ∧ ρ y = .int k (n : Int)) := by
  cases x with
  | none => simp only [Option.isSome_none, optIdx, Option.some.injEq, Prod.mk.injEq] at h; obtain ⟨rfl, rfl⟩ := h; exact ⟨by simpa using hv, .inl ⟨rfl, rfl⟩⟩
  | some y =>
    cases hv with
    | cons hv0 t =>
      simp only [Option.isSome_some, optIdx] at h
      cases hi : idx _ with
      | none => rw [hi] at h; cases h
      | some m =>
        rw [hi] at h
        cases h
        obtain ⟨k, hk⟩ := idx_VR hv0 hi
        exact ⟨by simpa using t, .inr ⟨y, k, rfl, hk⟩⟩
theorem g_slc {t e : TypeId} {size : Nat} (ht : P.underlying t = some (.slice e)) (hsz : tsize P e = some size) {x : Operand} {lo hi mx : Option Operand} (hmx : mx.isSome = true → hi.isSome = true) {vs : List AV} {v : AV}
    (hv : VRs β vs (ρ x :: ((lo.toList.map ρ) ++ ((hi.toList.map ρ) ++ ((mx.toList.map ρ) ++ []))))) (hs : rSlc size lo.isSome hi.isSome mx.isSome h vs = some v) :
    ∃ v', (Instr.sliceAt t (ρ x) (lo.map ρ) (hi.map ρ) (mx.map ρ)).run P w = .ok v' w ∧ VR β v v' := by
  cases hv with
  | cons hx hv =>
    rename_i a vs
    simp only [rSlc] at hs
    cases a <;> simp only [slcV] at hs <;> first | (cases hs; done) | skip
    rename_i A len cap ex
    cases h1 : optIdx lo.isSome vs 0 with
    | none => rw [h1] at hs; cases hs
    | some p =>
      obtain ⟨l, r1⟩ := p
      rw [h1] at hs
      simp only at hs
      obtain ⟨hv1, hl⟩ := optIdx_spec ρ hv h1
      cases h2 : optIdx hi.isSome r1 len with
      | none => rw [h2] at hs; cases hs
      | some p =>
        obtain ⟨hh, r2⟩ := p
        rw [h2] at hs
        simp only at hs
        obtain ⟨hv2, hhi⟩ := optIdx_spec ρ hv1 h2
        cases h3 : optIdx mx.isSome r2 cap with
        | none => rw [h3] at hs; cases hs
        | some p =>
          obtain ⟨m, r3⟩ := p
          rw [h3] at hs
          obtain ⟨hv3, hm⟩ := optIdx_spec ρ hv2 h3
          cases hv3
          simp only at hs
          cases hb : (Nat.ble l hh && Nat.ble hh m && Nat.ble m cap && (Nat.beq ex 0 || Nat.beq ex size)) with
          | false => rw [hb] at hs; cases hs
          | true =>
            rw [hb] at hs
            simp only [Bool.and_eq_true, Bool.or_eq_true, ble_nat, beq_nat, decide_eq_true_eq] at hb
            obtain ⟨⟨⟨hb1, hb2⟩, hb3⟩, hb4⟩ := hb
            simp only [cond_true, Option.some.injEq] at hs
            subst hs
            obtain ⟨A', c', hxe⟩ : ∃ A' c', ρ x = .slice A' len c' := by
              generalize ρ x = X at hx
              cases hx with
              | sln => exact ⟨_, _, rfl⟩
              | sl => exact ⟨_, _, rfl⟩
            rw [hxe] at hx ⊢
            have hcc : cap ≤ c' := by
              cases hx with
              | sln => omega
              | sl _ _ hc => exact hc
            -- the bounds, in the model
            have hbs : ∃ m', (Instr.sliceBounds true len c' (lo.map ρ) (hi.map ρ) (mx.map ρ)).run P w = .ok (l, hh, m') w ∧ hh ≤ m' ∧ (mx = none → m' = c') ∧ (mx ≠ none → m' = m) := by
              rcases hm with ⟨rfl, rfl⟩ | ⟨ym, km, rfl, hym⟩
              · refine ⟨c', ?_, by omega, fun _ => rfl, fun hn => absurd rfl hn⟩
                rcases hhi with ⟨rfl, rfl⟩ | ⟨yh, kh, rfl, hyh⟩
                · rcases hl with ⟨rfl, rfl⟩ | ⟨yl, kl, rfl, hyl⟩
                  · simp [Instr.sliceBounds]
                  · simp [Instr.sliceBounds, hyl, bound_run kl l _ _ hb1]
                · have hh1 : hh ≤ c' := by omega
                  rcases hl with ⟨rfl, rfl⟩ | ⟨yl, kl, rfl, hyl⟩
                  · simp [Instr.sliceBounds, hyh, bound_run kh hh _ _ hh1]
                  · simp [Instr.sliceBounds, hyh, hyl, bound_run kh hh _ _ hh1, bound_run kl l _ _ hb1]
              · rcases hhi with ⟨rfl, rfl⟩ | ⟨yh, kh, rfl, hyh⟩
                · simp at hmx
                · refine ⟨m, ?_, hb2, (fun hn => by cases hn), fun _ => rfl⟩
                  have hm1 : m ≤ c' := by omega
                  rcases hl with ⟨rfl, rfl⟩ | ⟨yl, kl, rfl, hyl⟩
                  · simp [Instr.sliceBounds, hym, hyh, bound_run km m _ _ hm1, bound_run kh hh _ _ hb2]
                  · simp [Instr.sliceBounds, hym, hyh, hyl, bound_run km m _ _ hm1, bound_run kh hh _ _ hb2, bound_run kl l _ _ hb1]
            obtain ⟨m', hbs, hm1, hm2, hm3⟩ := hbs
            refine ⟨.slice (if m' = l then A' else A'.map (·.add (l * size))) (hh - l) (m' - l), ?_, ?_⟩
            · simp only [Instr.sliceAt, Instr.slice, Sem.run_bind, run_underlying ht, Result.andThen_ok, hbs, sizeOf_run hsz, Sem.run_pure]
            · cases hx with
              | sln =>
                have : m = 0 := by omega
                subst this
                have hh0 : hh = 0 := by omega
                have hl0 : l = 0 := by omega
                subst hh0; subst hl0
                have hm0 : m' = 0 := by
                  cases hmn : mx with
                  | none => rw [hm2 hmn]
                  | some y => exact hm3 (by rw [hmn]; simp)
                subst hm0
                simp only [if_true, Option.map_none]
                cases mx.isSome <;> exact .sln
              | sl hb hl' hc he hz ha =>
                rename_i n k b o z ad
                simp only [Option.map_some]
                have hsm : m - l ≤ m' - l := by
                  cases hmn : mx with
                  | none => rw [hm2 hmn]; omega
                  | some y => rw [hm3 (by rw [hmn]; simp)]; omega
                have hoff : m' - l = 0 ∨ ad = ⟨b, o + k, none⟩ := by
                  rcases ha with ha | ha
                  · left
                    have : m' ≤ c' := by
                      cases hmn : mx with
                      | none => rw [hm2 hmn]; omega
                      | some y => rw [hm3 (by rw [hmn]; simp)]; omega
                    omega
                  · exact .inr ha
                have hex : (bif mx.isSome then 0 else ex) = 0 → m' - l = m - l := by
                  cases hmn : mx with
                  | none =>
                    simp only [Option.isSome_none, cond_false]
                    intro h0
                    have hmc : m = cap := by
                      rcases hm with ⟨_, h⟩ | ⟨y, _, h, _⟩
                      · exact h
                      · rw [hmn] at h; cases h
                    rw [hm2 hmn, he h0, hmc]
                  | some y => intro _; rw [hm3 (by rw [hmn]; simp)]
                have hez : (bif mx.isSome then 0 else ex) ≠ 0 → k + l * size + (m' - l) * (bif mx.isSome then 0 else ex) ≤ z := by
                  cases hmn : mx with
                  | none =>
                    simp only [Option.isSome_none, cond_false]
                    intro h0
                    have he2 : ex = size := by rcases hb4 with h | h <;> first | exact absurd h h0 | exact h
                    have hz1 := hz h0
                    have hm' := hm2 hmn
                    rw [he2] at hz1 ⊢
                    have : l * size + (m' - l) * size = c' * size := by
                      rw [← Nat.add_mul]
                      congr 1
                      omega
                    omega
                  | some y => intro h0; simp at h0
                by_cases hml : m' = l
                · rw [if_pos hml]
                  exact .sl hb (by omega) hsm hex hez (.inl (by omega))
                · rw [if_neg hml]
                  rcases hoff with h0 | h0
                  · omega
                  · subst h0
                    simp only [add_at]
                    exact .sl hb (by omega) hsm hex hez (.inr (by rw [Nat.add_assoc]))
end
end Go.AM

/- Operations that leave memory as it is, the rest; and all of them. -/
set_option linter.unusedVariables false
set_option linter.unusedSimpArgs false
namespace Go.AM

section
variable {P : Program} {β : Bt} {B0 : Nat} {h : PM AB} {w : World} (ρ : Operand → Value)

theorem g_slcS {t : TypeId} (ht : P.underlying t = some .string) {x : Operand} {lo hi : Option Operand} {vs : List AV} {v : AV}
    (hv : VRs β vs (ρ x :: ((lo.toList.map ρ) ++ ((hi.toList.map ρ) ++ [])))) (hs : rSlcS lo.isSome hi.isSome h vs = some v) :
    ∃ v', (Instr.sliceAt t (ρ x) (lo.map ρ) (hi.map ρ) none).run P w = .ok v' w ∧ VR β v v' := by
  cases hv with
  | cons hx hv =>
    rename_i a vs
    simp only [rSlcS] at hs
    cases a <;> simp only [slcSV] at hs <;> first | (cases hs; done) | skip
    rename_i s
    cases h1 : optIdx lo.isSome vs 0 with
    | none => rw [h1] at hs; cases hs
    | some p =>
      obtain ⟨l, r1⟩ := p
      rw [h1] at hs
      simp only at hs
      obtain ⟨hv1, hl⟩ := optIdx_spec ρ hv h1
      cases h2 : optIdx hi.isSome r1 s.length with
      | none => rw [h2] at hs; cases hs
      | some p =>
        obtain ⟨hh, r2⟩ := p
        rw [h2] at hs
        obtain ⟨hv2, hhi⟩ := optIdx_spec ρ hv1 h2
        cases hv2
        simp only at hs
        cases hb : (Nat.ble l hh && Nat.ble hh s.length) with
        | false => rw [hb] at hs; cases hs
        | true =>
          rw [hb] at hs
          simp only [Bool.and_eq_true, ble_nat, decide_eq_true_eq] at hb
          obtain ⟨hb1, hb2⟩ := hb
          simp only [cond_true, Option.some.injEq] at hs
          subst hs
          generalize hX : ρ x = X at hx
          cases hx
          have hbs : (Instr.sliceBounds false s.length s.length (lo.map ρ) (hi.map ρ) none).run P w = .ok (l, hh, s.length) w := by
            rcases hhi with ⟨rfl, rfl⟩ | ⟨yh, kh, rfl, hyh⟩
            · rcases hl with ⟨rfl, rfl⟩ | ⟨yl, kl, rfl, hyl⟩
              · simp [Instr.sliceBounds]
              · simp [Instr.sliceBounds, hyl, bound_run kl l _ _ hb1]
            · rcases hl with ⟨rfl, rfl⟩ | ⟨yl, kl, rfl, hyl⟩
              · simp [Instr.sliceBounds, hyh, bound_run kh hh _ _ hb2]
              · simp [Instr.sliceBounds, hyh, hyl, bound_run kh hh _ _ hb2, bound_run kl l _ _ hb1]
          have he : (ByteArray.mk s.toArray).extract l hh = ByteArray.mk ((s.take hh).drop l).toArray := by
            apply ByteArray.ext
            rw [ByteArray.data_extract]
            apply Array.ext'
            simp [Array.toList_extract, List.extract_eq_take_drop, List.drop_take]
          refine ⟨.string ((ByteArray.mk s.toArray).extract l hh), ?_, by rw [he]; exact .s _⟩
          simp only [Instr.sliceAt, Instr.slice, Sem.run_bind, run_underlying ht, Result.andThen_ok, size_mk, hbs, Option.isSome_none, Bool.false_eq_true, if_false, Sem.run_pure]

theorem g_fad {s : TypeId} {fs : Array Field} {f : Nat} {g : Field} (hu : P.underlying s = some (.struct fs)) (hf : fs[f]? = some g) {sz : Nat} (hz : tsize P g.type = some sz) (h0 : sz ≠ 0) {vs : List AV} {v : AV} {a : Value} (hv : VRs β vs [a]) (hs : rFad g.offset h vs = some v) :
    ∃ v', (Instr.fieldAt s a f).run P w = .ok v' w ∧ VR β v v' := by
  obtain ⟨p, rfl, hp⟩ := vrs1 hv
  cases p <;> simp only [rFad] at hs <;> first | (cases hs; done) | skip
  rename_i q
  cases q with
  | none => cases hs
  | some q =>
    obtain ⟨n, k⟩ := q
    cases hs
    cases hp with
    | p hb =>
      rename_i b o z
      refine ⟨.pointer (some ⟨b, o + (k + g.offset), none⟩), ?_, .p hb⟩
      simp only [Instr.fieldAt, Sem.run_bind, run_underlying hu, Result.andThen_ok, hf, Instr.sureAddr, Sem.run_pure, fieldPlace, sizeOf_run hz, if_neg h0, add_at, Nat.add_assoc]
theorem shape_run {t : TypeId} {s : Option Nat} (h : tshape P t = some s) : ∃ n, tsize P t = some n ∧ ((tagg P t = some true ∧ s = some n) ∨ (tagg P t = some false ∧ s = none)) := by
  unfold tshape at h
  split at h
  · rename_i n h1 h2; cases h; exact ⟨n, h2, .inl ⟨h1, rfl⟩⟩
  · rename_i n h1 h2; cases h; exact ⟨n, h2, .inr ⟨h1, rfl⟩⟩
  · cases h
/-- a part of an aggregate -/
theorem part_run {t : TypeId} {s : Option Nat} (hsh : tshape P t = some s) {l : List AV} {l' : Array Value} (hv : VRs β l l'.toList) {off : Nat} {v : AV} (hl : look l off s = some v) :
    ∃ v', (part t l' off).run P w = .ok v' w ∧ VR β v v' := by
  obtain ⟨n, hn, ⟨ha, rfl⟩ | ⟨ha, rfl⟩⟩ := shape_run hsh
  · simp only [look] at hl
    cases hc : cut l off n with
    | none => rw [hc] at hl; cases hl
    | some m =>
      rw [hc] at hl
      cases hl
      unfold cut at hc
      cases hb : Nat.ble (off + n) l.length with
      | false => rw [hb] at hc; cases hc
      | true =>
        rw [hb] at hc
        simp at hc
        subst hc
        refine ⟨.agg (l'.extract off (off + n)), by simp [part, isAgg_run ha, sizeOf_run hn], .agg ?_⟩
        have : (l'.extract off (off + n)).toList = (l'.toList.drop off).take n := by
          simp [Array.toList_extract, List.extract_eq_take_drop]
        rw [this]
        exact VRs.take _ (VRs.drop _ hv)
  · simp only [look] at hl
    obtain ⟨v', h1, h2⟩ := hv.get hl
    exact ⟨v', part_one ha (by rw [← Array.getElem?_toList]; exact h1), h2⟩
theorem g_fld {s : TypeId} {fs : Array Field} {f : Nat} {g : Field} {sh : Option Nat} (hu : P.underlying s = some (.struct fs)) (hf : fs[f]? = some g) (hsh : tshape P g.type = some sh) {vs : List AV} {v : AV} {a : Value} (hv : VRs β vs [a])
    (hs : rFld g.offset sh h vs = some v) : ∃ v', (Instr.field s a f).run P w = .ok v' w ∧ VR β v v' := by
  obtain ⟨p, rfl, hp⟩ := vrs1 hv
  cases p <;> simp only [rFld] at hs <;> first | (cases hs; done) | skip
  cases hp with
  | agg hl =>
    obtain ⟨v', h1, h2⟩ := part_run (P := P) (w := w) hsh hl hs
    exact ⟨v', by simp only [Instr.field, Sem.run_bind, run_underlying hu, Result.andThen_ok, hf, asAgg, Sem.run_pure, h1], h2⟩
theorem g_iad {t e : TypeId} {size : Nat} (ht : P.underlying t = some (.slice e)) (hz : tsize P e = some size) {vs : List AV} {v : AV} {a b : Value} (hv : VRs β vs [a, b]) (hs : rIad size h vs = some v) :
    ∃ v', (Instr.indexAt t a b).run P w = .ok v' w ∧ VR β v v' := by
  obtain ⟨p, q, rfl, hp, hq⟩ := vrs2 hv
  unfold rIad at hs
  split at hs
  · rename_i n o len c ex kd k he
    cases he
    rw [blt_nat] at hs
    by_cases hk : k < len
    · simp only [hk, decide_true, cond_true, Option.some.injEq] at hs
      subst hs
      cases hq
      cases hp with
      | sl hb hl hc he hzz ha =>
        rename_i b1 o1 z1 c1 ad
        have hoff : ad = ⟨b1, o1 + o, none⟩ := by
          rcases ha with h | h
          · omega
          · exact h
        subst hoff
        refine ⟨.pointer (some ⟨b1, o1 + (o + k * size), none⟩), ?_, .p hb⟩
        have h1 : (0 : Int) ≤ Int.ofNat k ∧ Int.ofNat k < (len : Int) := by constructor <;> simp [hk]
        simp only [Instr.indexAt, asIntOf, Sem.run_bind, Sem.run_pure, Result.andThen_ok, run_underlying ht, if_pos h1, sizeOf_run hz, add_at]
        simp [Nat.add_assoc]
    · simp only [hk, decide_false, cond_false] at hs; cases hs
  · cases hs
theorem g_iadA {t e : TypeId} {n size : Nat} (ht : P.underlying t = some (.array n e)) (hz : tsize P e = some size) {vs : List AV} {v : AV} {a b : Value} (hv : VRs β vs [a, b]) (hs : rIadA n size h vs = some v) :
    ∃ v', (Instr.indexAt t a b).run P w = .ok v' w ∧ VR β v v' := by
  obtain ⟨p, q, rfl, hp, hq⟩ := vrs2 hv
  unfold rIadA at hs
  split at hs
  · rename_i m o kd k he
    cases he
    rw [blt_nat] at hs
    by_cases hk : k < n
    · simp only [hk, decide_true, cond_true, Option.some.injEq] at hs
      subst hs
      cases hq
      cases hp with
      | p hb =>
        rename_i b1 o1 z1
        refine ⟨.pointer (some ⟨b1, o1 + (o + k * size), none⟩), ?_, .p hb⟩
        have h1 : (0 : Int) ≤ Int.ofNat k ∧ Int.ofNat k < (n : Int) := by constructor <;> simp [hk]
        simp only [Instr.indexAt, asIntOf, Sem.run_bind, Sem.run_pure, Result.andThen_ok, run_underlying ht, Instr.sureAddr, if_pos h1, sizeOf_run hz, add_at]
        simp [Nat.add_assoc]
    · simp only [hk, decide_false, cond_false] at hs; cases hs
  · cases hs
theorem g_ixA {t e : TypeId} {n size : Nat} {sh : Option Nat} (ht : P.underlying t = some (.array n e)) (hsh : tshape P e = some sh) (hz : tsize P e = some size) {vs : List AV} {v : AV} {a b : Value} (hv : VRs β vs [a, b])
    (hs : rIxA n size sh.isSome h vs = some v) : ∃ v', (Instr.index t a b).run P w = .ok v' w ∧ VR β v v' := by
  obtain ⟨p, q, rfl, hp, hq⟩ := vrs2 hv
  unfold rIxA at hs
  split at hs
  · rename_i l kd k he
    cases he
    rw [blt_nat] at hs
    by_cases hk : k < n
    · simp only [hk, decide_true, cond_true] at hs
      have hs2 : look l (k * size) sh = some v := by
        obtain ⟨n', hn', ⟨_, rfl⟩ | ⟨_, rfl⟩⟩ := shape_run hsh
        · rw [hz] at hn'; cases hn'; simpa using hs
        · simpa using hs
      cases hq
      cases hp with
      | agg hl =>
        obtain ⟨v', h1, h2⟩ := part_run (P := P) (w := w) hsh hl hs2
        refine ⟨v', ?_, h2⟩
        have h3 : (0 : Int) ≤ Int.ofNat k ∧ Int.ofNat k < (n : Int) := by constructor <;> simp [hk]
        simp only [Instr.index, asIntOf, Sem.run_bind, Sem.run_pure, Result.andThen_ok, run_underlying ht, if_pos h3, sizeOf_run hz]
        simpa using h1
    · simp only [hk, decide_false, cond_false] at hs; cases hs
  · cases hs
theorem g_ixS {t : TypeId} (ht : P.underlying t = some .string) {vs : List AV} {v : AV} {a b : Value} (hv : VRs β vs [a, b]) (hs : rIxS h vs = some v) : ∃ v', (Instr.index t a b).run P w = .ok v' w ∧ VR β v v' := by
  obtain ⟨p, q, rfl, hp, hq⟩ := vrs2 hv
  unfold rIxS at hs
  split at hs
  · rename_i l kd k he
    cases he
    cases hc : l[k]? with
    | none => rw [hc] at hs; cases hs
    | some c =>
      rw [hc] at hs
      cases hs
      cases hq
      cases hp
      refine ⟨.int .u8 (c.toNat : Int), ?_, .i _ _⟩
      have hk : k < l.length := (List.getElem?_eq_some_iff.1 hc).1
      have hg : (ByteArray.mk l.toArray)[k]? = some c := by
        have hk2 : k < (ByteArray.mk l.toArray).size := by rw [size_mk]; exact hk
        rw [getElem?_pos (ByteArray.mk l.toArray) k hk2]
        have h9 := (List.getElem?_eq_some_iff.1 hc).2
        show some (l.toArray[k]'(by simpa using hk)) = some c
        rw [← h9]
        simp
      have h0 : (0 : Int) ≤ Int.ofNat k := by simp
      simp only [Instr.index, asIntOf, Sem.run_bind, Sem.run_pure, Result.andThen_ok, run_underlying ht, if_pos h0]
      simp [hg]
  · cases hs
theorem g_ext {vs : List AV} {v : AV} {a : Value} {k : Nat} (hv : VRs β vs [a]) (hs : rExt k h vs = some v) : ∃ v', (Instr.extract a k).run P w = .ok v' w ∧ VR β v v' := by
  obtain ⟨p, rfl, hp⟩ := vrs1 hv
  cases p <;> simp only [rExt] at hs <;> first | (cases hs; done) | skip
  cases hp with
  | tup hl =>
    obtain ⟨v', h1, h2⟩ := hl.get hs
    rw [Array.getElem?_toList] at h1
    exact ⟨v', by simp [Instr.extract, h1], h2⟩
theorem g_lenSl {t e ty : TypeId} (ht : P.underlying t = some (.slice e)) {vs : List AV} {v : AV} {a : Value} (hv : VRs β vs [a]) (hs : rLenSl h vs = some v) : ∃ v', (Builtin.len_ #[t] ty #[a]).run P w = .ok v' w ∧ VR β v v' := by
  obtain ⟨p, rfl, hp⟩ := vrs1 hv
  cases p <;> simp only [rLenSl] at hs <;> first | (cases hs; done) | skip
  cases hs
  cases hp with
  | sln => exact ⟨_, by simp [Builtin.len_, run_underlying ht, goInt], .i _ _⟩
  | sl => exact ⟨_, by simp [Builtin.len_, run_underlying ht, goInt], .i _ _⟩
theorem g_capSl {t e ty : TypeId} (ht : P.underlying t = some (.slice e)) {vs : List AV} {v : AV} {a : Value} (hv : VRs β vs [a]) (hs : rCapSl h vs = some v) : ∃ v', (Builtin.cap_ #[t] ty #[a]).run P w = .ok v' w ∧ VR β v v' := by
  obtain ⟨p, rfl, hp⟩ := vrs1 hv
  unfold rCapSl at hs
  split at hs
  · rename_i he
    cases he
    cases hs
    cases hp with
    | sln => exact ⟨_, by simp [Builtin.cap_, run_underlying ht, goInt], .i _ _⟩
    | sl hb hl hc he =>
      rw [he rfl]
      exact ⟨_, by simp [Builtin.cap_, run_underlying ht, goInt], .i _ _⟩
  · cases hs
theorem g_lenS {t ty : TypeId} (ht : P.underlying t = some .string) {vs : List AV} {v : AV} {a : Value} (hv : VRs β vs [a]) (hs : rLenS h vs = some v) : ∃ v', (Builtin.len_ #[t] ty #[a]).run P w = .ok v' w ∧ VR β v v' := by
  obtain ⟨p, rfl, hp⟩ := vrs1 hv
  cases p <;> simp only [rLenS] at hs <;> first | (cases hs; done) | skip
  cases hs
  cases hp
  exact ⟨_, by simp [Builtin.len_, run_underlying ht, goInt, size_mk], .i _ _⟩
theorem g_lenC {t e ty : TypeId} {n : Nat} (ht : P.underlying t = some (.array n e)) {vs : List AV} {v : AV} {a : Value} (hv : VRs β vs [a]) (hs : rLenC n h vs = some v) : ∃ v', (Builtin.len_ #[t] ty #[a]).run P w = .ok v' w ∧ VR β v v' := by
  obtain ⟨p, rfl, hp⟩ := vrs1 hv
  simp only [rLenC, Option.some.injEq] at hs
  subst hs
  exact ⟨_, by simp [Builtin.len_, run_underlying ht, goInt], .i _ _⟩
theorem minL_run (m2 : Value → Value → Sem Value) (lt : Int → Int → Bool) (hm : ∀ k j x y, m2 (.int k x) (.int j y) = pure (.int k (if lt y x = true then y else x))) : ∀ {vs : List AV} {vs' : List Value} {x : Int} {k : IntKind} {v : AV},
    VRs β vs vs' → minL lt x vs k = some v → ∃ v', (vs'.foldlM m2 (.int k x)).run P w = .ok v' w ∧ VR β v v'
  | [], _, x, k, v, hv, hs => by
    cases hv
    simp only [minL, Option.some.injEq] at hs
    subst hs
    exact ⟨_, by simp, .i _ _⟩
  | a :: vs, _, x, k, v, hv, hs => by
    cases hv with
    | cons ha ht =>
      cases a <;> simp only [minL] at hs <;> first | (cases hs; done) | skip
      rename_i j y
      cases hk : kEq j k with
      | false => rw [hk] at hs; cases hs
      | true =>
        rw [hk] at hs
        cases ha
        have hs' : minL lt (if lt y x = true then y else x) vs k = some v := by
          cases hl : lt y x <;> rw [hl] at hs <;> simpa using hs
        obtain ⟨v', h1, h2⟩ := minL_run m2 lt hm ht hs'
        exact ⟨v', by simp only [List.foldlM_cons, hm, Sem.run_bind, Sem.run_pure, Result.andThen_ok, h1], h2⟩
theorem g_min {ts : Array TypeId} {ty : TypeId} {vs : List AV} {v : AV} {as : Array Value} (hv : VRs β vs as.toList) (hs : rMin h vs = some v) : ∃ v', (Builtin.min_ ts ty as).run P w = .ok v' w ∧ VR β v v' := by
  unfold rMin at hs
  split at hs
  · generalize hl : as.toList = L at hv
    cases hv with
    | cons ha ht =>
      cases ha
      obtain ⟨v', h1, h2⟩ := minL_run (P := P) (w := w) Builtin.min2 (fun y x => iLt y x) (fun k j x y => by simp [Builtin.min2, iLt_eq]) ht hs
      exact ⟨v', by simp only [Builtin.min_, hl, h1], h2⟩
  · cases hs
theorem g_max {ts : Array TypeId} {ty : TypeId} {vs : List AV} {v : AV} {as : Array Value} (hv : VRs β vs as.toList) (hs : rMax h vs = some v) : ∃ v', (Builtin.max_ ts ty as).run P w = .ok v' w ∧ VR β v v' := by
  unfold rMax at hs
  split at hs
  · generalize hl : as.toList = L at hv
    cases hv with
    | cons ha ht =>
      cases ha
      obtain ⟨v', h1, h2⟩ := minL_run (P := P) (w := w) Builtin.max2 (fun y x => iLt x y) (fun k j x y => by simp [Builtin.max2, iLt_eq]) ht hs
      exact ⟨v', by simp only [Builtin.max_, hl, h1], h2⟩
  · cases hs
theorem u8s_ints {β : Bt} : ∀ {l : List AV} {bs : List UInt8} {l' : List Value}, u8s l = some bs → VRs β l l' → ∃ ns : List Int, l' = ns.map (Value.int .u8) ∧ bs = ns.map fun n => UInt8.ofNat n.toNat
  | [], _, _, h, .nil => by cases h; exact ⟨[], rfl, rfl⟩
  | _ :: r, _, _, h, .cons (v' := v') hv ht => by
    rename_i v _ _
    unfold u8s at h
    split at h
    · rename_i e; cases e
    · rename_i n r' e
      cases e
      split at h
      · rename_i bs' hb
        cases h
        cases hv
        obtain ⟨ns, rfl, rfl⟩ := u8s_ints hb ht
        exact ⟨(n : Int) :: ns, rfl, rfl⟩
      · cases h
    · cases h
theorem foldl_u8 : ∀ (ns : List Int) (s : ByteArray), ns.foldl (fun r n => r.push (UInt8.ofNat n.toNat)) s = ⟨s.data ++ (ns.map fun n => UInt8.ofNat n.toNat).toArray⟩
  | [], s => by simp
  | n :: r, s => by
    rw [List.foldl_cons, foldl_u8 r]
    simp [ByteArray.push]
theorem g_cvtB (hR : Rel β B0 h w) {s d e : TypeId} (hs' : P.underlying s = some (.slice e)) (he : P.underlying e = some (.int .u8)) (hd : P.underlying d = some .string) {vs : List AV} {v : AV} {a : Value} (hv : VRs β vs [a]) (hs : rCvtB h vs = some v) :
    ∃ v', (convert s d a).run P w = .ok v' w ∧ VR β v v' := by
  obtain ⟨p, rfl, hp⟩ := vrs1 hv
  cases p <;> simp only [rCvtB] at hs <;> first | (cases hs; done) | skip
  rename_i q len cap ex
  rw [beq_nat] at hs
  by_cases h00 : len = 0
  · subst h00
    simp only [decide_true, cond_true] at hs
    cases hs
    cases hp with
    | sln => exact ⟨.string .empty, by rw [run_convert_bytes_string w s d e _ _ _ hs' he hd]; simp [Conv.bytesToString], .s []⟩
    | sl hb' hll hc hee hz ha =>
      rename_i r k b o z c' ad
      refine ⟨.string ⟨#[]⟩, ?_, .s []⟩
      have hload : (loadCells ad 0).run P w = .ok (([] : List Int).map (Value.int .u8)).toArray w := by simp [loadCells, loadCellsFrom]
      rw [run_convert_bytes_string w s d e _ _ _ hs' he hd, run_bytesToString w _ 0 c' [] hload, foldl_u8]
      rfl
  simp only [h00, decide_false, cond_false] at hs
  cases hl : rdCells h q len with
  | none => rw [hl] at hs; cases hs
  | some l =>
    rw [hl] at hs
    simp only at hs
    cases hb : u8s l with
    | none => rw [hb] at hs; cases hs
    | some bs =>
      rw [hb] at hs
      cases hs
      cases hp with
      | sln =>
        simp [rdCells, beq_nat] at hl
        subst hl
        cases hb
        exact ⟨.string .empty, by rw [run_convert_bytes_string w s d e _ _ _ hs' he hd]; simp [Conv.bytesToString], .s []⟩
      | sl hb' hll hc hee hz ha =>
        rename_i r k b o z c' ad
        obtain ⟨h1, l', h2, h3⟩ := rd_cells hR hl hb'
        obtain ⟨ns, rfl, rfl⟩ := u8s_ints hb h2
        have hlen : (ns.map (Value.int .u8)).length = len := by rw [← h2.length, h1]
        refine ⟨.string ⟨(ns.map fun n => UInt8.ofNat n.toNat).toArray⟩, ?_, .s _⟩
        have hload : (loadCells ad len).run P w = .ok (ns.map (Value.int .u8)).toArray w := by
          rcases Nat.eq_zero_or_pos len with h0 | h0
          · subst h0
            have : ns = [] := by cases ns with | nil => rfl | cons _ _ => simp at hlen
            subst this
            simp [loadCells, loadCellsFrom]
          · have hoff : ad = ⟨b, o + k, none⟩ := by
              rcases ha with h | h
              · omega
              · exact h
            subst hoff
            rw [← hlen]
            exact run_loadCells_list (P := P) w ⟨b, o + k, none⟩ (ns.map (Value.int .u8)) (fun j v' hj => by rw [add_at]; exact h3 j v' hj)
        rw [run_convert_bytes_string w s d e _ _ _ hs' he hd, run_bytesToString w _ len c' ns hload, foldl_u8]
        simp
theorem g_ld (hR : Rel β B0 h w) {t : TypeId} {sh : Option Nat} (hsh : tshape P t = some sh) {vs : List AV} {v : AV} {a : Value} (hv : VRs β vs [a]) (hs : rLd sh h vs = some v) : ∃ v', (Instr.loadAt t a).run P w = .ok v' w ∧ VR β v v' := by
  obtain ⟨p, rfl, hp⟩ := vrs1 hv
  cases p <;> simp only [rLd] at hs <;> first | (cases hs; done) | skip
  rename_i q
  cases q with
  | none => cases hs
  | some q =>
    obtain ⟨n, k⟩ := q
    cases hp with
    | p hb =>
      rename_i b o z
      obtain ⟨m, hm, ⟨ha, rfl⟩ | ⟨ha, rfl⟩⟩ := shape_run hsh
      · obtain ⟨l, l', rfl, hlen, h1, h2⟩ := rd_agg hR hs hb
        refine ⟨.agg l'.toArray, ?_, .agg (by simpa using h1)⟩
        have hl' : l'.length = m := by rw [← h1.length, hlen]
        have := run_loadCells_list (P := P) w ⟨b, o + k, none⟩ l' (fun j v' hj => by rw [add_at]; exact h2 j v' hj)
        simp only [Instr.loadAt, Instr.sureAddr, Sem.run_bind, Sem.run_pure, Result.andThen_ok, loadVar, isAgg_run ha, if_true, sizeOf_run hm, ← hl', this]
      · obtain ⟨v', h1, h2⟩ := rd_at hR hs hb
        refine ⟨v', ?_, h1⟩
        simp only [Instr.loadAt, Instr.sureAddr, Sem.run_bind, Sem.run_pure, Result.andThen_ok, loadVar, isAgg_run ha, Bool.false_eq_true, if_false, run_load, h2]
end
end Go.AM

/- Maps whose keys are whole numbers; building; and all operations that leave memory as it is. -/
set_option linter.unusedVariables false
set_option linter.unusedSimpArgs false
namespace Go.AM

theorem findNow_find {β : Bt} {k : IntKind} {n : Int} (kk : IntKind) : ∀ {es : List (AV × AV)} {ES : List MapEntry} {r : Option AV} (s : Nat), MapR β es ES → mfind k n es = some r →
    (r = none ∧ Instr.findNow (.int kk) (.int k n) ES s = some none) ∨ (∃ v i v', r = some v ∧ Instr.findNow (.int kk) (.int k n) ES s = some (some (i, v')) ∧ VR β v v')
  | _, _, r, s, .nil, h => by
    simp only [mfind, Option.some.injEq] at h
    exact .inl ⟨h.symm, rfl⟩
  | _, _, r, s, .cons (k := j) (n := a) (v := v) (v' := v') hv ht, h => by
    simp only [mfind] at h
    cases hk : kEq k j with
    | false => rw [hk] at h; cases h
    | true =>
      have := kEq_iff.1 hk
      subst this
      simp only [hk, cond_true, iEq_eq] at h
      simp only [Instr.findNow, Instr.sameNow, if_true]
      by_cases hna : n = a
      · subst hna
        simp at h
        subst h
        exact .inr ⟨v, s, v', rfl, by simp, hv⟩
      · have hb : (n == a) = false := by simpa using hna
        rw [hb] at h ⊢
        exact findNow_find kk (s + 1) ht h
theorem findNow_set {β : Bt} {k : IntKind} {n : Int} {v : AV} {v' : Value} (kk : IntKind) (bn : Nat) (hv : VR β v v') : ∀ {es es' : List (AV × AV)} {ES : List MapEntry} (s : Nat), MapR β es ES → msetL k n v es = some es' →
    (Instr.findNow (.int kk) (.int k n) ES s = some none ∧ MapR β es' (ES ++ [⟨.int k n, v', bn⟩])) ∨
    (∃ i e, Instr.findNow (.int kk) (.int k n) ES s = some (some (s + i, e.val)) ∧ ES[i]? = some e ∧ e.key = .int k n ∧ MapR β es' (ES.set i { e with key := .int k n, val := v' }))
  | _, es', _, s, .nil, h => by
    simp only [msetL, Option.some.injEq] at h
    subst h
    exact .inl ⟨rfl, .cons hv .nil⟩
  | _, es', _, s, .cons (k := j) (n := a) (v := u) (v' := u') (bn := b) (es := es) (es' := ES) hu ht, h => by
    simp only [msetL] at h
    cases hk : kEq k j with
    | false => rw [hk] at h; cases h
    | true =>
      have := kEq_iff.1 hk
      subst this
      simp only [hk, cond_true, iEq_eq] at h
      simp only [Instr.findNow, Instr.sameNow, if_true]
      by_cases hna : n = a
      · subst hna
        simp at h
        subst h
        exact .inr ⟨0, ⟨.int k n, u', b⟩, by simp, rfl, rfl, .cons hv ht⟩
      · have hb : (n == a) = false := by simpa using hna
        rw [hb] at h ⊢
        simp only [cond_false] at h
        cases hr : msetL k n v es with
        | none => rw [hr] at h; cases h
        | some r =>
          rw [hr] at h
          cases h
          rcases findNow_set kk bn hv (s + 1) ht hr with ⟨h1, h2⟩ | ⟨i, e, h1, h2, h3, h4⟩
          · exact .inl ⟨h1, .cons hu h2⟩
          · exact .inr ⟨i + 1, e, by rw [h1, show s + 1 + i = s + (i + 1) by omega], by simpa using h2, h3, .cons hu h4⟩
theorem findNow_del {β : Bt} {k : IntKind} {n : Int} (kk : IntKind) : ∀ {es es' : List (AV × AV)} {ES : List MapEntry} (s : Nat), MapR β es ES → mdelL k n es = some es' →
    (Instr.findNow (.int kk) (.int k n) ES s = some none ∧ MapR β es' ES) ∨
    (∃ i u, Instr.findNow (.int kk) (.int k n) ES s = some (some (s + i, u)) ∧ i < ES.length ∧ MapR β es' (ES.eraseIdx i))
  | _, es', _, s, .nil, h => by
    simp only [mdelL, Option.some.injEq] at h
    subst h
    exact .inl ⟨rfl, .nil⟩
  | _, es', _, s, .cons (k := j) (n := a) (v := u) (v' := u') (bn := b) (es := es) (es' := ES) hu ht, h => by
    simp only [mdelL] at h
    cases hk : kEq k j with
    | false => rw [hk] at h; cases h
    | true =>
      have := kEq_iff.1 hk
      subst this
      simp only [hk, cond_true, iEq_eq] at h
      simp only [Instr.findNow, Instr.sameNow, if_true]
      by_cases hna : n = a
      · subst hna
        simp at h
        subst h
        exact .inr ⟨0, u', by simp, by simp, by simpa using ht⟩
      · have hb : (n == a) = false := by simpa using hna
        rw [hb] at h ⊢
        simp only [cond_false] at h
        cases hr : mdelL k n es with
        | none => rw [hr] at h; cases h
        | some r =>
          rw [hr] at h
          cases h
          rcases findNow_del kk (s + 1) ht hr with ⟨h1, h2⟩ | ⟨i, e, h1, h2, h4⟩
          · exact .inl ⟨h1, .cons hu h2⟩
          · exact .inr ⟨i + 1, e, by rw [h1, show s + 1 + i = s + (i + 1) by omega], by simp; omega, .cons hu h4⟩

theorem isIntT_spec {P : Program} {t : TypeId} (h : isIntT P t = true) : ∃ k, P.underlying t = some (.int k) := by
  unfold isIntT at h
  split at h
  · exact ⟨_, by assumption⟩
  · cases h
section
variable {P : Program} {β : Bt} {B0 : Nat} {h : PM AB} {w : World} (ρ : Operand → Value)
theorem checkKey_int {t : TypeId} {kk : IntKind} (hu : P.underlying t = some (.int kk)) (b : Bool) (v : Value) : (Instr.checkKey b 10000 t v).run P w = .ok () w := by
  show (Instr.checkKey b (9999 + 1) t v).run P w = _
  rw [Instr.checkKey]
  simp only [Sem.run_bind, run_underlying hu, Result.andThen_ok]
  rfl
theorem findKey_int {t : TypeId} {kk : IntKind} (hu : P.underlying t = some (.int kk)) {k : Value} {ES : List MapEntry} {r : Option (Nat × Value)} (hf : Instr.findNow (.int kk) k ES 0 = some r) : (Instr.findKey t k ES).run P w = .ok r w := by
  simp only [Instr.findKey, Sem.run_bind, run_underlying hu, Result.andThen_ok, hf]
  rfl
theorem zval_spec {t : TypeId} {z : AV} (hz : zval P t = some z) : ∃ z', (zeroValue t).run P w = .ok z' w ∧ ∀ β, VR β z z' := by
  unfold zval at hz
  split at hz
  · rename_i i hi
    split at hz
    · rename_i zz hzz
      exact ⟨zz, zero_run hi hzz, fun β => toAV_VR hz⟩
    · cases hz
  · cases hz
theorem getObj_map {r : Nat} {ES : Array MapEntry} {clk : Nat} (hh : w.heap[r]? = some (.map ES clk)) : (getObj r).run P w = .ok (.map ES clk) w := by simp [getObj, Sem.run, hh]
theorem map_at (hR : Rel β B0 h w) {r : Nat} {es : List (AV × AV)} (hg : h.get r = some (.map es)) {b z : Nat} {o : Nat} (hb : β r = some (b, o, z)) :
    ∃ ES clk, o = 0 ∧ w.heap[b]? = some (.map ES clk) ∧ MapR β es ES.toList := by
  obtain ⟨_, h0, ES, clk, h1, h2⟩ := hR.blk r _ b o z hg hb
  exact ⟨ES, clk, h0, h1, h2⟩
theorem g_lkup (hR : Rel β B0 h w) {t k e : TypeId} {z : AV} {ok : Bool} (ht : P.underlying t = some (.map k e)) (hk : isIntT P k = true) (hz : zval P e = some z) {vs : List AV} {v : AV} {a b : Value} (hv : VRs β vs [a, b])
    (hs : rLkup z ok h vs = some v) : ∃ v', (Instr.lookup t a b ok).run P w = .ok v' w ∧ VR β v v' := by
  obtain ⟨p, q, rfl, hp, hq⟩ := vrs2 hv
  obtain ⟨kk, hkk⟩ := isIntT_spec hk
  obtain ⟨z', hz1, hz2⟩ := zval_spec (P := P) (w := w) hz
  have zero_case : ∀ {es : Array MapEntry} {b : Value}, (Instr.findKey k b es.toList).run P w = .ok none w → VR β (bif ok then .tup [z, .b false] else z) (if ok = true then Value.tuple #[z', .bool false] else z') := by
    intro es b _
    cases ok
    · simpa using hz2 β
    · simpa using VR.tup (.cons (hz2 β) (.cons (.b _) .nil))
  unfold rLkup at hs
  split at hs
  · rename_i kd n he
    cases he
    cases hs
    cases hp
    cases hq
    have hf := findKey_int (P := P) (w := w) hkk (k := .int kd n) (ES := []) (r := none) rfl
    refine ⟨if ok = true then .tuple #[z', .bool false] else z', ?_, zero_case (es := #[]) (b := .int kd n) (by simpa using hf)⟩
    simp only [Instr.lookup, Sem.run_bind, run_underlying ht, Result.andThen_ok, Sem.run_pure, checkKey_int hkk, hf, hz1, Array.toList_empty]
  · rename_i r kd n he
    cases he
    cases hq
    split at hs
    · rename_i es hg
      cases hp with
      | m hb =>
        obtain ⟨ES, clk, _, hh, hm⟩ := map_at hR hg hb
        have hgo : (getObj _).run P w = .ok (.map ES clk) w := getObj_map hh
        split at hs
        · rename_i u hu
          rcases findNow_find kk 0 hm hu with ⟨h1, _⟩ | ⟨v1, i, v', h1, h2, h3⟩
          · cases h1
          · cases h1
            cases hs
            have hf := findKey_int (P := P) (w := w) hkk h2
            refine ⟨if ok = true then .tuple #[v', .bool true] else v', ?_, ?_⟩
            · simp only [Instr.lookup, Sem.run_bind, run_underlying ht, Result.andThen_ok, hgo, Sem.run_pure, checkKey_int hkk, hf]
            · cases ok
              · simpa using h3
              · simpa using VR.tup (.cons h3 (.cons (.b _) .nil))
        · rename_i hu
          rcases findNow_find kk 0 hm hu with ⟨_, h2⟩ | ⟨v1, i, v', h1, h2, h3⟩
          · cases hs
            have hf := findKey_int (P := P) (w := w) hkk h2
            refine ⟨if ok = true then .tuple #[z', .bool false] else z', ?_, zero_case hf⟩
            simp only [Instr.lookup, Sem.run_bind, run_underlying ht, Result.andThen_ok, hgo, Sem.run_pure, checkKey_int hkk, hf, hz1]
          · cases h1
        · cases hs
    · cases hs
  · cases hs
theorem MapR.length {β : Bt} : ∀ {es : List (AV × AV)} {ES : List MapEntry}, MapR β es ES → es.length = ES.length
  | _, _, .nil => rfl
  | _, _, .cons _ t => by simp [MapR.length t]
theorem g_mlen (hR : Rel β B0 h w) {t k e ty : TypeId} (ht : P.underlying t = some (.map k e)) {vs : List AV} {v : AV} {a : Value} (hv : VRs β vs [a]) (hs : rMlen h vs = some v) : ∃ v', (Builtin.len_ #[t] ty #[a]).run P w = .ok v' w ∧ VR β v v' := by
  obtain ⟨p, rfl, hp⟩ := vrs1 hv
  unfold rMlen at hs
  split at hs
  · rename_i he
    cases he
    cases hs
    cases hp
    exact ⟨_, by simp [Builtin.len_, run_underlying ht, goInt], .i _ _⟩
  · rename_i r he
    cases he
    split at hs
    · rename_i es hg
      cases hs
      cases hp with
      | m hb =>
        obtain ⟨ES, clk, _, hh, hm⟩ := map_at hR hg hb
        have hgo : (getObj _).run P w = .ok (.map ES clk) w := getObj_map hh
        refine ⟨.int .i64 (ES.size : Int), ?_, ?_⟩
        · simp [Builtin.len_, run_underlying ht, goInt, hgo]
        · rw [hm.length]
          have : Int.ofNat ES.toList.length = (ES.size : Int) := by simp
          rw [this]
          exact .i _ _
    · cases hs
  · cases hs

/-! ### building -/
theorem places_run : ∀ {fs : List Field} {pl : List (Nat × Nat)}, fieldPlaces P fs = some pl → (fs.mapM fun f => (do pure (f.offset, ← sizeOf f.type) : Sem (Nat × Nat))).run P w = .ok pl w
  | [], pl, hp => by simp [fieldPlaces, mapO] at hp; subst hp; simp
  | f :: fs, pl, hp => by
    unfold fieldPlaces mapO at hp
    split at hp
    · rename_i y hy
      cases hr : mapO (fun f => (tsize P f.type).map fun s => (f.offset, s)) fs with
      | none => rw [hr] at hp; cases hp
      | some r =>
        rw [hr] at hp
        cases hp
        cases hz : tsize P f.type with
        | none => rw [hz] at hy; cases hy
        | some s =>
          rw [hz] at hy
          cases hy
          have ih := places_run (fs := fs) (pl := r) hr
          simp only [List.mapM_cons, Sem.run_bind, sizeOf_run hz, Result.andThen_ok, Sem.run_pure, ih]
    · cases hp
theorem g_build {t : TypeId} {z : List AV} {ps : List (Nat × Nat)} {parts : Array (Nat × Operand)} (hz : zcells P t = some z) (hp : placesOf P t parts.toList = some ps) {vs : List AV} {v : AV}
    (hv : VRs β vs (parts.toList.map fun p => ρ p.2)) (hs : rBuild z ps h vs = some v) : ∃ v', (Instr.build t (parts.map fun (i, x) => (i, ρ x))).run P w = .ok v' w ∧ VR β v v' := by
  obtain ⟨ti, zv, hi, hzv, hzr, hlen, h1⟩ := zcells_spec hz
  have hz0 := zero_run (P := P) (w := w) hi hzv
  simp only [rBuild] at hs
  cases hf : fillP z ps vs with
  | none => rw [hf] at hs; cases hs
  | some c =>
    rw [hf] at hs
    cases hs
    have hpl : (parts.map fun (i, x) => (i, ρ x)).toList = parts.toList.map fun p => (p.1, ρ p.2) := by simp
    have hv' : VRs β vs ((parts.toList.map fun p => (p.1, ρ p.2)).map (·.2)) := by rw [List.map_map]; exact hv
    unfold placesOf at hp
    split at hp
    · rename_i fs hu
      split at hp
      · rename_i pl hfp
        obtain ⟨r', hr1, hr2⟩ := fill_run (fun i : Nat => pl[i]?) (hzr β) hv' (fun i p hip => by
          rw [List.getElem?_map] at hip
          cases hq : parts.toList[i]? with
          | none => rw [hq] at hip; cases hip
          | some q =>
            rw [hq] at hip
            cases hip
            obtain ⟨y, hy1, hy2⟩ := mapO_get hp i q hq
            rw [hy2]
            exact hy1) hf
        refine ⟨.agg r', ?_, .agg hr2⟩
        have hpr := places_run (P := P) (w := w) (fs := fs.toList) hfp
        simp only [Instr.build, Sem.run_bind, hz0, Result.andThen_ok, run_underlying hu, Array.mapM_eq_mapM_toList, Sem.run_map, hpr, hpl]
        have : (fun i : Nat => pl.toArray[i]?) = fun i : Nat => pl[i]? := by funext i; simp
        simp only [this, hr1]
        rfl
      · cases hp
    · rename_i n e hu
      split at hp
      · rename_i s hsz
        cases hp
        obtain ⟨r', hr1, hr2⟩ := fill_run (fun i => some (i * s, s)) (hzr β) hv' (fun i p hip => by
          rw [List.getElem?_map] at hip ⊢
          cases hq : parts.toList[i]? with
          | none => rw [hq] at hip; cases hip
          | some q => rw [hq] at hip; cases hip; rfl) hf
        refine ⟨.agg r', ?_, .agg hr2⟩
        simp only [Instr.build, Sem.run_bind, hz0, Result.andThen_ok, run_underlying hu, sizeOf_run hsz, hpl, hr1]
        rfl
      · cases hp
    · cases hp

theorem g_mkif {t : TypeId} {d : TypeDesc} (hu : P.underlying t = some d) (hn : ∀ ms, d ≠ .interface ms) {vs : List AV} {v : AV} {a : Value} (hv : VRs β vs [a]) (hs : rMkif t h vs = some v) :
    ∃ v', (Instr.makeInterface t a).run P w = .ok v' w ∧ VR β v v' := by
  obtain ⟨p, rfl, hp⟩ := vrs1 hv
  simp only [rMkif, Option.some.injEq] at hs
  subst hs
  refine ⟨.iface t a, ?_, .ifc t hp⟩
  simp only [Instr.makeInterface, Sem.run_bind, run_underlying hu, Result.andThen_ok]
  cases d <;> first | rfl | exact absurd rfl (hn _)
theorem g_mkfn {f : FuncId} {fst cap : Array Operand} {vs : List AV} {v : AV} (hv : VRs β vs ((fst.toList ++ cap.toList).map ρ)) (hs : rMkfn f fst.size h vs = some v) :
    ∃ v', (Instr.makeFunc (.func f) (fst.map ρ) (cap.map ρ)).run P w = .ok v' w ∧ VR β v v' := by
  simp only [rMkfn, Option.some.injEq] at hs
  subst hs
  refine ⟨_, rfl, .fn f ?_ ?_⟩
  · have := VRs.take fst.size hv
    simpa [List.map_append, List.take_append] using this
  · have := VRs.drop fst.size hv
    simpa [List.map_append, List.drop_append] using this
end
end Go.AM

/- All operations that leave memory as it is. -/
set_option linter.unusedVariables false
set_option linter.unusedSimpArgs false
namespace Go.AM

/-- The operation carried out gives v', and the world is as it was. -/
def RunsTo (P : Program) (ρ : Operand → Value) (o : Oper) (w : World) (β : Bt) (v : AV) : Prop := ∃ v', (execOp ρ o).run P w = .ok (.value v') w ∧ VR β v v'

section
variable {P : Program} {β : Bt} {B0 : Nat} {h : PM AB} {w : World} (ρ : Operand → Value)
theorem runs_v {o : Oper} {s : Sem Value} {v : AV} (he : execOp ρ o = (do pure (.value (← s)))) (hs : ∃ v', s.run P w = .ok v' w ∧ VR β v v') : RunsTo P ρ o w β v := by
  obtain ⟨v', h1, h2⟩ := hs
  exact ⟨v', by rw [he]; simp [h1], h2⟩

theorem semR_none {op : AOp} {vs : List AV} {v : AV} (h0 : semR op = rNone) (hs : semR op h vs = some v) : False := by
  rw [h0] at hs
  simp [rNone] at hs

theorem builtin_sound (hR : Rel β B0 h w) {o : Oper} {c : Call} {b : Builtin} (ho : o.op = .call c) (hb : c.callee = .builtin b) {op : AOp} {xs : List Operand} (hc : compBuiltin P b c.argTypes c.args = some (op, xs))
    {vs : List AV} (hv : VRs β vs (xs.map ρ)) {v : AV} (hs : semR op h vs = some v) : RunsTo P ρ o w β v := by
  obtain ⟨callee, args, argTypes⟩ := c
  simp only at hb hc
  subst hb
  have hx : ∀ (s : Sem Value), (∀ consts, builtin b argTypes o.type consts (args.map ρ) = (do pure (.value (← s)))) → execOp ρ o = (do pure (.value (← s))) := by
    intro s h1
    simp only [execOp, ho, resolve, pure_bind, invoke]
    exact h1 _
  have hts : ∀ l, argTypes.toList = l → argTypes = l.toArray := fun l hl => by rw [← hl]
  have hargs : xs = args.toList → VRs β vs (args.map ρ).toList := fun e => by subst e; simpa using hv
  have hone : ∀ {a : AV}, xs = args.toList → vs = [a] → ∃ x, args.map ρ = #[x] ∧ VRs β vs [x] := by
    intro a e e2
    have h1 := hargs e
    have h2 := h1.length
    rw [e2] at h2
    obtain ⟨x, hx⟩ : ∃ x, (args.map ρ).toList = [x] := by
      cases hl : (args.map ρ).toList with
      | nil => rw [hl] at h2; simp at h2
      | cons x r => cases r with
        | nil => exact ⟨x, rfl⟩
        | cons y r => rw [hl] at h2; simp at h2
    refine ⟨x, ?_, by rw [← hx]; exact h1⟩
    apply Array.ext'
    exact hx
  have sing : ∀ (f : PM AB → List AV → Option AV), (∀ vs v, f h vs = some v → ∃ a, vs = [a]) → semR op = f → xs = args.toList → ∃ x, args.map ρ = #[x] ∧ VRs β vs [x] := by
    intro f hf he hxs
    rw [he] at hs
    obtain ⟨a, ha⟩ := hf _ _ hs
    exact hone hxs ha
  unfold compBuiltin at hc
  split at hc
  · -- len
    rename_i t htl
    have ht := hts _ htl
    subst ht
    split at hc
    · rename_i hu
      cases hc
      obtain ⟨x, h1, h2⟩ := sing rLenS (fun vs v h => by unfold rLenS at h; split at h <;> first | exact ⟨_, rfl⟩ | cases h) rfl rfl
      exact runs_v ρ (hx _ fun _ => by rw [h1]; rfl) (g_lenS (h := h) hu h2 hs)
    · rename_i e hu
      cases hc
      obtain ⟨x, h1, h2⟩ := sing rLenSl (fun vs v h => by unfold rLenSl at h; split at h <;> first | exact ⟨_, rfl⟩ | cases h) rfl rfl
      exact runs_v ρ (hx _ fun _ => by rw [h1]; rfl) (g_lenSl (h := h) hu h2 hs)
    · rename_i e f hu
      cases hc
      obtain ⟨x, h1, h2⟩ := sing rMlen (fun vs v h => by unfold rMlen at h; split at h <;> first | exact ⟨_, rfl⟩ | cases h) rfl rfl
      exact runs_v ρ (hx _ fun _ => by rw [h1]; rfl) (g_mlen hR hu h2 hs)
    · rename_i n e hu
      cases hc
      obtain ⟨x, h1, h2⟩ := sing (rLenC n) (fun vs v h => by unfold rLenC at h; split at h <;> first | exact ⟨_, rfl⟩ | cases h) rfl rfl
      exact runs_v ρ (hx _ fun _ => by rw [h1]; rfl) (g_lenC (h := h) hu h2 hs)
    · cases hc
  · rename_i t htl
    have ht := hts _ htl
    subst ht
    split at hc
    · rename_i e hu
      cases hc
      obtain ⟨x, h1, h2⟩ := sing rCapSl (fun vs v h => by unfold rCapSl at h; split at h <;> first | exact ⟨_, rfl⟩ | cases h) rfl rfl
      exact runs_v ρ (hx _ fun _ => by rw [h1]; rfl) (g_capSl (h := h) hu h2 hs)
    · cases hc
  · cases hc
    exact runs_v ρ (hx _ fun _ => rfl) (g_min (h := h) (hargs rfl) hs)
  · cases hc
    exact runs_v ρ (hx _ fun _ => rfl) (g_max (h := h) (hargs rfl) hs)
  · split at hc
    · split at hc
      · rename_i s by' _ _ _ _
        cases hq : (Nat.beq s 0 || Nat.beq by' 0) <;> rw [hq] at hc <;> cases hc
        exact (semR_none rfl hs).elim
      · cases hc
    · cases hc
  · split at hc
    · split at hc
      · cases hc; exact (semR_none rfl hs).elim
      · cases hc
    · cases hc
  · split at hc
    · split at hc
      · cases hc; exact (semR_none rfl hs).elim
      · cases hc
    · cases hc
  · split at hc
    · rename_i k e _
      cases hq : isIntT P k <;> rw [hq] at hc <;> cases hc
      exact (semR_none rfl hs).elim
    · cases hc
  · cases hc

theorem toList3 (x : Operand) (lo hi mx : Option Operand) : ([x] ++ lo.toList ++ hi.toList ++ mx.toList).map ρ = ρ x :: ((lo.toList.map ρ) ++ ((hi.toList.map ρ) ++ ((mx.toList.map ρ) ++ []))) := by
  simp
theorem toList2 (x : Operand) (lo hi : Option Operand) : ([x] ++ lo.toList ++ hi.toList).map ρ = ρ x :: ((lo.toList.map ρ) ++ ((hi.toList.map ρ) ++ [])) := by
  simp
theorem compEq_eq {lit ng : Bool} {t : TypeId} {op : AOp} (h : compEq P lit ng t = some op) : ∃ k, op = .eq ng k := by
  unfold compEq at h
  split at h <;> first | (cases h; exact ⟨_, rfl⟩) | (cases h; done) | skip
  · split at h
    · rename_i s _
      cases hq : Nat.beq s 0 <;> rw [hq] at h <;> cases h
      exact ⟨_, rfl⟩
    · cases h
  · rename_i fs _
    cases hq : P.stoodInHeld t <;> rw [hq] at h
    · cases hf : scalFields P fs.toList with
      | none => rw [hf] at h; cases h
      | some l => rw [hf] at h; cases h; exact ⟨_, rfl⟩
    · cases h

theorem R_sound (hR : Rel β B0 h w) {o : Oper} {op : AOp} {xs : List Operand} (hc : compOp P o = some (op, xs)) {vs : List AV} (hv : VRs β vs (xs.map ρ)) {v : AV} (hs : semR op h vs = some v) : RunsTo P ρ o w β v := by
  unfold compOp at hc
  split at hc
  · rename_i x ho
    cases hc
    obtain ⟨p, rfl, hp⟩ := vrs1 hv
    cases hs
    exact ⟨ρ x, by simp [execOp, ho], hp⟩
  · rename_i x ho
    cases hc
    obtain ⟨p, rfl, hp⟩ := vrs1 hv
    cases hs
    exact ⟨ρ x, by simp [execOp, ho], hp⟩
  · rename_i c a b ho
    cases hc
    obtain ⟨v', h1, h2⟩ := g_pick (P := P) (w := w) (h := h) hv hs
    exact ⟨v', by simp only [execOp, ho]; exact h1, h2⟩
  · rename_i e ho
    cases hz : zcells P e with
    | none => rw [hz] at hc; cases hc
    | some z => rw [hz] at hc; cases hc; exact (semR_none rfl hs).elim
  · cases hc; exact (semR_none rfl hs).elim
  · rename_i t parts ho
    split at hc
    · rename_i z ps hz hp
      cases hc
      exact runs_v ρ (by simp only [execOp, ho]) (g_build ρ (h := h) hz hp (by rw [List.map_map] at hv; exact hv) hs)
    · cases hc
  · rename_i t len parts ho
    split at hc
    · split at hc
      · rename_i s z _ _
        cases hq : Nat.ble (len * s) 16777216 <;> rw [hq] at hc <;> cases hc
        exact (semR_none rfl hs).elim
      · cases hc
    · cases hc
  · rename_i t a ho
    cases hsh : tshape P t with
    | none => rw [hsh] at hc; cases hc
    | some sh =>
      rw [hsh] at hc
      cases hc
      exact runs_v ρ (by simp only [execOp, ho]) (g_ld (h := h) hR hsh hv hs)
  · rename_i t a x ho
    cases hsz : tsize P t with
    | none => rw [hsz] at hc; cases hc
    | some sz => rw [hsz] at hc; cases hc; exact (semR_none rfl hs).elim
  · rename_i x ho
    cases hc
    exact g_nil ρ (h := h) o ho rfl hv hs
  · rename_i bo t x y yt ho
    split at hc
    · cases hc
      exact runs_v ρ (by simp only [execOp, ho]) (g_bin (h := h) t x y hv hs)
    · cases hc
      exact runs_v ρ (by simp only [execOp, ho]) (g_sbin (h := h) t x y hv hs)
    · cases hq : isEq bo <;> rw [hq] at hc
      · cases hc
      · cases hce : compEq P (isLit x || isLit y) (isNeq bo) t with
        | none => rw [hce] at hc; cases hc
        | some a =>
          rw [hce] at hc
          cases hc
          obtain ⟨k, rfl⟩ := compEq_eq hce
          exact runs_v ρ (by simp only [execOp, ho]) (g_eq (h := h) hR hq x y hce hv hs)
  · rename_i uo t x ho
    cases hc
    exact runs_v ρ (by simp only [execOp, ho]) (g_un (h := h) hv hs)
  · rename_i a b x ho
    split at hc
    · rename_i k1 k2 h1 h2
      cases hc
      exact runs_v ρ (by simp only [execOp, ho]) (g_cvtI (h := h) h1 h2 hv hs)
    · rename_i h1 h2
      cases hc
      exact runs_v ρ (by simp only [execOp, ho]) (g_cvtS (h := h) h1 h2 hv hs)
    · rename_i e h1 h2
      split at hc
      · rename_i he
        cases hc
        exact runs_v ρ (by simp only [execOp, ho]) (g_cvtB (h := h) hR h1 he h2 hv hs)
      · cases hc
    · cases hc
  · rename_i t x ho
    split at hc
    · cases hc
    · rename_i d hd hu
      cases hc
      exact runs_v ρ (by simp only [execOp, ho]) (g_mkif (h := h) hu (fun ms e => hd ms (by rw [e])) hv hs)
    · cases hc
  · rename_i f fst cap ho
    cases hc
    exact runs_v ρ (by simp only [execOp, ho]) (g_mkfn ρ (h := h) hv hs)
  · cases hc; exact (semR_none rfl hs).elim
  · split at hc
    · split at hc
      · rename_i n _ _
        cases hq : Nat.beq n 0 <;> rw [hq] at hc <;> cases hc
        exact (semR_none rfl hs).elim
      · cases hc
    · cases hc
  · rename_i t x lo hi mx ho
    split at hc
    · rename_i e hu
      cases hq : (mx.isSome && hi.isNone) <;> rw [hq] at hc
      · cases hsz : tsize P e with
        | none => rw [hsz] at hc; cases hc
        | some s =>
          rw [hsz] at hc
          cases hc
          refine runs_v ρ (by simp only [execOp, ho]) (g_slc ρ (h := h) (x := x) hu hsz (fun hm => ?_) (by rw [toList3] at hv; exact hv) hs)
          cases hi with
          | none => simp [hm] at hq
          | some y => rfl
      · cases hc
    · rename_i hu
      cases hq : mx.isNone <;> rw [hq] at hc
      · cases hc
      · cases hc
        have : mx = none := by cases mx <;> simp at hq ⊢
        subst this
        exact runs_v ρ (by simp only [execOp, ho]; rfl) (g_slcS ρ (h := h) hu (by rw [toList2] at hv; exact hv) hs)
    · cases hc
  · rename_i t x f ho
    split at hc
    · rename_i fs hu
      split at hc
      · rename_i g hf
        split at hc
        · rename_i s hsz
          rw [beq_nat] at hc
          by_cases h0 : s = 0
          · simp [h0] at hc
          · simp only [h0, decide_false, cond_false] at hc
            cases hc
            exact runs_v ρ (by simp only [execOp, ho]) (g_fad (h := h) hu hf hsz h0 hv hs)
        · cases hc
      · cases hc
    · cases hc
  · rename_i t x f ho
    split at hc
    · rename_i fs hu
      split at hc
      · rename_i g hf
        cases hsh : tshape P g.type with
        | none => rw [hsh] at hc; cases hc
        | some sh =>
          rw [hsh] at hc
          cases hc
          exact runs_v ρ (by simp only [execOp, ho]) (g_fld (h := h) hu hf hsh hv hs)
      · cases hc
    · cases hc
  · rename_i t x i ho
    split at hc
    · rename_i e hu
      cases hsz : tsize P e with
      | none => rw [hsz] at hc; cases hc
      | some s =>
        rw [hsz] at hc
        cases hc
        exact runs_v ρ (by simp only [execOp, ho]) (g_iad (h := h) hu hsz hv hs)
    · rename_i n e hu
      cases hsz : tsize P e with
      | none => rw [hsz] at hc; cases hc
      | some s =>
        rw [hsz] at hc
        cases hc
        exact runs_v ρ (by simp only [execOp, ho]) (g_iadA (h := h) hu hsz hv hs)
    · cases hc
  · rename_i t x i ho
    split at hc
    · rename_i n e hu
      split at hc
      · rename_i sh s hsh hsz
        cases hc
        exact runs_v ρ (by simp only [execOp, ho]) (g_ixA (h := h) hu hsh hsz hv hs)
      · cases hc
    · rename_i hu
      cases hc
      exact runs_v ρ (by simp only [execOp, ho]) (g_ixS (h := h) hu hv hs)
    · cases hc
  · rename_i t x i ok ho
    split at hc
    · rename_i k e hu
      cases hq : isIntT P k <;> rw [hq] at hc
      · cases hc
      · cases hz : zval P e with
        | none => rw [hz] at hc; cases hc
        | some z =>
          rw [hz] at hc
          cases hc
          exact runs_v ρ (by simp only [execOp, ho]) (g_lkup (h := h) hR hu hq hz hv hs)
    · cases hc
  · split at hc
    · rename_i kt e hu
      cases hq : isIntT P kt <;> rw [hq] at hc <;> cases hc
      exact (semR_none rfl hs).elim
    · cases hc
  · rename_i t k ho
    cases hc
    exact runs_v ρ (by simp only [execOp, ho]) (g_ext (h := h) hv hs)
  · rename_i c ho
    split at hc
    · rename_i b hb
      exact builtin_sound ρ hR ho hb hc hv hs
    · cases hc; exact (semR_none rfl hs).elim
    · rename_i x _ _
      cases hq : isTmp x <;> rw [hq] at hc <;> cases hc
      exact (semR_none rfl hs).elim
    · cases hc
  · cases hc
end
end Go.AM

/- Operations that make a block; operations that change memory. -/
set_option linter.unusedVariables false
set_option linter.unusedSimpArgs false
namespace Go.AM
open Go.RowKit (Below)

theorem CellsR.of_VRs {β : Bt} {c : List AV} {cs : Array Value} (h : VRs β c cs.toList) : CellsR β c 0 cs := fun i v hv => by
  obtain ⟨u, h1, h2⟩ := h.get hv
  exact ⟨u, by rw [Nat.zero_add, ← Array.getElem?_toList]; exact h1, h2⟩
theorem BR_new {β : Bt} {B0 : Nat} {w : World} {c : List AV} {cs : Array Value} {t : TypeId} {heap : Array Obj} (hb : B0 ≤ w.heap.size) (hh : heap[w.heap.size]? = some (.cells cs t (0, 0))) (h : VRs β c cs.toList) :
    BR β B0 heap w.heap.size 0 cs.size (.cells c) := ⟨hb, cs, t, hh, by omega, CellsR.of_VRs h⟩

section
variable {P : Program} {β : Bt} {B0 : Nat} {w : World} (ρ : Operand → Value)

theorem run_value {s : Sem Value} {v : Value} {w w' : World} (h : s.run P w = .ok v w') : ((do pure (.value (← s))) : Sem Next).run P w = .ok (.value v) w' := by
  simp only [Sem.run_bind, h, Result.andThen_ok, Sem.run_pure]
theorem run_unit {s : Sem Unit} {w w' : World} (h : s.run P w = .ok () w') : ((do s; pure .skip) : Sem Next).run P w = .ok .skip w' := by
  simp only [Sem.run_bind, h, Result.andThen_ok, Sem.run_pure]
/-- An operation that makes a block. -/
theorem A_sound {o : Oper} {op : AOp} {xs : List Operand} (hc : compOp P o = some (op, xs)) {vs : List AV} (hv : VRs β vs (xs.map ρ)) {nx : Nat} {blk : AB} {v : AV} (hs : semA op nx vs = some (blk, v)) (hB : B0 ≤ w.heap.size) :
    ∃ x v' z, (execOp ρ o).run P w = .ok (.value v') (w.alloc x) ∧ blk.own = true ∧
      ∀ γ, Ext β γ → γ nx = some (w.heap.size, 0, z) → VR γ v v' ∧ BR γ B0 (w.alloc x).heap w.heap.size 0 z blk := by
  have hnew : ∀ x : Obj, (w.alloc x).heap[w.heap.size]? = some x := fun x => heap_alloc_new w x
  have none_ : ∀ {p}, semA op = aNone → semA op nx vs = some p → False := fun h0 h1 => by rw [h0] at h1; cases h1
  unfold compOp at hc
  split at hc
  · cases hc; exact (none_ rfl hs).elim
  · cases hc; exact (none_ rfl hs).elim
  · cases hc; exact (none_ rfl hs).elim
  · -- alloc
    rename_i e ho
    cases hz : zcells P e with
    | none => rw [hz] at hc; cases hc
    | some z =>
      rw [hz] at hc; cases hc
      cases hv
      cases hs
      obtain ⟨ti, zv, hi, hzv, hzr, hlen, h1⟩ := zcells_spec hz
      refine ⟨.cells zv.cells e, .pointer (some ⟨w.heap.size, 0 + 0, none⟩), zv.cells.size, ?_, rfl, fun γ hx hn => ⟨VR.p hn, BR_new hB (hnew _) (hzr γ)⟩⟩
      simp [execOp, ho, Instr.alloc, zero_run hi hzv, newVar, newRow]
  · -- box
    rename_i e x ho
    cases hc
    obtain ⟨p, rfl, hp⟩ := vrs1 hv
    simp only [semA, aBox] at hs
    cases hl : p.cellsOf with
    | none => rw [hl] at hs; cases hs
    | some l =>
      rw [hl] at hs
      cases hs
      refine ⟨.cells (ρ x).cells e, .pointer (some ⟨w.heap.size, 0 + 0, none⟩), (ρ x).cells.size, ?_, rfl, fun γ hx hn => ⟨VR.p hn, BR_new hB (hnew _) ((hp.mono hx).cells hl).1⟩⟩
      simp [execOp, ho, Instr.box, newVar, newRow]
  · split at hc <;> cases hc; exact (none_ rfl hs).elim
  · -- buildSlice
    rename_i t len parts ho
    split at hc
    · rename_i e hu
      split at hc
      · rename_i s z hsz hz
        cases hq : Nat.ble (len * s) 16777216 <;> rw [hq] at hc <;> cases hc
        rw [ble_nat, decide_eq_true_eq] at hq
        obtain ⟨ti, zv, hi, hzv, hzr, hlen, h1⟩ := zcells_spec hz
        have hs' : s = ti.size := by simp [tsize, hi] at hsz; exact hsz.symm
        simp only [semA, aBslice] at hs
        cases hf : fillP (reps z len) ((parts.toList.map (·.1)).map fun i => (i * s, s)) vs with
        | none => rw [hf] at hs; cases hs
        | some c =>
          rw [hf] at hs
          simp only at hs
          cases h2 : c.all AV.one <;> rw [h2] at hs <;> cases hs
          have hpl : (parts.map fun (i, x) => (i, ρ x)).toList = parts.toList.map fun p => (p.1, ρ p.2) := by simp
          have hzs : zv.cells.size = s := by have := (hzr β).length; simp at this; omega
          -- the model's zeros
          have key : ∃ zc : Array Value, ((len * s = 0 ∧ zc = #[]) ∨ (len * s ≠ 0 ∧ zc = zv.cells)) ∧ ∀ γ, VRs γ (reps z len) ((Array.range (len * s)).map (zc[· % zc.size]!)).toList := by
            by_cases h0 : len * s = 0
            · refine ⟨#[], .inl ⟨h0, rfl⟩, fun γ => ?_⟩
              have hr0 : reps z len = [] := List.eq_nil_of_length_eq_zero (by rw [reps_length, hlen, ← hs', h0])
              rw [hr0, h0]
              simp
              exact .nil
            · exact ⟨zv.cells, .inr ⟨h0, rfl⟩, fun γ => zeros_VRs (hzr γ) len _ (by rw [hzs])⟩
          obtain ⟨zc, hzc1, hzc2⟩ := key
          have hv' : VRs β vs ((parts.toList.map fun p => (p.1, ρ p.2)).map (·.2)) := by rw [List.map_map] at hv ⊢; exact hv
          obtain ⟨r', hr1, hr2⟩ := fill_run (fun i => some (i * s, s)) (hzc2 β) hv' (fun i p hip => by
            simp only [List.getElem?_map] at hip ⊢
            cases hq : parts.toList[i]? with
            | none => rw [hq] at hip; cases hip
            | some q => rw [hq] at hip; cases hip; rfl) hf
          refine ⟨.cells r' e, .slice (some ⟨w.heap.size, 0, none⟩) len len, r'.size, ?_, rfl, fun γ hx hn => ⟨?_, BR_new hB (hnew _) (hr2.mono hx)⟩⟩
          · simp only [execOp, ho, Instr.buildSlice, Sem.run_bind, run_underlying hu, Result.andThen_ok, sizeOf_run hsz]
            rw [if_neg (by omega)]
            rcases hzc1 with ⟨h0, rfl⟩ | ⟨h0, rfl⟩
            · simp only [if_pos h0, pure_bind, hpl, hr1, newRow, Sem.run_bind, run_newObj, Result.andThen_ok, Sem.run_pure]
              rfl
            · simp only [if_neg h0, Sem.run_bind, zero_run hi hzv, Result.andThen_ok, pure_bind, hpl, hr1, newRow, run_newObj, Sem.run_pure]
              rfl
          · exact VR.sl hn (Nat.le_refl _) (Nat.le_refl _) (fun _ => rfl) (fun h => absurd rfl h) (.inr rfl)
      · cases hc
    · cases hc
  · rename_i t a ho
    cases hq : tshape P t <;> rw [hq] at hc <;> cases hc; exact (none_ rfl hs).elim
  · rename_i t a x ho
    cases hq : tsize P t <;> rw [hq] at hc <;> cases hc; exact (none_ rfl hs).elim
  · cases hc; exact (none_ rfl hs).elim
  · rename_i bo t x y yt ho
    split at hc
    · cases hc; exact (none_ rfl hs).elim
    · cases hc; exact (none_ rfl hs).elim
    · cases hq : isEq bo <;> rw [hq] at hc
      · cases hc
      · cases hce : compEq P (isLit x || isLit y) (isNeq bo) t with
        | none => rw [hce] at hc; cases hc
        | some a =>
          rw [hce] at hc
          cases hc
          obtain ⟨k, rfl⟩ := compEq_eq hce
          exact (none_ rfl hs).elim
  · cases hc; exact (none_ rfl hs).elim
  · split at hc
    · cases hc; exact (none_ rfl hs).elim
    · cases hc; exact (none_ rfl hs).elim
    · split at hc <;> cases hc <;> exact (none_ rfl hs).elim
    · cases hc
  · split at hc <;> cases hc <;> exact (none_ rfl hs).elim
  · cases hc; exact (none_ rfl hs).elim
  · -- makeMap
    rename_i t ho
    cases hc
    cases hv
    cases hs
    refine ⟨.map #[] 0, .map (some w.heap.size), 0, by simp [execOp, ho, Instr.makeMap], rfl, fun γ hx hn => ⟨.m hn, hB, rfl, #[], 0, hnew _, .nil⟩⟩
  · -- makeSlice
    rename_i t l c ho
    split at hc
    · rename_i e hu
      split at hc
      · rename_i z nb hz hnb
        cases hqn : Nat.beq nb 0 <;> rw [hqn] at hc <;> cases hc
        rw [beq_nat, decide_eq_false_iff_not] at hqn
        obtain ⟨ti, zv, hi, hzv, hzr, hlen, h1⟩ := zcells_spec hz
        obtain ⟨p, q, rfl, hp, hq⟩ := vrs2 hv
        simp only [semA] at hs
        unfold aMksl at hs
        split at hs
        · rename_i kl lN kc cN he
          cases he
          cases hb : (Nat.ble lN cN && Nat.ble (cN * nb) 70368744177664) <;> rw [hb] at hs <;> cases hs
          simp only [Bool.and_eq_true, ble_nat, decide_eq_true_eq] at hb
          obtain ⟨hb1, hb2⟩ := hb
          generalize hl : ρ l = L at hp
          generalize hcc : ρ c = C at hq
          cases hp
          cases hq
          have hnb' : nb = ti.bytes := by simp [tbytes, hi] at hnb; exact hnb.symm
          have hzs : zv.cells.size = ti.size := by have := (hzr β).length; simp at this; omega
          have h48 : (ti.bytes : Int) * (cN : Int) ≤ 70368744177664 := by
            have h9 : ((cN * nb : Nat) : Int) ≤ ((70368744177664 : Nat) : Int) := Int.ofNat_le.2 hb2
            rw [Int.natCast_mul] at h9
            rw [← hnb', Int.mul_comm]
            exact h9
          have hc1 : cN ≤ 70368744177664 := Nat.le_trans (Nat.le_mul_of_pos_right cN (by omega)) hb2
          have hrun := run_make (P := P) w t e ti zv hu hi hzv kl kc (lN : Int) (cN : Int) (by omega) (by omega) (by omega) (by omega)
          simp only [Int.toNat_natCast] at hrun
          refine ⟨.cells (madeCells zv.cells (cN * ti.size)) e, .slice (some ⟨w.heap.size, 0, none⟩) lN cN, _, ?_, rfl, fun γ hx hn => ⟨?_, BR_new hB (hnew _) (zeros_VRs (hzr γ) cN _ (by rw [hzs]))⟩⟩
          · have e1 : execOp ρ o = (do pure (.value (← Instr.makeSlice t (ρ l) (ρ c)))) := by simp only [execOp, ho]
            rw [e1, hl, hcc]
            exact run_value hrun
          · exact VR.sl hn hb1 (Nat.le_refl _) (fun _ => rfl) (fun h => absurd rfl h) (.inr rfl)
        · cases hs
      · cases hc
    · cases hc
  · rename_i t x lo hi mx ho
    split at hc
    · rename_i e hu
      cases hq : (mx.isSome && hi.isNone) <;> rw [hq] at hc
      · cases hsz : tsize P e <;> rw [hsz] at hc <;> cases hc; exact (none_ rfl hs).elim
      · cases hc
    · cases hq : mx.isNone <;> rw [hq] at hc <;> cases hc; exact (none_ rfl hs).elim
    · cases hc
  · split at hc
    · split at hc
      · split at hc
        · rename_i s _
          cases hq : Nat.beq s 0 <;> rw [hq] at hc <;> cases hc; exact (none_ rfl hs).elim
        · cases hc
      · cases hc
    · cases hc
  · split at hc
    · split at hc
      · rename_i g _
        cases hq : tshape P g.type <;> rw [hq] at hc <;> cases hc; exact (none_ rfl hs).elim
      · cases hc
    · cases hc
  · split at hc
    · rename_i e _
      cases hq : tsize P e <;> rw [hq] at hc <;> cases hc; exact (none_ rfl hs).elim
    · rename_i n e _
      cases hq : tsize P e <;> rw [hq] at hc <;> cases hc; exact (none_ rfl hs).elim
    · cases hc
  · split at hc
    · split at hc <;> cases hc; exact (none_ rfl hs).elim
    · cases hc; exact (none_ rfl hs).elim
    · cases hc
  · split at hc
    · rename_i k e _
      cases hq : isIntT P k <;> rw [hq] at hc
      · cases hc
      · cases hz : zval P e <;> rw [hz] at hc <;> cases hc; exact (none_ rfl hs).elim
    · cases hc
  · split at hc
    · rename_i kt e hu
      cases hq : isIntT P kt <;> rw [hq] at hc <;> cases hc; exact (none_ rfl hs).elim
    · cases hc
  · cases hc; exact (none_ rfl hs).elim
  · rename_i c ho
    split at hc
    · rename_i b hb
      unfold compBuiltin at hc
      split at hc
      · split at hc <;> cases hc <;> exact (none_ rfl hs).elim
      · split at hc <;> cases hc <;> exact (none_ rfl hs).elim
      · cases hc; exact (none_ rfl hs).elim
      · cases hc; exact (none_ rfl hs).elim
      · split at hc
        · split at hc
          · rename_i s by' _ _ _ _
            cases hq : (Nat.beq s 0 || Nat.beq by' 0) <;> rw [hq] at hc <;> cases hc
            exact (none_ rfl hs).elim
          · cases hc
        · cases hc
      · split at hc
        · split at hc <;> cases hc; exact (none_ rfl hs).elim
        · cases hc
      · split at hc
        · split at hc <;> cases hc; exact (none_ rfl hs).elim
        · cases hc
      · split at hc
        · rename_i k e _
          cases hq : isIntT P k <;> rw [hq] at hc <;> cases hc; exact (none_ rfl hs).elim
        · cases hc
      · cases hc
    · cases hc; exact (none_ rfl hs).elim
    · rename_i x _ _
      cases hq : isTmp x <;> rw [hq] at hc <;> cases hc; exact (none_ rfl hs).elim
    · cases hc
  · cases hc
end
end Go.AM

/- Operations that change memory. -/
set_option linter.unusedVariables false
set_option linter.unusedSimpArgs false
namespace Go.AM
open Go.RowKit (Below)

section
variable {P : Program} {β : Bt} {B0 : Nat} {S : St} {w : World} (ρ : Operand → Value)

theorem St_eta (S : St) : ({ S with h := S.h } : St) = S := rfl

theorem e_st (hR : Rel β B0 S.h w) {t : TypeId} {sz : Nat} (hsz : tsize P t = some sz) {vs : List AV} {a x : Value} (hv : VRs β vs [a, x]) {call : Cll} {v : AV} {S' : St} (hs : eSt sz call S vs = some (v, S')) :
    v = .bad ∧ ∃ w', (Instr.storeAt t a x).run P w = .ok () w' ∧ Stp B0 β S w β S' w' := by
  obtain ⟨p, q, rfl, hp, hq⟩ := vrs2 hv
  unfold eSt at hs
  split at hs
  · rename_i ad y he
    cases he
    cases hl : q.cellsOf with
    | none => rw [hl] at hs; cases hs
    | some l =>
      rw [hl] at hs
      simp only [beq_nat] at hs
      by_cases hlen : l.length = sz
      · simp only [hlen, decide_true, cond_true] at hs
        cases hw : wrCells S.h ad l with
        | none => rw [hw] at hs; cases hs
        | some h' =>
          rw [hw] at hs
          cases hs
          obtain ⟨r, k⟩ := ad
          cases hp with
          | p hb =>
            obtain ⟨hc1, hc2⟩ := hq.cells hl
            obtain ⟨w', h1, h2⟩ := wr_cells (P := P) hR hw hb hc1
            refine ⟨rfl, w', ?_, h2⟩
            have hsize : x.cells.size = sz := by have := hc1.length; simp at this; omega
            simp only [Instr.storeAt, Instr.sureAddr, Sem.run_bind, Sem.run_pure, Result.andThen_ok, storeVar, sizeOf_run hsz]
            rw [if_neg (by omega)]
            exact h1
      · simp only [hlen, decide_false, cond_false] at hs; cases hs
  · cases hs

theorem sameBits_int (k : IntKind) (n : Int) : Instr.sameBits 10000 (.int k n) (.int k n) = true := by simp [Instr.sameBits]
theorem putObj_facts {w : World} {b : Nat} {x y : Obj} (hh : w.heap[b]? = some x) : (({ w with heap := w.heap.setIfInBounds b y } : World).heap[b]? = some y) ∧ ∀ k, k ≠ b → ({ w with heap := w.heap.setIfInBounds b y } : World).heap[k]? = w.heap[k]? := by
  have hlt := (Array.getElem?_eq_some_iff.1 hh).1
  refine ⟨by simp [hlt], fun k hk => ?_⟩
  show (w.heap.setIfInBounds b y)[k]? = _
  rw [Array.getElem?_setIfInBounds_ne (by omega)]
theorem setObj_map {b : Nat} {ES : Array MapEntry} {clk : Nat} (y : Obj) (hh : w.heap[b]? = some (.map ES clk)) : (setObj b y).run P w = .ok () { w with heap := w.heap.setIfInBounds b y } := by simp [setObj, Sem.run, hh]
theorem stp_map (hR : Rel β B0 S.h w) {r b z : Nat} {es es' : List (AV × AV)} (hg : S.h.get r = some (.map es)) (hb : β r = some (b, 0, z)) {ES ES' : Array MapEntry} {clk clk' : Nat} (hh : w.heap[b]? = some (.map ES clk)) (hm : MapR β es' ES'.toList) :
    Stp B0 β S w β { S with h := S.h.set r (some (.map es')) } { w with heap := w.heap.setIfInBounds b (.map ES' clk') } := by
  obtain ⟨h1, h2⟩ := putObj_facts (y := .map ES' clk') hh
  have hle := (hR.blk r _ b 0 z hg hb).le rfl
  exact stp_set hR hg rfl rfl hb rfl rfl rfl (by simp) h2 ⟨hle, rfl, ES', clk', h1, hm⟩
theorem e_mset (hR : Rel β B0 S.h w) {t kt e : TypeId} (ht : P.underlying t = some (.map kt e)) (hk : isIntT P kt = true) {vs : List AV} {m k x : Value} (hv : VRs β vs [m, k, x]) {call : Cll} {v : AV} {S' : St} (hs : eMset call S vs = some (v, S')) :
    v = .bad ∧ ∃ w', (Instr.mapUpdate t m k x).run P w = .ok () w' ∧ Stp B0 β S w β S' w' := by
  obtain ⟨p, q, y, rfl, hp, hq, hy⟩ := vrs3 hv
  obtain ⟨kk, hkk⟩ := isIntT_spec hk
  unfold eMset at hs
  split at hs
  · rename_i r kd n u he
    cases he
    split at hs
    · rename_i es hg
      split at hs
      · rename_i es' he'
        cases hs
        cases hq
        cases hp with
        | m hb =>
          obtain ⟨ES, clk, _, hh, hm⟩ := map_at hR hg hb
          have hgo : (getObj _).run P w = .ok (.map ES clk) w := getObj_map hh
          refine ⟨rfl, ?_⟩
          rcases findNow_set kk clk hy 0 hm he' with ⟨h1, h2⟩ | ⟨i, ent, h1, h2, h3, h4⟩
          · have hf := findKey_int (P := P) (w := w) hkk h1
            refine ⟨_, ?_, stp_map (clk' := clk + 1) (ES' := ES.push ⟨.int kd n, x, clk⟩) hR hg hb hh (by simpa using h2)⟩
            simp only [Instr.mapUpdate, Sem.run_bind, run_underlying ht, Result.andThen_ok, hgo, checkKey_int hkk, hf]
            exact setObj_map _ hh
          · have hf := findKey_int (P := P) (w := w) hkk h1
            have h5 : ES[i]? = some ent := by rw [← Array.getElem?_toList]; exact h2
            refine ⟨_, ?_, stp_map (clk' := clk) (ES' := ES.modify i fun e => { e with key := .int kd n, val := x }) hR hg hb hh ?_⟩
            · simp only [Instr.mapUpdate, Sem.run_bind, run_underlying ht, Result.andThen_ok, hgo, checkKey_int hkk, hf, Nat.zero_add, h5, Option.map_some, Option.getD_some, h3, Instr.keyThatStays, sameBits_int, if_true, Sem.run_pure]
              exact setObj_map _ hh
            · have : (ES.modify i fun e => { e with key := .int kd n, val := x }).toList = ES.toList.set i { ent with key := .int kd n, val := x } := by
                apply List.ext_getElem?
                intro j
                rw [Array.getElem?_toList, Array.getElem?_modify, List.getElem?_set]
                have hi : i < ES.toList.length := (List.getElem?_eq_some_iff.1 h2).1
                by_cases hij : i = j
                · subst hij
                  rw [if_pos rfl, if_pos rfl, if_pos hi, h5]
                  rfl
                · rw [if_neg hij, if_neg hij, Array.getElem?_toList]
              rw [this]
              exact h4
      · cases hs
    · cases hs
  · cases hs
theorem e_mdel (hR : Rel β B0 S.h w) {t u kt e ty : TypeId} (ht : P.underlying t = some (.map kt e)) (hk : isIntT P kt = true) {vs : List AV} {m k : Value} (hv : VRs β vs [m, k]) {call : Cll} {v : AV} {S' : St} (hs : eMdel call S vs = some (v, S')) :
    v = .bad ∧ ∃ w' r, (Builtin.delete_ #[t, u] ty #[m, k]).run P w = .ok r w' ∧ Stp B0 β S w β S' w' := by
  obtain ⟨p, q, rfl, hp, hq⟩ := vrs2 hv
  obtain ⟨kk, hkk⟩ := isIntT_spec hk
  unfold eMdel at hs
  split at hs
  · rename_i kd n he
    cases he
    cases hs
    cases hp
    refine ⟨rfl, w, .tuple #[], ?_, Stp.refl hR⟩
    simp [Builtin.delete_, run_underlying ht, checkKey_int hkk]
  · rename_i r kd n he
    cases he
    split at hs
    · rename_i es hg
      split at hs
      · rename_i es' he'
        cases hs
        cases hq
        cases hp with
        | m hb =>
          obtain ⟨ES, clk, _, hh, hm⟩ := map_at hR hg hb
          have hgo : (getObj _).run P w = .ok (.map ES clk) w := getObj_map hh
          refine ⟨rfl, ?_⟩
          rcases findNow_del kk 0 hm he' with ⟨h1, h2⟩ | ⟨i, ent, h1, h2, h4⟩
          · have hf := findKey_int (P := P) (w := w) hkk h1
            refine ⟨_, .tuple #[], ?_, stp_map (clk' := clk) (ES' := ES) hR hg hb hh h2⟩
            have hset := setObj_map (P := P) (.map ES clk) hh
            simp [Builtin.delete_, run_underlying ht, hgo, checkKey_int hkk, hf, hset]
          · have hf := findKey_int (P := P) (w := w) hkk h1
            refine ⟨_, .tuple #[], ?_, stp_map (clk' := clk) (ES' := ES.eraseIdxIfInBounds i) hR hg hb hh ?_⟩
            · have hset := setObj_map (P := P) (.map (ES.eraseIdxIfInBounds i) clk) hh
              simp [Builtin.delete_, run_underlying ht, hgo, checkKey_int hkk, hf, hset]
            · have : (ES.eraseIdxIfInBounds i).toList = ES.toList.eraseIdx i := by
                simp [Array.eraseIdxIfInBounds]
                split
                · simp
                · rename_i hi; simp at h2; omega
              rw [this]
              exact h4
      · cases hs
    · cases hs
  · cases hs

/-! ### append, clear, copy -/
/-- the cells that a slice names -/
theorem first_cells (hR : Rel β B0 S.h w) {a : Option (Nat × Nat)} {len cap ex size n : Nat} {x : Value} {l : List AV} (hx : VR β (.sl a len cap ex) x) (hn : n ≤ len) (hl : rdCells S.h a (n * size) = some l) :
    ∃ l', VRs β l l' ∧ l'.length = n * size ∧ ∀ w2 : World, (∀ p, w2.cell? p = w.cell? p) → (Builtin.firstCells size n x).run P w2 = .ok l'.toArray w2 := by
  cases hx with
  | sln =>
    have : n = 0 := by omega
    subst this
    simp only [rdCells, Nat.zero_mul, beq_nat, decide_true, cond_true, Option.some.injEq] at hl
    subst hl
    exact ⟨[], .nil, by simp, fun w2 _ => by simp [Builtin.firstCells]⟩
  | sl hb hll hc he hz ha =>
    rename_i r k b o z c' ad
    obtain ⟨h1, l', h2, h3⟩ := rd_cells hR hl hb
    have hlen : l'.length = n * size := by rw [← h2.length, h1]
    refine ⟨l', h2, hlen, fun w2 hw2 => ?_⟩
    rcases Nat.eq_zero_or_pos (n * size) with h0 | h0
    · have : l' = [] := List.eq_nil_of_length_eq_zero (by omega)
      subst this
      simp [Builtin.firstCells, h0, loadCells, loadCellsFrom]
    · have hn0 : 0 < n := Nat.pos_of_mul_pos_right h0
      have hoff : ad = ⟨b, o + k, none⟩ := by
        rcases ha with h | h
        · omega
        · exact h
      subst hoff
      exact run_firstCells_some w2 size n _ len c' l' hlen (fun j v hj => by rw [add_at, hw2]; exact h3 j v hj)

section
variable {t u e e' : TypeId} {ti : TypeInfo} {z : Value} {ty : TypeId}
theorem app_room (ht : P.underlying t = some (.slice e)) (hu : P.underlying u = some (.slice e')) (hi : P.info? e = some ti) {base xb : Option Addr} {sLen sCap n c : Nat} {news : List Value}
    (hf : (Builtin.firstCells ti.size n (.slice xb n c)).run P w = .ok news.toArray w) (hroom : sLen + n ≤ sCap) :
    (Builtin.append_ #[t, u] ty #[.slice base sLen sCap, .slice xb n c]).run P w =
      match base with
      | none => .ok (.slice none (sLen + n) sCap) w
      | some a => ((storeCells (a.add (sLen * ti.size)) news).run P w).andThen fun _ w' => .ok (.slice (some a) (sLen + n) sCap) w' := by
  cases base with
  | none => simp [Builtin.append_, run_underlying ht, run_underlying hu, sizeOf, typeInfo, hi, Builtin.lenOf, hroom, hf]
  | some a => simp [Builtin.append_, run_underlying ht, run_underlying hu, sizeOf, typeInfo, hi, Builtin.lenOf, hroom, hf]
theorem app_grow (ht : P.underlying t = some (.slice e)) (hu : P.underlying u = some (.slice e')) (hi : P.info? e = some ti) (hz : ti.zero = some z) {base xb : Option Addr} {sLen sCap n c : Nat} {news olds : List Value}
    (hfn : (Builtin.firstCells ti.size n (.slice xb n c)).run P w.drew = .ok news.toArray w.drew) (hfo : (Builtin.firstCells ti.size sLen (.slice base sLen sCap)).run P w.drew = .ok olds.toArray w.drew)
    (hroom : ¬ sLen + n ≤ sCap) (hb0 : ti.bytes ≠ 0) (hb : (sLen + n) * ti.bytes ≤ 70368744177664) :
    (Builtin.append_ #[t, u] ty #[.slice base sLen sCap, .slice xb n c]).run P w =
      .ok (.slice (some ⟨w.heap.size, 0, none⟩) (sLen + n) (grownCap w (sLen + n) sCap e))
        (w.drew.alloc (.cells (olds.toArray ++ news.toArray ++ Builtin.zeroCells z.cells (grownCap w (sLen + n) sCap e - (sLen + n))) e)) := by
  have h63' : ¬ (9223372036854775807 < ((sLen : Int) + (n : Int))) := by
    have : sLen + n ≤ 70368744177664 := Nat.le_trans (Nat.le_mul_of_pos_right _ (by omega)) hb
    omega
  have h48' : ¬ (281474976710656 < Builtin.nextslicecap (sLen + n) sCap * ti.bytes) := by
    have := growslice_fits (need := sLen + n) (old := sCap) (bytes := ti.bytes) (by omega) (by omega)
    omega
  simp [Builtin.append_, run_underlying ht, run_underlying hu, sizeOf, typeInfo, zeroValue, hi, hz, Builtin.lenOf, hroom, h63', h48', Question.forced, hfn, hfo, newRow, grownCap]
  congr 2
  apply Array.ext'
  simp [List.append_assoc]
end

theorem VRs_splice {β : Bt} {l : List AV} {o : Nat} {cur : Array Value} {m : List AV} {m' : List Value} (h : CellsR β l o cur) (hm : VRs β m m') (hsz : o + l.length + m'.length ≤ cur.size) :
    CellsR β (l ++ m) o (cur.toList.take (o + l.length + 0) ++ m' ++ cur.toList.drop (o + l.length + 0 + m'.length)).toArray := by
  intro i v hv
  rw [List.getElem?_append] at hv
  rw [List.getElem?_toArray, List.append_assoc, List.getElem?_append]
  have hl1 : (cur.toList.take (o + l.length + 0)).length = o + l.length := by simp; omega
  rw [hl1]
  split at hv
  · obtain ⟨u, hu, hr⟩ := h i v hv
    rw [if_pos (by omega), List.getElem?_take, if_pos (by omega), Array.getElem?_toList]
    exact ⟨u, hu, hr⟩
  · obtain ⟨u, hu, hr⟩ := hm.get hv
    have hlt : i - l.length < m'.length := by
      have := (List.getElem?_eq_some_iff.1 hu).1
      exact this
    rw [if_neg (by omega), List.getElem?_append, if_pos (by omega)]
    exact ⟨u, by rw [show o + i - (o + l.length) = i - l.length by omega]; exact hu, hr⟩

theorem e_app (hR : Rel β B0 S.h w) {t u e e' ty : TypeId} {ti : TypeInfo} {z : Value} (ht : P.underlying t = some (.slice e)) (hu : P.underlying u = some (.slice e')) (hi : P.info? e = some ti) (hz : ti.zero = some z)
    (hzs : z.cells.size = ti.size) (hs0 : ti.size ≠ 0) (hb0 : ti.bytes ≠ 0) {vs : List AV} {s x : Value} (hv : VRs β vs [s, x]) {call : Cll} {v : AV} {S' : St} (hs : eApp ti.size ti.bytes call S vs = some (v, S')) (hfree : Free β S.nx S'.nx) :
    ∃ γ v' w', (Builtin.append_ #[t, u] ty #[s, x]).run P w = .ok v' w' ∧ VR γ v v' ∧ Stp B0 β S w γ S' w' := by
  obtain ⟨p, q, rfl, hp, hq⟩ := vrs2 hv
  unfold eApp at hs
  split at hs
  · rename_i a len cap ex b n cb eb he
    cases he
    cases hnew : rdCells S.h b (n * ti.size) with
    | none => rw [hnew] at hs; cases hs
    | some new =>
      rw [hnew] at hs
      simp only at hs
      cases hone : new.all AV.one with
      | false => rw [hone] at hs; cases hs
      | true =>
        rw [hone] at hs
        simp only [cond_true] at hs
        obtain ⟨news, hn1, hn2, hn3⟩ := first_cells hR hq (Nat.le_refl n) hnew
        have hlenn := hn1.length
        obtain ⟨xb, xc, rfl⟩ : ∃ xb xc, x = .slice xb n xc := by cases hq <;> exact ⟨_, _, rfl⟩
        have h1n := hn1.ones hone
        unfold appV at hs
        rw [ble_nat] at hs
        by_cases hroom : len + n ≤ cap
        · simp only [hroom, decide_true, cond_true] at hs
          cases hp with
          | sln =>
            cases hs
            have hn0 : n = 0 := by omega
            subst hn0
            refine ⟨β, .slice none 0 0, w, ?_, .sln, Stp.refl hR⟩
            rw [app_room ht hu hi (hn3 w fun _ => rfl) (by omega)]
          | sl hb hl hc he hzz ha =>
            rename_i r k bb o zz c' ad _
            rw [app_room ht hu hi (hn3 w fun _ => rfl) (by omega)]
            rw [beq_nat] at hs
            by_cases hn0 : n = 0
            · subst hn0
              simp only [decide_true, cond_true] at hs
              cases hs
              have : news = [] := List.eq_nil_of_length_eq_zero (by rw [hn2]; simp)
              subst this
              refine ⟨β, _, w, by simp [storeCells], .sl hb hl hc he hzz ha, Stp.refl hR⟩
            · simp only [hn0, decide_false, cond_false] at hs
              cases hw : wrCells S.h (r, k + len * ti.size) new with
              | none => rw [hw] at hs; cases hs
              | some h' =>
                rw [hw] at hs
                cases hs
                obtain ⟨w', h1, h2⟩ := wr_cells (P := P) hR hw hb hn1
                have hoff : ad = ⟨bb, o + k, none⟩ := by
                  rcases ha with h | h
                  · omega
                  · exact h
                subst hoff
                refine ⟨β, .slice (some ⟨bb, o + k, none⟩) (len + n) c', w', ?_, .sl hb hroom hc he hzz ha, h2⟩
                simp only [add_at]
                rw [← Nat.add_assoc] at h1
                simp only [h1, Result.andThen_ok]
        · simp only [hroom, decide_false, cond_false] at hs
          rw [ble_nat] at hs
          by_cases hbytes : (len + n) * ti.bytes ≤ 70368744177664
          · simp only [hbytes, decide_true, cond_true] at hs
            cases hold : rdCells S.h a (len * ti.size) with
            | none => rw [hold] at hs; cases hs
            | some old =>
              cases hgone : gone S.h a ex ti.size with
              | none => rw [hold, hgone] at hs; cases hs
              | some h1 =>
                rw [hold, hgone] at hs
                simp only [Option.some.injEq, Prod.mk.injEq] at hs
                obtain ⟨rfl, rfl⟩ := hs
                obtain ⟨olds, ho1, ho2, ho3⟩ := first_cells hR hp (Nat.le_refl len) hold
                have hleno := ho1.length
                have hfr : β S.nx = none := hfree S.nx (Nat.le_refl _) (Nat.lt_succ_self _)
                have hold1 : VRs β (old ++ new) (olds ++ news) := ho1.append hn1
                -- a new block, in whatever state
                have fresh : ∀ (S1 : St) (base : Option Addr) (sCap : Nat), Stp B0 β S w β S1 w → S1.nx = S.nx → s = .slice base len sCap → ¬ len + n ≤ sCap →
                    ∃ γ v' w', (Builtin.append_ #[t, u] ty #[s, .slice xb n xc]).run P w = .ok v' w' ∧ VR γ (.sl (some (S.nx, 0)) (len + n) (len + n) ti.size) v' ∧ Stp B0 β S w γ { h := S1.h.set S.nx (some (.cells (old ++ new))), nx := S.nx + 1 } w' := by
                  intro S1 base sCap hst hnx hse hno
                  subst hse
                  have hrun := app_grow (P := P) (w := w) (ty := ty) ht hu hi hz (hn3 w.drew fun _ => rfl) (ho3 w.drew fun _ => rfl) hno hb0 hbytes
                  have hge := grownCap_ge w (len + n) sCap e
                  have hsz : (olds.toArray ++ news.toArray ++ Builtin.zeroCells z.cells (grownCap w (len + n) sCap e - (len + n))).size = grownCap w (len + n) sCap e * ti.size := by
                    simp only [Array.size_append, List.size_toArray, size_zeroCells, hzs, ho2, hn2, ← Nat.add_mul]
                    congr 1
                    omega
                  refine ⟨upd β S.nx (w.heap.size, 0, grownCap w (len + n) sCap e * ti.size), _, _, hrun, .sl (upd_same _ _ _) (Nat.le_refl _) hge (fun h => absurd h hs0) (fun _ => by omega) (.inr rfl), ?_⟩
                  have hbr : BR (upd β S1.nx (w.heap.size, 0, grownCap w (len + n) sCap e * ti.size)) B0 (w.drew.alloc (.cells (olds.toArray ++ news.toArray ++ Builtin.zeroCells z.cells (grownCap w (len + n) sCap e - (len + n))) e)).heap w.heap.size 0 (grownCap w (len + n) sCap e * ti.size) (.cells (old ++ new)) := by
                    refine ⟨hR.le, _, e, heap_alloc_new w.drew _, by omega, fun i v hv => ?_⟩
                    obtain ⟨y, hy, hr⟩ := hold1.get hv
                    refine ⟨y, ?_, hr.mono (upd_ext (by rw [hnx]; exact hfr))⟩
                    have hlt : i < (olds ++ news).length := (List.getElem?_eq_some_iff.1 hy).1
                    rw [Nat.zero_add, Array.getElem?_append, if_pos (by simpa using hlt)]
                    rw [← Array.getElem?_toList]
                    simpa using hy
                  have hsn := stp_new (S := S1) (w := w) hst.rel (x := .cells (olds.toArray ++ news.toArray ++ Builtin.zeroCells z.cells (grownCap w (len + n) sCap e - (len + n))) e) (w' := w.drew.alloc (.cells (olds.toArray ++ news.toArray ++ Builtin.zeroCells z.cells (grownCap w (len + n) sCap e - (len + n))) e)) (by rw [hnx]; exact hfr) rfl rfl rfl rfl rfl hbr
                  rw [hnx] at hsn
                  exact hst.trans hsn
                unfold gone at hgone
                rw [beq_nat] at hgone
                by_cases hex : ex = 0
                · simp only [hex, decide_true, cond_true, Option.some.injEq] at hgone
                  subst hgone
                  cases hp with
                  | sln => exact fresh S none 0 (Stp.refl hR) rfl rfl hroom
                  | sl hb hl hc he hzz ha => exact fresh S _ _ (Stp.refl hR) rfl rfl (by rw [he hex]; exact hroom)
                · simp only [hex, decide_false, cond_false] at hgone
                  rw [beq_nat] at hgone
                  by_cases hexs : ex = ti.size
                  · simp only [hexs, decide_true, cond_true] at hgone
                    cases hp with
                    | sln => cases hgone
                    | sl hb hl hc he hzz ha =>
                      rename_i r k bb o zz c' ad
                      simp only at hgone
                      cases hlive : live S.h r with
                      | false => rw [hlive] at hgone; cases hgone
                      | true =>
                        rw [hlive] at hgone
                        simp only [cond_true, Option.some.injEq] at hgone
                        subst hgone
                        by_cases hcr : len + n ≤ c'
                        · -- in place
                          unfold live at hlive
                          split at hlive
                          · rename_i cc hgr
                            obtain ⟨hle, cur, tt, hh, hzc, hcell⟩ := hR.blk r _ bb o zz hgr hb
                            have hoff : ad = ⟨bb, o + k, none⟩ := by
                              rcases ha with h | h
                              · omega
                              · exact h
                            subst hoff
                            have hzz' := hzz hex
                            rw [hexs] at hzz'
                            have hmul : len * ti.size + n * ti.size ≤ c' * ti.size := by rw [← Nat.add_mul]; exact Nat.mul_le_mul_right _ hcr
                            have hlo : old.length = len * ti.size := by rw [hleno, ho2]
                            have hst := run_storeCells_at P bb (o + k + len * ti.size) tt news 0 cur w hh (by omega) h1n
                            have hoc : CellsR β old (o + k) cur := by
                              intro i v hv
                              simp only [rdCells, hgr, AB.read] at hold
                              obtain ⟨hq1, hq2, hq3⟩ := cut_get hold
                              obtain ⟨y, hy, hr⟩ := hcell (k + i) v (hq3 i v hv)
                              exact ⟨y, by rw [show o + k + i = o + (k + i) by omega]; exact hy, hr⟩
                            refine ⟨upd β S.nx (bb, o + k, zz - k), .slice (some ⟨bb, o + k, none⟩) (len + n) c', w.setRow bb (cur.toList.take (o + k + len * ti.size + 0) ++ news ++ cur.toList.drop (o + k + len * ti.size + 0 + news.length)).toArray, ?_, .sl (upd_same _ _ _) (Nat.le_refl _) hcr (fun h => absurd h hs0) (fun _ => by omega) (.inr rfl), ?_⟩
                            · rw [app_room ht hu hi (hn3 w fun _ => rfl) hcr]
                              simp only [add_at, hst, Result.andThen_ok]
                            · have hext := upd_ext (x := (bb, o + k, zz - k)) hfr
                              refine stp_reuse hR hfr rfl hgr rfl hb rfl rfl rfl (setRow_size _ _ _) (fun j hj => setRow_other _ _ _ _ hj) ⟨hle, _, tt, setRow_at _ hh, ?_, ?_⟩
                              · simp only [List.size_toArray, List.length_append, List.length_take, List.length_drop, Array.length_toList]
                                omega
                              · have hsp := VRs_splice hoc hn1 (by omega)
                                rw [hlo] at hsp
                                exact hsp.mono hext
                          · cases hlive
                        · exact fresh { S with h := S.h.set r none } _ _ (stp_gone hR r (by rw [hb]; simp)) rfl rfl hcr
                  · simp only [hexs, decide_false, cond_false] at hgone; cases hgone
          · simp only [hbytes, decide_false, cond_false] at hs; cases hs
  · cases hs
end
end Go.AM
