/- The abstract machine: its values, its memory, its code, and how it runs. Plain definitions, no theorem of the program. -/
import GoSem.Core.View
namespace Go.AM

mutual
/-- what stands for a number that is not known: a variable; what an operation makes of two; what is left of one in so many bits -/
inductive At where
  | v (n : Nat)
  | op (o : BinOp) (k : IntKind) (a b : Ln)
  | wr (k : IntKind) (a : Ln)
/-- a sum of such, each so many times, and a number -/
inductive Ln where
  | c (n : Int)
  | t (m : Int) (a : At) (r : Ln)
end
instance : Inhabited Ln := ⟨.c 0⟩

/-- Values: as the model's, but addresses are names of the abstract machine's own; a slice's room is known exactly (ex = 0), or is at least that (ex: an element's cells). -/
inductive AV where
  | b (x : Bool)
  | i (k : IntKind) (n : Int)
  /-- a number that is not known (in the open machine alone) -/
  | x (k : IntKind) (e : Ln)
  | s (x : List UInt8)
  | p (a : Option (Nat × Nat))
  | sl (a : Option (Nat × Nat)) (len cap ex : Nat)
  | m (r : Option Nat)
  | fn (f : Nat) (fst cap : List AV)
  | nilf
  | ifc (t : Nat) (v : AV)
  | nili
  | agg (l : List AV)
  | tup (l : List AV)
  /-- anything at all: nothing is known of it -/
  | bad
  deriving Inhabited

/-- A finite map from numbers. -/
inductive PM (α : Type) where
  | nil
  | node (v : Option α) (l r : PM α)
  deriving Inhabited

noncomputable def PM.get {α : Type} (t : PM α) : Nat → Option α :=
  PM.rec (motive := fun _ => Nat → Option α) (fun _ => none) (fun v _ _ l r n => bif Nat.beq n 0 then v else bif Nat.beq (Nat.mod n 2) 1 then l (Nat.div n 2) else r (Nat.sub (Nat.div n 2) 1)) t

def PM.mkL {α : Type} (u : Option α) (l r : PM α) : PM α :=
  match l with
  | .nil => .node u .nil r
  | .node a b c => .node u (.node a b c) r
def PM.mkR {α : Type} (u : Option α) (l r : PM α) : PM α :=
  match r with
  | .nil => .node u l .nil
  | .node a b c => .node u l (.node a b c)

noncomputable def PM.put {α : Type} (v : Option α) (f : Nat) : PM α → Nat → PM α :=
  Nat.rec (motive := fun _ => PM α → Nat → PM α) (fun t _ => t) (fun _ ih t =>
    PM.rec (motive := fun _ => Nat → PM α)
      (fun n => bif Nat.beq n 0 then .node v .nil .nil
        else bif Nat.beq (Nat.mod n 2) 1 then PM.mkL none (ih .nil (Nat.div n 2)) .nil else PM.mkR none .nil (ih .nil (Nat.sub (Nat.div n 2) 1)))
      (fun u l r _ _ n => bif Nat.beq n 0 then .node v l r
        else bif Nat.beq (Nat.mod n 2) 1 then PM.mkL u (ih l (Nat.div n 2)) r else PM.mkR u l (ih r (Nat.sub (Nat.div n 2) 1))) t) f
noncomputable def PM.set {α : Type} (t : PM α) (n : Nat) (v : Option α) : PM α := PM.put v (n + 1) t n

/-- A block of memory: cells of the machine's own, cells that are only read (an argument's), a map. -/
inductive AB where
  | cells (c : List AV)
  | ro (c : List AV)
  | map (es : List (AV × AV))
  deriving Inhabited

structure St where
  h : PM AB
  nx : Nat
  deriving Inhabited

/-- an operand: a variable that lives on, a temporary of the statement, a constant -/
inductive Opd where
  | l (n : Nat)
  | t (n : Nat)
  | c (v : AV)
  deriving Inhabited
inductive Dst where
  | no
  | l (n : Nat)
  | t (n : Nat)
  deriving Inhabited

inductive EqK where
  | bool | str | ptr | slnil | mapnil | fnil | ifc
  | agg (fs : List (Nat × Nat))
  deriving Inhabited

inductive AOp where
  -- no memory
  | mv | pick
  | build (z : List AV) (ps : List (Nat × Nat))
  | nilchk
  | bin (op : BinOp)
  | sbin (op : BinOp)
  | eq (neg : Bool) (k : EqK)
  | un (op : UnOp)
  | cvtI (k : IntKind)
  | cvtS
  | mkif (t : Nat)
  | mkfn (f nfst : Nat)
  | slc (size : Nat) (lo hi mx : Bool)
  | slcS (lo hi : Bool)
  | fad (off : Nat)
  | fld (off : Nat) (sz : Option Nat)
  | iad (size : Nat)
  | iadA (len size : Nat)
  | ixA (len size : Nat) (agg : Bool)
  | ixS
  | ext (k : Nat)
  | lenSl | lenS | lenC (n : Nat) | capSl
  | min | max
  -- reads
  | ld (sz : Option Nat)
  | lkup (z : AV) (ok : Bool)
  | mlen
  | cvtB
  -- makes a block
  | alloc (z : List AV)
  | box
  | bslice (z : List AV) (len size : Nat) (ps : List Nat)
  | mksl (z : List AV) (bytes : Nat)
  | mkmap
  -- effects
  | st (sz : Nat)
  | mset
  | mdel
  | app (size bytes : Nat)
  | clr (z : List AV)
  | cpy (size : Nat)
  | call (f : Nat)
  | callv
  deriving Inhabited

structure Op1 where
  dst : Dst
  gd : Option (Opd × Bool)
  op : AOp
  args : List Opd
  deriving Inhabited

inductive ACode where
  | skip
  | reg (ops : List Op1)
  /-- with places that are looked at again: operation, and the number of operations behind which -/
  | regD (ops : List Op1) (chk : List (Nat × Nat))
  | seq (a b : ACode)
  | cond (c : Opd) (x y : ACode)
  | block (id : Nat) (c : ACode)
  | loop (c : ACode)
  | exit (id : Nat)
  | ret
  deriving Inhabited

inductive ResV where
  | tmp (t : Opd)
  | cell (t : Opd) (sz : Option Nat)
  deriving Inhabited

structure AFn where
  body : ACode
  res : List ResV
  deriving Inhabited

inductive Ex where
  | norm
  | ex (id : Nat)
  | ret
  deriving Inhabited

/-! ### numbers -/
def iLt : Int → Int → Bool
  | .ofNat a, .ofNat b => Nat.blt a b
  | .negSucc a, .negSucc b => Nat.blt b a
  | .ofNat _, .negSucc _ => false
  | .negSucc _, .ofNat _ => true
def iEq : Int → Int → Bool
  | .ofNat a, .ofNat b => Nat.beq a b
  | .negSucc a, .negSucc b => Nat.beq b a
  | _, _ => false
def fits (n : Int) : Bool :=
  match n with
  | .ofNat m => Nat.blt m 9223372036854775808
  | .negSucc m => Nat.blt m 9223372036854775808
def wr (k : IntKind) (n : Int) : Int :=
  match k with
  | .i64 => bif fits n then n else IntKind.wrap .i64 n
  | k => k.wrap n

def binI (op : BinOp) (k : IntKind) (a b : Int) : Option AV :=
  match op with
  | .add => some (.i k (wr k (a + b)))
  | .sub => some (.i k (wr k (a - b)))
  | .mul => some (.i k (wr k (a * b)))
  | .quo => bif iEq b 0 then none else some (.i k (wr k (a.tdiv b)))
  | .rem => bif iEq b 0 then none else some (.i k (a.tmod b))
  | .and => some (.i k (wr k (BitVec.toNat (BitVec.ofInt k.bits a &&& BitVec.ofInt k.bits b))))
  | .or => some (.i k (wr k (BitVec.toNat (BitVec.ofInt k.bits a ||| BitVec.ofInt k.bits b))))
  | .xor => some (.i k (wr k (BitVec.toNat (BitVec.ofInt k.bits a ^^^ BitVec.ofInt k.bits b))))
  | .andNot => some (.i k (wr k (BitVec.toNat (BitVec.ofInt k.bits a &&& ~~~ BitVec.ofInt k.bits b))))
  | .eql => some (.b (iEq a b))
  | .neq => some (.b (!iEq a b))
  | .lss => some (.b (iLt a b))
  | .leq => some (.b (!iLt b a))
  | .gtr => some (.b (iLt b a))
  | .geq => some (.b (!iLt a b))
  | .shl | .shr => none

def shI (op : BinOp) (k : IntKind) (a b : Int) : Option AV :=
  bif iLt b 0 then none else
  match op with
  | .shl => some (.i k (wr k (a * 2 ^ (Nat.min b.toNat k.bits))))
  | .shr => some (.i k (a.fdiv (2 ^ (Nat.min b.toNat k.bits))))
  | _ => none

def isSh : BinOp → Bool
  | .shl | .shr => true
  | _ => false

def kEq : IntKind → IntKind → Bool
  | .i8, .i8 | .i16, .i16 | .i32, .i32 | .i64, .i64 | .u8, .u8 | .u16, .u16 | .u32, .u32 | .u64, .u64 => true
  | _, _ => false

/-! ### strings -/
def bytesEq : List UInt8 → List UInt8 → Bool
  | [], [] => true
  | a :: x, b :: y => Nat.beq a.toNat b.toNat && bytesEq x y
  | _, _ => false
def bytesLt : List UInt8 → List UInt8 → Bool
  | _, [] => false
  | [], _ :: _ => true
  | a :: x, b :: y => Nat.blt a.toNat b.toNat || (Nat.beq a.toNat b.toNat && bytesLt x y)
def binS (op : BinOp) (x y : List UInt8) : Option AV :=
  match op with
  | .add => bif Nat.blt (x.length + y.length) 9223372036854775808 then some (.s (x ++ y)) else none
  | .eql => some (.b (bytesEq x y))
  | .neq => some (.b (!bytesEq x y))
  | .lss => some (.b (bytesLt x y))
  | .leq => some (.b (bytesLt x y || bytesEq x y))
  | .gtr => some (.b (!(bytesLt x y || bytesEq x y)))
  | .geq => some (.b (!bytesLt x y))
  | _ => none

/-! ### lists of cells -/
def AV.one : AV → Bool
  | .agg _ | .tup _ | .bad => false
  | _ => true
def AV.cellsOf : AV → Option (List AV)
  | .agg l => bif l.all AV.one then some l else none
  | .tup _ | .bad => none
  | v => some [v]
def splice (c : List AV) (off : Nat) (vs : List AV) : List AV := c.take off ++ vs ++ c.drop (off + vs.length)
def fillP : List AV → List (Nat × Nat) → List AV → Option (List AV)
  | c, [], [] => some c
  | c, (off, sz) :: ps, v :: vs =>
    match v.cellsOf with
    | some l => bif Nat.beq l.length sz && Nat.ble (off + sz) c.length then fillP (splice c off l) ps vs else none
    | none => none
  | _, _, _ => none
def cut (c : List AV) (off sz : Nat) : Option (List AV) := bif Nat.ble (off + sz) c.length then some ((c.drop off).take sz) else none
def reps (z : List AV) : Nat → List AV
  | 0 => []
  | n + 1 => z ++ reps z n
def one? : List AV → Option AV
  | [v] => some v
  | _ => none
/-- a value out of cells: one cell, or so many -/
def look (c : List AV) (off : Nat) : Option Nat → Option AV
  | none => c[off]?
  | some sz => (cut c off sz).map .agg

def AB.read : AB → Option (List AV)
  | .cells c => some c
  | .ro c => some c
  | .map _ => none

noncomputable def rdAt (h : PM AB) (a : Nat × Nat) (sz : Option Nat) : Option AV :=
  match h.get a.1 with
  | some blk => match blk.read with
    | some c => look c a.2 sz
    | none => none
  | none => none
noncomputable def rdCells (h : PM AB) (a : Option (Nat × Nat)) (n : Nat) : Option (List AV) :=
  match a with
  | none => bif Nat.beq n 0 then some [] else none
  | some (r, o) => match h.get r with
    | some blk => match blk.read with
      | some c => cut c o n
      | none => none
    | none => none
noncomputable def live (h : PM AB) (r : Nat) : Bool :=
  match h.get r with
  | some (.cells _) => true
  | _ => false
/-- cells that are written in a block of the machine's own -/
noncomputable def wrCells (h : PM AB) (a : Nat × Nat) (vs : List AV) : Option (PM AB) :=
  match h.get a.1 with
  | some (.cells c) => bif Nat.ble (a.2 + vs.length) c.length && vs.all AV.one then some (h.set a.1 (some (.cells (splice c a.2 vs)))) else none
  | _ => none

/-! ### maps (keys are whole numbers) -/
def mfind (k : IntKind) (n : Int) : List (AV × AV) → Option (Option AV)
  | [] => some none
  | (.i j a, v) :: es => bif kEq k j then (bif iEq n a then some (some v) else mfind k n es) else none
  | _ :: _ => none
def msetL (k : IntKind) (n : Int) (v : AV) : List (AV × AV) → Option (List (AV × AV))
  | [] => some [(.i k n, v)]
  | (.i j a, u) :: es => bif kEq k j then (bif iEq n a then some ((.i j a, v) :: es) else (msetL k n v es).map ((.i j a, u) :: ·)) else none
  | _ :: _ => none
def mdelL (k : IntKind) (n : Int) : List (AV × AV) → Option (List (AV × AV))
  | [] => some []
  | (.i j a, u) :: es => bif kEq k j then (bif iEq n a then some es else (mdelL k n es).map ((.i j a, u) :: ·)) else none
  | _ :: _ => none

/-! ### equality -/
def eqOne : Nat → AV → AV → Option Bool
  | 0, .b x, .b y => some (x == y)
  | 1, .i j x, .i k y => bif kEq j k then some (iEq x y) else none
  | 2, .s x, .s y => some (bytesEq x y)
  | _, _, _ => none
def eqAt (xs ys : List AV) : List (Nat × Nat) → Option Bool
  | [] => some true
  | (f, g) :: fs => match xs[f]?, ys[f]? with
    | some x, some y => match eqOne g x y with
      | some true => eqAt xs ys fs
      | some false => some false
      | none => none
    | _, _ => none
noncomputable def eqP (h : PM AB) : Option (Nat × Nat) → Option (Nat × Nat) → Option Bool
  | none, none => some true
  | none, some _ | some _, none => some false
  | some (a, i), some (b, j) =>
    bif Nat.beq a b then some (Nat.beq i j)
    else bif live h a && live h b then some false else none
noncomputable def eqV (h : PM AB) : EqK → AV → AV → Option Bool
  | .bool, .b x, .b y => some (x == y)
  | .str, .s x, .s y => some (bytesEq x y)
  | .ptr, .p x, .p y => eqP h x y
  | .slnil, .sl none _ _ _, .sl y _ _ _ => some y.isNone
  | .slnil, .sl (some _) _ _ _, .sl none _ _ _ => some false
  | .mapnil, .m none, .m y => some y.isNone
  | .mapnil, .m (some _), .m none => some false
  | .fnil, .nilf, .nilf => some true
  | .fnil, .nilf, .fn _ _ _ | .fnil, .fn _ _ _, .nilf => some false
  | .ifc, .nili, .ifc _ _ | .ifc, .ifc _ _, .nili => some false
  | .agg fs, .agg xs, .agg ys => eqAt xs ys fs
  | _, _, _ => none

def minL (lt : Int → Int → Bool) : Int → List AV → IntKind → Option AV
  | x, [], k => some (.i k x)
  | x, .i j y :: rest, k => bif kEq j k then minL lt (bif lt y x then y else x) rest k else none
  | _, _ :: _, _ => none

def idx (v : AV) : Option Nat :=
  match v with
  | .i _ (.ofNat n) => some n
  | _ => none

def optIdx : Bool → List AV → Nat → Option (Nat × List AV)
  | true, v :: r, _ => (idx v).map fun n => (n, r)
  | true, [], _ => none
  | false, r, d => some (d, r)

def slcV (size : Nat) (lo hi mx : Bool) : List AV → Option AV
  | .sl a len cap ex :: r =>
    match optIdx lo r 0 with
    | none => none
    | some (l, r) => match optIdx hi r len with
      | none => none
      | some (h, r) => match optIdx mx r cap with
        | some (m, []) =>
          bif Nat.ble l h && Nat.ble h m && Nat.ble m cap && (Nat.beq ex 0 || Nat.beq ex size) then
            some (.sl (a.map fun (n, o) => (n, o + l * size)) (h - l) (m - l) (bif mx then 0 else ex))
          else none
        | _ => none
  | _ => none

def slcSV (lo hi : Bool) : List AV → Option AV
  | .s x :: r =>
    match optIdx lo r 0 with
    | none => none
    | some (l, r) => match optIdx hi r x.length with
      | some (h, []) => bif Nat.ble l h && Nat.ble h x.length then some (.s ((x.take h).drop l)) else none
      | _ => none
  | _ => none

/-- Operations that leave memory as it is: each by its own. -/
def rMv (_ : PM AB) : List AV → Option AV
  | [x] => some x
  | _ => none
def rPick (_ : PM AB) : List AV → Option AV
  | [.b c, x, y] => some (bif c then x else y)
  | _ => none
def rBuild (z : List AV) (ps : List (Nat × Nat)) (_ : PM AB) (vs : List AV) : Option AV := (fillP z ps vs).map .agg
def rNil (_ : PM AB) : List AV → Option AV
  | [.p (some a)] => some (.p (some a))
  | [.fn f a b] => some (.fn f a b)
  | _ => none
def rBin (op : BinOp) (_ : PM AB) : List AV → Option AV
  | [.i k a, .i j b] => bif isSh op then shI op k a b else bif kEq k j then binI op k a b else none
  | _ => none
def rSbin (op : BinOp) (_ : PM AB) : List AV → Option AV
  | [.s x, .s y] => binS op x y
  | _ => none
noncomputable def rEq (ng : Bool) (k : EqK) (h : PM AB) : List AV → Option AV
  | [x, y] => (eqV h k x y).map fun r => .b (r != ng)
  | _ => none
def rUn (op : UnOp) (_ : PM AB) : List AV → Option AV
  | [.b x] => match op with
    | .not => some (.b (!x))
    | _ => none
  | [.i k n] => match op with
    | .neg => some (.i k (wr k (0 - n)))
    | _ => none
  | _ => none
def rCvtI (k : IntKind) (_ : PM AB) : List AV → Option AV
  | [.i _ n] => some (.i k (wr k n))
  | _ => none
def rCvtS (_ : PM AB) : List AV → Option AV
  | [.s x] => some (.s x)
  | _ => none
def rMkif (t : Nat) (_ : PM AB) : List AV → Option AV
  | [x] => some (.ifc t x)
  | _ => none
def rMkfn (f n : Nat) (_ : PM AB) (vs : List AV) : Option AV := some (.fn f (vs.take n) (vs.drop n))
def rSlc (size : Nat) (lo hi mx : Bool) (_ : PM AB) (vs : List AV) : Option AV := slcV size lo hi mx vs
def rSlcS (lo hi : Bool) (_ : PM AB) (vs : List AV) : Option AV := slcSV lo hi vs
def rFad (off : Nat) (_ : PM AB) : List AV → Option AV
  | [.p (some (n, o))] => some (.p (some (n, o + off)))
  | _ => none
def rFld (off : Nat) (sz : Option Nat) (_ : PM AB) : List AV → Option AV
  | [.agg l] => look l off sz
  | _ => none
def rIad (size : Nat) (_ : PM AB) : List AV → Option AV
  | [.sl (some (n, o)) len _ _, .i _ (.ofNat k)] => bif Nat.blt k len then some (.p (some (n, o + k * size))) else none
  | _ => none
def rIadA (len size : Nat) (_ : PM AB) : List AV → Option AV
  | [.p (some (n, o)), .i _ (.ofNat k)] => bif Nat.blt k len then some (.p (some (n, o + k * size))) else none
  | _ => none
def rIxA (len size : Nat) (ag : Bool) (_ : PM AB) : List AV → Option AV
  | [.agg l, .i _ (.ofNat k)] => bif Nat.blt k len then look l (k * size) (bif ag then some size else none) else none
  | _ => none
def rIxS (_ : PM AB) : List AV → Option AV
  | [.s x, .i _ (.ofNat k)] => (x[k]?).map fun c => .i .u8 (.ofNat c.toNat)
  | _ => none
def rExt (k : Nat) (_ : PM AB) : List AV → Option AV
  | [.tup l] => l[k]?
  | _ => none
def rLenSl (_ : PM AB) : List AV → Option AV
  | [.sl _ n _ _] => some (.i .i64 (.ofNat n))
  | _ => none
def rLenS (_ : PM AB) : List AV → Option AV
  | [.s x] => some (.i .i64 (.ofNat x.length))
  | _ => none
def rLenC (n : Nat) (_ : PM AB) : List AV → Option AV
  | [_] => some (.i .i64 (.ofNat n))
  | _ => none
def rCapSl (_ : PM AB) : List AV → Option AV
  | [.sl _ _ n 0] => some (.i .i64 (.ofNat n))
  | _ => none
def rMin (_ : PM AB) : List AV → Option AV
  | .i k x :: r => minL (fun y x => iLt y x) x r k
  | _ => none
def rMax (_ : PM AB) : List AV → Option AV
  | .i k x :: r => minL (fun y x => iLt x y) x r k
  | _ => none
noncomputable def rLd (sz : Option Nat) (h : PM AB) : List AV → Option AV
  | [.p (some a)] => rdAt h a sz
  | _ => none
noncomputable def rLkup (z : AV) (ok : Bool) (h : PM AB) : List AV → Option AV
  | [.m none, .i _ _] => some (bif ok then .tup [z, .b false] else z)
  | [.m (some r), .i k n] => match h.get r with
    | some (.map es) => match mfind k n es with
      | some (some v) => some (bif ok then .tup [v, .b true] else v)
      | some none => some (bif ok then .tup [z, .b false] else z)
      | none => none
    | _ => none
  | _ => none
noncomputable def rMlen (h : PM AB) : List AV → Option AV
  | [.m none] => some (.i .i64 0)
  | [.m (some r)] => match h.get r with
    | some (.map es) => some (.i .i64 (.ofNat es.length))
    | _ => none
  | _ => none
def u8s : List AV → Option (List UInt8)
  | [] => some []
  | .i .u8 (.ofNat n) :: r => match u8s r with
    | some l => some (UInt8.ofNat n :: l)
    | none => none
  | _ => none
/-- bytes as a string -/
noncomputable def rCvtB (h : PM AB) : List AV → Option AV
  | [.sl a n _ _] => bif Nat.beq n 0 then some (.s []) else match rdCells h a n with
    | some l => match u8s l with
      | some s => some (.s s)
      | none => none
    | none => none
  | _ => none
def rNone (_ : PM AB) (_ : List AV) : Option AV := none
noncomputable def semR : AOp → PM AB → List AV → Option AV
  | .mv => rMv
  | .pick => rPick
  | .build z ps => rBuild z ps
  | .nilchk => rNil
  | .bin op => rBin op
  | .sbin op => rSbin op
  | .eq ng k => rEq ng k
  | .un op => rUn op
  | .cvtI k => rCvtI k
  | .cvtS => rCvtS
  | .mkif t => rMkif t
  | .mkfn f n => rMkfn f n
  | .slc size lo hi mx => rSlc size lo hi mx
  | .slcS lo hi => rSlcS lo hi
  | .fad off => rFad off
  | .fld off sz => rFld off sz
  | .iad size => rIad size
  | .iadA len size => rIadA len size
  | .ixA len size ag => rIxA len size ag
  | .ixS => rIxS
  | .ext k => rExt k
  | .lenSl => rLenSl
  | .lenS => rLenS
  | .lenC n => rLenC n
  | .capSl => rCapSl
  | .min => rMin
  | .max => rMax
  | .ld sz => rLd sz
  | .lkup z ok => rLkup z ok
  | .mlen => rMlen
  | .cvtB => rCvtB
  | _ => rNone

/-- Operations that make one block: what is in it, and the value that names it. -/
def aAlloc (z : List AV) (nx : Nat) : List AV → Option (AB × AV)
  | [] => some (.cells z, .p (some (nx, 0)))
  | _ => none
def aBox (nx : Nat) : List AV → Option (AB × AV)
  | [v] => match v.cellsOf with
    | some l => some (.cells l, .p (some (nx, 0)))
    | none => none
  | _ => none
def aBslice (z : List AV) (len size : Nat) (ps : List Nat) (nx : Nat) (vs : List AV) : Option (AB × AV) :=
  match fillP (reps z len) (ps.map fun i => (i * size, size)) vs with
  | some c => bif c.all AV.one then some (.cells c, .sl (some (nx, 0)) len len 0) else none
  | none => none
def aMksl (z : List AV) (bytes : Nat) (nx : Nat) : List AV → Option (AB × AV)
  | [.i _ (.ofNat l), .i _ (.ofNat c)] =>
    bif Nat.ble l c && Nat.ble (c * bytes) 70368744177664 then some (.cells (reps z c), .sl (some (nx, 0)) l c 0) else none
  | _ => none
def aMkmap (nx : Nat) (_ : List AV) : Option (AB × AV) := some (.map [], .m (some nx))
def aNone (_ : Nat) (_ : List AV) : Option (AB × AV) := none
def semA : AOp → Nat → List AV → Option (AB × AV)
  | .alloc z => aAlloc z
  | .box => aBox
  | .bslice z len size ps => aBslice z len size ps
  | .mksl z bytes => aMksl z bytes
  | .mkmap => aMkmap
  | _ => aNone

/-- a slice of which the room is not known exactly is gone when it is appended to beyond it -/
noncomputable def gone (h : PM AB) (a : Option (Nat × Nat)) (ex size : Nat) : Option (PM AB) :=
  bif Nat.beq ex 0 then some h else bif Nat.beq ex size then match a with
    | some (r, _) => bif live h r then some (h.set r none) else none
    | none => none
  else none
noncomputable def appV (size bytes : Nat) (S : St) (a : Option (Nat × Nat)) (len cap ex : Nat) (n : Nat) (new : List AV) : Option (AV × St) :=
  bif Nat.ble (len + n) cap then
    match a with
    | none => some (.sl none (len + n) cap ex, S)
    | some (r, o) =>
      bif Nat.beq n 0 then some (.sl (some (r, o)) len cap ex, S) else
      match wrCells S.h (r, o + len * size) new with
      | some h => some (.sl (some (r, o)) (len + n) cap ex, { S with h := h })
      | none => none
  else bif Nat.ble ((len + n) * bytes) 70368744177664 then
    match rdCells S.h a (len * size), gone S.h a ex size with
    | some old, some h => some (.sl (some (S.nx, 0)) (len + n) (len + n) size, { h := h.set S.nx (some (.cells (old ++ new))), nx := S.nx + 1 })
    | _, _ => none
  else none

/-- Operations that change memory; calls. -/
abbrev Cll := Nat → List AV → St → Option (AV × St)
noncomputable def eSt (sz : Nat) (_ : Cll) (S : St) : List AV → Option (AV × St)
  | [.p (some a), v] => match v.cellsOf with
    | some l =>
      bif Nat.beq l.length sz then match wrCells S.h a l with
        | some h => some (.bad, { S with h := h })
        | none => none
      else none
    | none => none
  | _ => none
noncomputable def eMset (_ : Cll) (S : St) : List AV → Option (AV × St)
  | [.m (some r), .i k n, v] => match S.h.get r with
    | some (.map es) => match msetL k n v es with
      | some es => some (.bad, { S with h := S.h.set r (some (.map es)) })
      | none => none
    | _ => none
  | _ => none
noncomputable def eMdel (_ : Cll) (S : St) : List AV → Option (AV × St)
  | [.m none, .i _ _] => some (.bad, S)
  | [.m (some r), .i k n] => match S.h.get r with
    | some (.map es) => match mdelL k n es with
      | some es => some (.bad, { S with h := S.h.set r (some (.map es)) })
      | none => none
    | _ => none
  | _ => none
noncomputable def eApp (size bytes : Nat) (_ : Cll) (S : St) : List AV → Option (AV × St)
  | [.sl a len cap ex, .sl b n _ _] =>
    match rdCells S.h b (n * size) with
    | some new => bif new.all AV.one then appV size bytes S a len cap ex n new else none
    | none => none
  | _ => none
noncomputable def eClr (z : List AV) (_ : Cll) (S : St) : List AV → Option (AV × St)
  | [.sl a n _ _] =>
    bif Nat.beq n 0 then some (.bad, S) else
    match a with
    | some a => match wrCells S.h a (reps z n) with
      | some h => some (.bad, { S with h := h })
      | none => none
    | none => none
  | _ => none
noncomputable def eCpy (size : Nat) (_ : Cll) (S : St) : List AV → Option (AV × St)
  | [.sl a dl _ _, .sl b sl _ _] =>
    match rdCells S.h b (Nat.min sl dl * size) with
    | some vs => bif Nat.beq (Nat.min sl dl) 0 then some (.i .i64 0, S) else
      match a with
      | some a => match wrCells S.h a vs with
        | some h => some (.i .i64 (.ofNat (Nat.min sl dl)), { S with h := h })
        | none => none
      | none => none
    | none => none
  | _ => none
def eCall (f : Nat) (call : Cll) (S : St) (vs : List AV) : Option (AV × St) := call f vs S
def eCallv (call : Cll) (S : St) : List AV → Option (AV × St)
  | .fn f fst cap :: vs => call f (fst ++ vs ++ cap) S
  | _ => none
def eNone (_ : Cll) (_ : St) (_ : List AV) : Option (AV × St) := none
noncomputable def semE : AOp → Cll → St → List AV → Option (AV × St)
  | .st sz => eSt sz
  | .mset => eMset
  | .mdel => eMdel
  | .app size bytes => eApp size bytes
  | .clr z => eClr z
  | .cpy size => eCpy size
  | .call f => eCall f
  | .callv => eCallv
  | _ => eNone

inductive Cl where
  | R | A | E
def AOp.cl : AOp → Cl
  | .alloc _ | .box | .bslice .. | .mksl .. | .mkmap => .A
  | .st _ | .mset | .mdel | .app .. | .clr _ | .cpy _ | .call _ | .callv => .E
  | _ => .R

/-- the variables that live on; the statement's temporaries, the last one first -/
structure Tm where
  l : List (Nat × AV)
  r : List (Nat × AV)
  deriving Inhabited
noncomputable def aget (l : List (Nat × AV)) : Nat → AV :=
  List.rec (motive := fun _ => Nat → AV) (fun _ => .bad) (fun p _ ih n => bif Nat.beq p.1 n then p.2 else ih n) l
noncomputable def aput (n : Nat) (v : AV) (l : List (Nat × AV)) : List (Nat × AV) :=
  List.rec (motive := fun _ => List (Nat × AV)) [(n, v)] (fun p r ih => bif Nat.beq p.1 n then (p.1, v) :: r else p :: ih) l
theorem aget_nil (n : Nat) : aget [] n = .bad := rfl
theorem aget_cons (k : Nat) (v : AV) (r : List (Nat × AV)) (n : Nat) : aget ((k, v) :: r) n = bif Nat.beq k n then v else aget r n := rfl
theorem aput_nil (n : Nat) (v : AV) : aput n v [] = [(n, v)] := rfl
theorem aput_cons (n : Nat) (v : AV) (k : Nat) (u : AV) (r : List (Nat × AV)) : aput n v ((k, u) :: r) = bif Nat.beq k n then (k, v) :: r else (k, u) :: aput n v r := rfl
noncomputable def Opd.ev (T : Tm) : Opd → AV
  | .l n => aget T.l n
  | .t n => aget T.r n
  | .c v => v
noncomputable def evs (T : Tm) (l : List Opd) : List AV := List.rec (motive := fun _ => List AV) [] (fun x _ ih => x.ev T :: ih) l
theorem evs_nil (T : Tm) : evs T [] = [] := rfl
theorem evs_cons (T : Tm) (x : Opd) (r : List Opd) : evs T (x :: r) = x.ev T :: evs T r := rfl
noncomputable def Tm.put (T : Tm) (v : AV) : Dst → Tm
  | .no => T
  | .l n => { T with l := aput n v T.l }
  | .t n => { T with r := (n, v) :: T.r }

def opR (f : PM AB → List AV → Option AV) (_ : Cll) (S : St) (vs : List AV) : Option (AV × St) :=
  match f S.h vs with
  | some v => some (v, S)
  | none => none
noncomputable def opA (f : Nat → List AV → Option (AB × AV)) (_ : Cll) (S : St) (vs : List AV) : Option (AV × St) :=
  match f S.nx vs with
  | some (blk, v) => some (v, { h := S.h.set S.nx (some blk), nx := S.nx + 1 })
  | none => none
noncomputable def semOp (o : AOp) : Cll → St → List AV → Option (AV × St) :=
  match o.cl with
  | .R => opR (semR o)
  | .A => opA (semA o)
  | .E => semE o

/-- is the operation carried out? -/
noncomputable def wants (T : Tm) : Option (Opd × Bool) → Option Bool
  | none => some true
  | some (t, w) => match t.ev T with
    | .b x => some (x == w)
    | .bad => none
    | _ => some false

noncomputable def step1 (call : Cll) (o : Op1) (T : Tm) (S : St) : Option (Tm × St) :=
  match wants T o.gd with
  | some true =>
    match semOp o.op call S (evs T o.args) with
    | some (v, S') => some (T.put v o.dst, S')
    | none => none
  | some false => some (T.put (.tup []) o.dst, S)
  | none => none

noncomputable def runOps (call : Cll) (l : List Op1) : Tm → St → Option (Tm × St) :=
  List.rec (motive := fun _ => Tm → St → Option (Tm × St)) (fun T S => some (T, S)) (fun o _ ih T S => match step1 call o T S with
    | some (T', S') => ih T' S'
    | none => none) l
theorem runOps_nil (call : Cll) (T : Tm) (S : St) : runOps call [] T S = some (T, S) := rfl
theorem runOps_cons (call : Cll) (o : Op1) (r : List Op1) (T : Tm) (S : St) : runOps call (o :: r) T S = match step1 call o T S with
    | some (T', S') => runOps call r T' S'
    | none => none := rfl

/-- all states on the way -/
noncomputable def trace (call : Cll) : List Op1 → Tm → St → Option (List (Tm × St))
  | [], T, S => some [(T, S)]
  | o :: r, T, S => match step1 call o T S with
    | some (T', S') => (trace call r T' S').map ((T, S) :: ·)
    | none => none

def bopEq : BinOp → BinOp → Bool
  | .add, .add | .sub, .sub | .mul, .mul | .quo, .quo | .rem, .rem | .and, .and | .or, .or | .xor, .xor | .andNot, .andNot | .shl, .shl | .shr, .shr => true
  | _, _ => false
mutual
def At.beq : At → At → Bool
  | .v n, .v m => Nat.beq n m
  | .op o k a b, .op p j c d => bopEq o p && kEq k j && Ln.beq a c && Ln.beq b d
  | .wr k a, .wr j b => kEq k j && Ln.beq a b
  | _, _ => false
def Ln.beq : Ln → Ln → Bool
  | .c n, .c m => iEq n m
  | .t m a r, .t n b s => iEq m n && At.beq a b && Ln.beq r s
  | _, _ => false
end
/-- the same value, of one cell -/
def same1 : AV → AV → Bool
  | .s x, .s y => bytesEq x y
  | .nilf, .nilf => true
  | .nili, .nili => true
  | .x j e, .x k f => kEq j k && Ln.beq e f
  | .b x, .b y => x == y
  | .i j x, .i k y => kEq j k && iEq x y
  | .p none, .p none => true
  | .p (some (a, i)), .p (some (b, j)) => Nat.beq a b && Nat.beq i j
  | .sl none l c e, .sl none m d f => Nat.beq l m && Nat.beq c d && Nat.beq e f
  | .sl (some (a, i)) l c e, .sl (some (b, j)) m d f => Nat.beq a b && Nat.beq i j && Nat.beq l m && Nat.beq c d && Nat.beq e f
  | .m none, .m none => true
  | .m (some a), .m (some b) => Nat.beq a b
  | _, _ => false

def sameL : List AV → List AV → Bool
  | [], [] => true
  | x :: r, y :: q => same1 x y && sameL r q
  | _, _ => false
/-- the same value -/
def sameV : AV → AV → Bool
  | .agg x, .agg y => sameL x y
  | x, y => same1 x y

noncomputable def again (ops : List Op1) (tr : List (Tm × St)) (c : Nat × Nat) : Bool :=
  match ops[c.1]?, tr[c.1]?, tr[c.2]? with
  | some o, some (T, S), some (_, S') =>
    match wants T o.gd with
    | some true =>
      match semR o.op S.h (evs T o.args), semR o.op S'.h (evs T o.args) with
      | some v, some v' => sameV v v'
      | _, _ => false
    | some false => true
    | none => false
  | _, _, _ => false

def lastOf : List (Tm × St) → Option (Tm × St)
  | [] => none
  | [x] => some x
  | _ :: r => lastOf r

def initL : List AV → Nat → List (Nat × AV)
  | [], _ => []
  | v :: r, n => (n, v) :: initL r (Nat.succ n)
def initT (vs : List AV) : Tm := ⟨initL vs 0, []⟩

noncomputable def resOne (T : Tm) (h : PM AB) : ResV → Option AV
  | .tmp t => some (t.ev T)
  | .cell t sz => match t.ev T with
    | .p (some a) => rdAt h a sz
    | _ => none
noncomputable def resL (T : Tm) (h : PM AB) : List ResV → Option (List AV)
  | [] => some []
  | r :: rs => match resOne T h r with
    | some v => (resL T h rs).map (v :: ·)
    | none => none
noncomputable def resV (T : Tm) (h : PM AB) (rs : List ResV) : Option AV :=
  match resL T h rs with
  | some [v] => some v
  | some vs => some (.tup vs)
  | none => none

abbrev Ec := ACode → Tm → St → Option (Ex × Tm × St)
noncomputable def callOf (F : Nat → Option AFn) (E : Ec) : Cll := fun f vs S =>
  match F f with
  | none => none
  | some fn => match E fn.body (initT vs) S with
    | some (.norm, T', S') | some (.ret, T', S') => (resV T' S'.h fn.res).map fun v => (v, S')
    | _ => none
noncomputable def xReg (call : Cll) (ops : List Op1) (T : Tm) (S : St) : Option (Ex × Tm × St) :=
  match runOps call ops { T with r := [] } S with
  | some (T', S') => some (.norm, T', S')
  | none => none
noncomputable def xRegD (call : Cll) (ops : List Op1) (chk : List (Nat × Nat)) (T : Tm) (S : St) : Option (Ex × Tm × St) :=
  match trace call ops { T with r := [] } S with
  | some tr => bif chk.all (again ops tr) then (lastOf tr).map fun (T', S') => (.norm, T', S') else none
  | none => none
noncomputable def xSeq (E : Ec) (a b : ACode) (T : Tm) (S : St) : Option (Ex × Tm × St) :=
  match E a T S with
  | some (.norm, T', S') => E b T' S'
  | r => r
noncomputable def xCond (E : Ec) (c : Opd) (x y : ACode) (T : Tm) (S : St) : Option (Ex × Tm × St) :=
  match c.ev T with
  | .b true => E x T S
  | .b false => E y T S
  | _ => none
noncomputable def xBlock (E : Ec) (id : Nat) (c : ACode) (T : Tm) (S : St) : Option (Ex × Tm × St) :=
  match E c T S with
  | some (.ex j, T', S') => bif Nat.beq j id then some (.norm, T', S') else some (.ex j, T', S')
  | r => r
noncomputable def xLoop (E : Ec) (c : ACode) (T : Tm) (S : St) : Option (Ex × Tm × St) :=
  match E c T S with
  | some (.norm, T', S') => E (.loop c) T' S'
  | r => r
noncomputable def exec1 (F : Nat → Option AFn) (E : Ec) : Ec
  | .skip => fun T S => some (.norm, T, S)
  | .reg ops => xReg (callOf F E) ops
  | .regD ops chk => xRegD (callOf F E) ops chk
  | .seq a b => xSeq E a b
  | .cond c x y => xCond E c x y
  | .block id c => xBlock E id c
  | .loop c => xLoop E c
  | .exit id => fun T S => some (.ex id, T, S)
  | .ret => fun T S => some (.ret, T, S)
noncomputable def exec (F : Nat → Option AFn) (n : Nat) : Ec := Nat.rec (motive := fun _ => Ec) (fun _ _ _ => none) (fun _ E => exec1 F E) n

noncomputable def acall (F : Nat → Option AFn) (n : Nat) : Cll := callOf F (exec F n)
end Go.AM
