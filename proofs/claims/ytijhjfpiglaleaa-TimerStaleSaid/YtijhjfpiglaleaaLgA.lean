/- Logical memory: what a part of memory holds, by the name of its first block; the code's weakest preconditions over it. Plain definitions. -/
import Derived.Test.YtijhjfpiglaleaaAmS
set_option linter.unusedVariables false
namespace Go.AM

abbrev Hp := Nat → Option AB
/-- what is known at a name: a block as it stands; or something that is hidden, of which the named block is the first -/
inductive LC where
  | raw (x : AB)
  | abs (P : Hp → Prop)
abbrev Lg := Nat → Option LC
def Lg.put (L : Lg) (n : Nat) (c : LC) : Lg := fun m => if m = n then some c else L m
def Lg.del (L : Lg) (n : Nat) : Lg := fun m => if m = n then none else L m
/-- M, and behind it L -/
def Lg.over (M L : Lg) : Lg := fun b => match M b with | some c => some c | none => L b
/-- L without what M speaks of -/
def Lg.minus (L M : Lg) : Lg := fun b => match M b with | some _ => none | none => L b
def Lg.nil : Lg := fun _ => none

def partOk : Option LC → Nat → Hp → Prop
  | none, _, p => ∀ b, p b = none
  | some (.raw x), r, p => p r = some x ∧ ∀ b, b ≠ r → p b = none
  | some (.abs P), r, p => P p ∧ ∃ cs, p r = some (.cells cs)
def Parts (L : Lg) (p : Nat → Hp) : Prop := (∀ r, partOk (L r) r (p r)) ∧ ∀ r s b, r ≠ s → p r b = none ∨ p s b = none
def Sat (L : Lg) (h : Hp) : Prop := ∃ p, Parts L p ∧ ∀ b x, h b = some x ↔ ∃ r, p r b = some x
def Mod (S : St) (L : Lg) : Prop := ∃ h, Sat L h ∧ ∀ b x, h b = some x → S.h.get b = some x ∧ b < S.nx

def rdL (L : Lg) (a : Nat × Nat) (sz : Option Nat) : Option AV :=
  match L a.1 with
  | some (.raw blk) => match blk.read with
    | some c => look c a.2 sz
    | none => none
  | _ => none
def rdCellsL (L : Lg) (a : Option (Nat × Nat)) (n : Nat) : Option (List AV) :=
  match a with
  | none => if n = 0 then some [] else none
  | some (r, o) => match L r with
    | some (.raw blk) => match blk.read with
      | some c => cut c o n
      | none => none
    | _ => none
def liveL (L : Lg) (r : Nat) : Bool :=
  match L r with
  | some (.raw (.cells _)) => true
  | some (.abs _) => true
  | _ => false
def wrL (L : Lg) (a : Nat × Nat) (vs : List AV) : Option Lg :=
  match L a.1 with
  | some (.raw (.cells c)) => if a.2 + vs.length ≤ c.length ∧ vs.all AV.one = true then some (L.put a.1 (.raw (.cells (splice c a.2 vs)))) else none
  | _ => none
def eqPL (L : Lg) : Option (Nat × Nat) → Option (Nat × Nat) → Option Bool
  | none, none => some true
  | none, some _ => some false
  | some _, none => some false
  | some (a, i), some (b, j) => if a = b then some (decide (i = j)) else if liveL L a = true ∧ liveL L b = true then some false else none
noncomputable def rEqL (ng : Bool) (k : EqK) (L : Lg) : List AV → Option AV
  | [.p x, .p y] => match k with
    | .ptr => (eqPL L x y).map fun r => .b (r != ng)
    | k => rEq ng k .nil [.p x, .p y]
  | vs => rEq ng k .nil vs
def rLdL (sz : Option Nat) (L : Lg) : List AV → Option AV
  | [.p (some a)] => rdL L a sz
  | _ => none
def rLkupL (z : AV) (ok : Bool) (L : Lg) : List AV → Option AV
  | [.m none, .i _ _] => some (if ok = true then .tup [z, .b false] else z)
  | [.m (some r), .i k n] => match L r with
    | some (.raw (.map es)) => match mfind k n es with
      | some (some v) => some (if ok = true then .tup [v, .b true] else v)
      | some none => some (if ok = true then .tup [z, .b false] else z)
      | none => none
    | _ => none
  | _ => none
def rMlenL (L : Lg) : List AV → Option AV
  | [.m none] => some (.i .i64 0)
  | [.m (some r)] => match L r with
    | some (.raw (.map es)) => some (.i .i64 es.length)
    | _ => none
  | _ => none
noncomputable def semRL : AOp → Lg → List AV → Option AV
  | .ld sz, L, vs => rLdL sz L vs
  | .lkup z ok, L, vs => rLkupL z ok L vs
  | .mlen, L, vs => rMlenL L vs
  | .eq ng k, L, vs => rEqL ng k L vs
  | o, _, vs => semR o .nil vs

def retL (r : Option AV) (L : Lg) (k : AV → Lg → Prop) : Prop :=
  match r with
  | some v => k v L
  | none => False
def newL (f : Nat → List AV → Option (AB × AV)) (vs : List AV) (L : Lg) (k : AV → Lg → Prop) : Prop :=
  ∀ b, L b = none → match f b vs with
    | some (x, v) => k v (L.put b (.raw x))
    | none => False

/-- a call: from whatever is so, it ends, and what is behind is so -/
def CallL (F : Nat → Option AFn) (f : Nat) (vs : List AV) (L : Lg) (Q : AV → Lg → Prop) : Prop :=
  ∀ S, Mod S L → ∃ n v S', acall F n f vs S = some (v, S') ∧ ∃ L', Mod S' L' ∧ Q v L'

def stL (sz : Nat) (L : Lg) (k : AV → Lg → Prop) : List AV → Prop
  | [.p (some a), v] => match v.cellsOf with
    | some l => if l.length = sz then match wrL L a l with
      | some L' => k .bad L'
      | none => False
      else False
    | none => False
  | _ => False
def msetW (L : Lg) (k : AV → Lg → Prop) : List AV → Prop
  | [.m (some r), .i j n, v] => match L r with
    | some (.raw (.map es)) => match msetL j n v es with
      | some es => k .bad (L.put r (.raw (.map es)))
      | none => False
    | _ => False
  | _ => False
def mdelW (L : Lg) (k : AV → Lg → Prop) : List AV → Prop
  | [.m none, .i _ _] => k .bad L
  | [.m (some r), .i j n] => match L r with
    | some (.raw (.map es)) => match mdelL j n es with
      | some es => k .bad (L.put r (.raw (.map es)))
      | none => False
    | _ => False
  | _ => False
def goneL (L : Lg) (a : Option (Nat × Nat)) (ex size : Nat) : Option Lg :=
  if ex = 0 then some L else if ex = size then match a with
    | some (r, _) => match L r with
      | some (.raw (.cells _)) => some (L.del r)
      | _ => none
    | none => none
  else none
def appL (size bytes : Nat) (L : Lg) (a : Option (Nat × Nat)) (len cap ex n : Nat) (new : List AV) (k : AV → Lg → Prop) : Prop :=
  if len + n ≤ cap then
    match a with
    | none => k (.sl none (len + n) cap ex) L
    | some (r, o) => if n = 0 then k (.sl (some (r, o)) len cap ex) L else
      match wrL L (r, o + len * size) new with
      | some L' => k (.sl (some (r, o)) (len + n) cap ex) L'
      | none => False
  else (len + n) * bytes ≤ 70368744177664 ∧
    match rdCellsL L a (len * size), goneL L a ex size with
    | some old, some L' => ∀ b, L b = none → k (.sl (some (b, 0)) (len + n) (len + n) size) (L'.put b (.raw (.cells (old ++ new))))
    | _, _ => False
def appW (size bytes : Nat) (L : Lg) (k : AV → Lg → Prop) : List AV → Prop
  | [.sl a len cap ex, .sl b n _ _] => match rdCellsL L b (n * size) with
    | some new => new.all AV.one = true ∧ appL size bytes L a len cap ex n new k
    | none => False
  | _ => False
def clrW (z : List AV) (L : Lg) (k : AV → Lg → Prop) : List AV → Prop
  | [.sl a n _ _] => if n = 0 then k .bad L else match a with
    | some a => match wrL L a (reps z n) with
      | some L' => k .bad L'
      | none => False
    | none => False
  | _ => False
def cpyW (size : Nat) (L : Lg) (k : AV → Lg → Prop) : List AV → Prop
  | [.sl a dl _ _, .sl b sl _ _] => match rdCellsL L b (Nat.min sl dl * size) with
    | some vs => if Nat.min sl dl = 0 then k (.i .i64 0) L else match a with
      | some a => match wrL L a vs with
        | some L' => k (.i .i64 (Nat.min sl dl : Nat)) L'
        | none => False
      | none => False
    | none => False
  | _ => False
def callvW (F : Nat → Option AFn) (L : Lg) (k : AV → Lg → Prop) : List AV → Prop
  | .fn f fst cap :: vs => CallL F f (fst ++ vs ++ cap) L k
  | _ => False

noncomputable def wpOp (F : Nat → Option AFn) (o : AOp) (vs : List AV) (L : Lg) (k : AV → Lg → Prop) : Prop :=
  match o with
  | .alloc z => newL (aAlloc z) vs L k
  | .box => newL aBox vs L k
  | .bslice z len size ps => newL (aBslice z len size ps) vs L k
  | .mksl z bytes => newL (aMksl z bytes) vs L k
  | .mkmap => newL aMkmap vs L k
  | .st sz => stL sz L k vs
  | .mset => msetW L k vs
  | .mdel => mdelW L k vs
  | .app size bytes => appW size bytes L k vs
  | .clr z => clrW z L k vs
  | .cpy size => cpyW size L k vs
  | .call f => CallL F f vs L k
  | .callv => callvW F L k vs
  | o => retL (semRL o L vs) L k

/-! ### variables as functions -/
abbrev Env := Nat → AV
def Env.put (l : Env) (n : Nat) (v : AV) : Env := fun m => bif Nat.beq n m then v else l m
def Env.nil : Env := fun _ => .bad
def evO (l t : Env) : Opd → AV
  | .l n => l n
  | .t n => t n
  | .c v => v
noncomputable def evsO (l t : Env) (as : List Opd) : List AV := List.rec (motive := fun _ => List AV) [] (fun x _ ih => evO l t x :: ih) as
def putL (l : Env) (d : Dst) (v : AV) : Env := match d with
  | .l n => l.put n v
  | _ => l
def putT (t : Env) (d : Dst) (v : AV) : Env := match d with
  | .t n => t.put n v
  | _ => t
noncomputable def initE (vs : List AV) : Nat → Env := List.rec (motive := fun _ => Nat → Env) (fun _ => Env.nil) (fun v _ ih i => (ih (Nat.succ i)).put i v) vs

/-- an operation that is carried out if so -/
noncomputable def gdOp (F : Nat → Option AFn) (v : AV) (w : Bool) (o : AOp) (vs : List AV) (L : Lg) (k : AV → Lg → Prop) : Prop :=
  match v with
  | .b x => (x = w → wpOp F o vs L k) ∧ (x = (!w) → k (.tup []) L)
  | .bad => False
  | _ => k (.tup []) L
noncomputable def wpOp1 (F : Nat → Option AFn) (o : Op1) (l t : Env) (L : Lg) (k : AV → Lg → Prop) : Prop :=
  match o with
  | ⟨_, none, .mv, [x]⟩ => k (evO l t x) L
  | ⟨_, none, op, args⟩ => wpOp F op (evsO l t args) L k
  | ⟨_, some (c, w), op, args⟩ => gdOp F (evO l t c) w op (evsO l t args) L k
def condW (v : AV) (X Y : Prop) : Prop :=
  match v with
  | .b x => (x = true → X) ∧ (x = false → Y)
  | _ => False

noncomputable def wpOps (F : Nat → Option AFn) (ops : List Op1) : Env → Env → Lg → (Env → Env → Lg → Prop) → Prop :=
  List.rec (motive := fun _ => Env → Env → Lg → (Env → Env → Lg → Prop) → Prop) (fun l t L k => k l t L)
    (fun o _ ih l t L k => wpOp1 F o l t L fun v L' => ih (putL l o.dst v) (putT t o.dst v) L' k) ops

/-- what is looked at again reads the same -/
noncomputable def againV (o : AOp) (vs : List AV) (L L' : Lg) : Prop :=
  match semRL o L vs, semRL o L' vs with
  | some v, some v' => sameV v v' = true
  | _, _ => False
def againG (v : AV) (w : Bool) (P : Prop) : Prop := match v with
  | .b x => x = w → P
  | .bad => False
  | _ => True
noncomputable def againL (ops : List Op1) (tr : List (Env × Env × Lg)) (c : Nat × Nat) : Prop :=
  match ops[c.1]?, tr[c.1]?, tr[c.2]? with
  | some o, some (l, t, L), some (_, _, L') =>
    match o.gd with
    | none => againV o.op (evsO l t o.args) L L'
    | some (g, w) => againG (evO l t g) w (againV o.op (evsO l t o.args) L L')
  | _, _, _ => False
noncomputable def againA (ops : List Op1) (tr : List (Env × Env × Lg)) : List (Nat × Nat) → Prop
  | [] => True
  | c :: r => againL ops tr c ∧ againA ops tr r
noncomputable def wpOpsD (F : Nat → Option AFn) (ops : List Op1) (chk : List (Nat × Nat)) (rest : List Op1) : List (Env × Env × Lg) → Env → Env → Lg → (Env → Env → Lg → Prop) → Prop :=
  List.rec (motive := fun _ => List (Env × Env × Lg) → Env → Env → Lg → (Env → Env → Lg → Prop) → Prop) (fun tr l t L k => againA ops (tr ++ [(l, t, L)]) chk ∧ k l t L)
    (fun o _ ih tr l t L k => wpOp1 F o l t L fun v L' => ih (tr ++ [(l, t, L)]) (putL l o.dst v) (putT t o.dst v) L' k) rest

abbrev Kn := Env → Env → Lg → Prop
/-- a loop, by an invariant that has a measure -/
def loopW (B : Env → Env → Lg → (Env → Lg → Prop) → Prop) (l : Env) (L : Lg) : Prop :=
  ∃ I : Nat → Env → Lg → Prop, (∃ n, I n l L) ∧ ∀ n l t L, I n l L → B l t L (fun l L => ∃ m, m < n ∧ I m l L)
noncomputable def wp (F : Nat → Option AFn) (c : ACode) : Env → Env → Lg → Kn → (Nat → Kn) → Kn → Prop :=
  ACode.rec (motive := fun _ => Env → Env → Lg → Kn → (Nat → Kn) → Kn → Prop)
    (fun l t L k _ _ => k l t L)
    (fun ops l _ L k _ _ => wpOps F ops l Env.nil L k)
    (fun ops chk l _ L k _ _ => wpOpsD F ops chk ops [] l Env.nil L k)
    (fun _ _ a b l t L k ke kr => a l t L (fun l t L => b l t L k ke kr) ke kr)
    (fun c _ _ x y l t L k ke kr => condW (evO l t c) (x l t L k ke kr) (y l t L k ke kr))
    (fun id _ c l t L k ke kr => c l t L k (fun j l t L => bif Nat.beq j id then k l t L else ke j l t L) kr)
    (fun _ c l t L _ ke kr => loopW (fun l t L k => c l t L (fun l _ L => k l L) ke kr) l L)
    (fun id l t L _ ke _ => ke id l t L)
    (fun l t L _ _ kr => kr l t L) c

def resOneL (l t : Env) (L : Lg) : ResV → Option AV
  | .tmp x => some (evO l t x)
  | .cell x sz => match evO l t x with
    | .p (some a) => rdL L a sz
    | _ => none
def resLL (l t : Env) (L : Lg) : List ResV → Option (List AV)
  | [] => some []
  | r :: rs => match resOneL l t L r with
    | some v => (resLL l t L rs).map (v :: ·)
    | none => none
def resVL (l t : Env) (L : Lg) (rs : List ResV) : Option AV :=
  match resLL l t L rs with
  | some [v] => some v
  | some vs => some (.tup vs)
  | none => none

/-- another way to see the same memory -/
def Sees (L L' : Lg) : Prop := ∀ S, Mod S L → Mod S L'
end Go.AM
