/- The texts SnA, SnB, SnQ, LhP, LhD, LhE, LhR, SnR of a proof of ProgNames, merged. -/
import Derived.Test.YtkfcecaoaplfkaaDoorNmG1
import Derived.KernelRfl
import Derived.ChangeSlices
import Derived.WideShapes
import Derived.ChangeOld
import Derived.Carry
/- The strict machine: the abstract machine by continuations, each value worked out before it is handed on; true if what is asked for at the end is so. What is taken apart is taken apart by closed terms, which the kernel need not copy. -/
set_option linter.unusedVariables false
namespace Go.AM
section
variable {α : Type}
noncomputable def fN : Nat → (Nat → α) → α := @Nat.rec (fun _ => (Nat → α) → α) (fun k => k 0) (fun m _ k => k (Nat.succ m))
theorem fN_eq (n : Nat) (k : Nat → α) : fN n k = k n := by cases n <;> rfl
noncomputable def fI : Int → (Int → α) → α := @Int.rec (fun _ => (Int → α) → α) (fun m k => fN m fun m => k (.ofNat m)) (fun m k => fN m fun m => k (.negSucc m))
theorem fI_eq (n : Int) (k : Int → α) : fI n k = k n := by
  cases n with
  | ofNat m => exact fN_eq m fun m => k (.ofNat m)
  | negSucc m => exact fN_eq m fun m => k (.negSucc m)
noncomputable def fA : Option (Nat × Nat) → (Option (Nat × Nat) → α) → α := @Option.rec (Nat × Nat) (fun _ => (Option (Nat × Nat) → α) → α) (fun k => k none) (@Prod.rec Nat Nat (fun _ => (Option (Nat × Nat) → α) → α) (fun r o k => fN r fun r => fN o fun o => k (some (r, o))))
theorem fA_eq (a : Option (Nat × Nat)) (k : Option (Nat × Nat) → α) : fA a k = k a := by
  rcases a with _ | ⟨r, o⟩
  · rfl
  · show (fN r fun r => fN o fun o => k (some (r, o))) = _
    simp only [fN_eq]
/-- a value of one cell -/
noncomputable def fV : AV → (AV → α) → α := @AV.rec (fun _ => (AV → α) → α) (fun _ => (AV → α) → α) (fun x => Bool.rec (motive := fun _ => (AV → α) → α) (fun k => k (.b false)) (fun k => k (.b true)) x) (fun i n k => fI n fun n => k (.i i n)) (fun k e q => q (.x k e)) (fun x q => q (.s x)) (fun a k => fA a fun a => k (.p a)) (fun a l c e k => fA a fun a => fN l fun l => fN c fun c => fN e fun e => k (.sl a l c e)) (fun r => Option.rec (motive := fun _ => (AV → α) → α) (fun k => k (.m none)) (fun r k => fN r fun r => k (.m (some r))) r) (fun f u w _ _ q => q (.fn f u w)) (fun q => q .nilf) (fun t v _ q => q (.ifc t v)) (fun q => q .nili) (fun l _ q => q (.agg l)) (fun l _ q => q (.tup l)) (fun q => q .bad) (fun k => k .bad) (fun _ _ _ _ k => k .bad)
theorem fV_eq (v : AV) (k : AV → α) : fV v k = k v := by
  cases v with
  | b x => cases x <;> rfl
  | i j n => exact fI_eq n fun n => k (.i j n)
  | p a => exact fA_eq a fun a => k (.p a)
  | sl a l c e =>
    show (fA a fun a => fN l fun l => fN c fun c => fN e fun e => k (.sl a l c e)) = _
    simp only [fA_eq, fN_eq]
  | m r => cases r with
    | none => rfl
    | some r => exact fN_eq r fun r => k (.m (some r))
  | _ => rfl
noncomputable def fL : List AV → (List AV → α) → α := @List.rec AV (fun _ => (List AV → α) → α) (fun k => k []) (fun a _ ih k => fV a fun a => ih fun r => k (a :: r))
theorem fL_eq : ∀ (l : List AV) (k : List AV → α), fL l k = k l
  | [], _ => rfl
  | a :: r, k => by
    show fV a (fun a => fL r fun r => k (a :: r)) = _
    rw [fV_eq, fL_eq r]
noncomputable def fW : AV → (AV → α) → α := @AV.rec (fun _ => (AV → α) → α) (fun _ => (AV → α) → α) (fun x => fV (.b x)) (fun k n => fV (.i k n)) (fun k e => fV (.x k e)) (fun x => fV (.s x)) (fun a => fV (.p a)) (fun a l c e => fV (.sl a l c e)) (fun r => fV (.m r)) (fun f u w _ _ => fV (.fn f u w)) (fV .nilf) (fun t v _ => fV (.ifc t v)) (fV .nili) (fun l _ k => fL l fun l => k (.agg l)) (fun l _ k => fL l fun l => k (.tup l)) (fV .bad) (fun k => k .bad) (fun _ _ _ _ k => k .bad)
theorem fW_eq (v : AV) (k : AV → α) : fW v k = k v := by
  cases v with
  | agg l => exact fL_eq l fun l => k (.agg l)
  | tup l => exact fL_eq l fun l => k (.tup l)
  | b x => exact fV_eq (.b x) k
  | i i n => exact fV_eq (.i i n) k
  | x i e => exact fV_eq (.x i e) k
  | s x => exact fV_eq (.s x) k
  | p a => exact fV_eq (.p a) k
  | sl a l c e => exact fV_eq (.sl a l c e) k
  | m r => exact fV_eq (.m r) k
  | fn f u w => exact fV_eq (.fn f u w) k
  | nilf => exact fV_eq (.nilf) k
  | ifc t v => exact fV_eq (.ifc t v) k
  | nili => exact fV_eq (.nili) k
  | bad => exact fV_eq (.bad) k
noncomputable def fB : AB → (AB → α) → α := @AB.rec (fun _ => (AB → α) → α) (fun c k => fL c fun c => k (.cells c)) (fun c k => k (.ro c)) (fun es k => k (.map es))
theorem fB_eq (b : AB) (k : AB → α) : fB b k = k b := by
  cases b with
  | cells c => exact fL_eq c fun c => k (.cells c)
  | _ => rfl
/-- memory -/
noncomputable def hput (v : Option AB) : Nat → PM AB → Nat → (PM AB → α) → α :=
  @Nat.rec (fun _ => PM AB → Nat → (PM AB → α) → α) (fun t _ k => k t) (fun _ ih =>
    @PM.rec AB (fun _ => Nat → (PM AB → α) → α)
      (fun n k => Bool.rec (motive := fun _ => α) (Bool.rec (motive := fun _ => α) (fN (Nat.sub (Nat.div n 2) 1) fun n => ih .nil n fun r => k (.node none .nil r)) (fN (Nat.div n 2) fun n => ih .nil n fun l => k (.node none l .nil)) (Nat.beq (Nat.mod n 2) 1)) (k (.node v .nil .nil)) (Nat.beq n 0))
      (fun u l r _ _ n k => Bool.rec (motive := fun _ => α) (Bool.rec (motive := fun _ => α) (fN (Nat.sub (Nat.div n 2) 1) fun n => ih r n fun r' => k (.node u l r')) (fN (Nat.div n 2) fun n => ih l n fun l' => k (.node u l' r)) (Nat.beq (Nat.mod n 2) 1)) (k (.node v l r)) (Nat.beq n 0)))
theorem mkL_eq {β : Type} (u : Option β) (l r : PM β) : PM.mkL u l r = .node u l r := by cases l <;> rfl
theorem mkR_eq {β : Type} (u : Option β) (l r : PM β) : PM.mkR u l r = .node u l r := by cases r <;> rfl
theorem hput_eq (v : Option AB) : ∀ (f : Nat) (t : PM AB) (n : Nat) (k : PM AB → α), hput v f t n k = k (PM.put v f t n)
  | 0, _, _, _ => rfl
  | f + 1, t, n, k => by
    cases t with
    | nil =>
      show Bool.rec (motive := fun _ => α) (Bool.rec (motive := fun _ => α) (fN (Nat.sub (Nat.div n 2) 1) fun n => hput v f .nil n fun r => k (.node none .nil r)) (fN (Nat.div n 2) fun n => hput v f .nil n fun l => k (.node none l .nil)) (Nat.beq (Nat.mod n 2) 1)) (k (.node v .nil .nil)) (Nat.beq n 0) =
        k (bif Nat.beq n 0 then .node v .nil .nil else bif Nat.beq (Nat.mod n 2) 1 then PM.mkL none (PM.put v f .nil (Nat.div n 2)) .nil else PM.mkR none .nil (PM.put v f .nil (Nat.sub (Nat.div n 2) 1)))
      rw [fN_eq, fN_eq, hput_eq v f, hput_eq v f, mkL_eq, mkR_eq]
      cases Nat.beq n 0 <;> cases Nat.beq (Nat.mod n 2) 1 <;> rfl
    | node u l r =>
      show Bool.rec (motive := fun _ => α) (Bool.rec (motive := fun _ => α) (fN (Nat.sub (Nat.div n 2) 1) fun n => hput v f r n fun r' => k (.node u l r')) (fN (Nat.div n 2) fun n => hput v f l n fun l' => k (.node u l' r)) (Nat.beq (Nat.mod n 2) 1)) (k (.node v l r)) (Nat.beq n 0) =
        k (bif Nat.beq n 0 then .node v l r else bif Nat.beq (Nat.mod n 2) 1 then PM.mkL u (PM.put v f l (Nat.div n 2)) r else PM.mkR u l (PM.put v f r (Nat.sub (Nat.div n 2) 1)))
      rw [fN_eq, fN_eq, hput_eq v f, hput_eq v f, mkL_eq, mkR_eq]
      cases Nat.beq n 0 <;> cases Nat.beq (Nat.mod n 2) 1 <;> rfl
noncomputable def hset (t : PM AB) (n : Nat) (v : Option AB) (k : PM AB → α) : α := hput v (Nat.succ n) t n k
theorem hset_eq (t : PM AB) (n : Nat) (v : Option AB) (k : PM AB → α) : hset t n v k = k (t.set n v) := hput_eq v (n + 1) t n k
noncomputable def lget (l : List AV) (d : α) : Nat → (AV → α) → α :=
  List.rec (motive := fun _ => Nat → (AV → α) → α) (fun _ _ => d) (fun a _ ih n k => Nat.rec (motive := fun _ => α) (k a) (fun m _ => ih m k) n) l
theorem lget_eq (d : α) : ∀ (l : List AV) (n : Nat) (k : AV → α), lget l d n k = match l[n]? with | some v => k v | none => d
  | [], n, k => by simp [lget]
  | a :: r, 0, k => rfl
  | a :: r, n + 1, k => by
    show lget r d n k = _
    rw [lget_eq d r n k]; simp
/-- cells that are written over others -/
noncomputable def lspl (c : List AV) (d : α) : Nat → List AV → (List AV → α) → α :=
  List.rec (motive := fun _ => Nat → List AV → (List AV → α) → α) (fun _ vs k => List.rec (motive := fun _ => α) (k []) (fun _ _ _ => d) vs)
    (fun a r ih n vs k => Nat.rec (motive := fun _ => α) (List.rec (motive := fun _ => α) (k (a :: r)) (fun v vs _ => ih 0 vs fun t => k (v :: t)) vs) (fun m _ => ih m vs fun t => k (a :: t)) n) c
theorem lspl_eq (d : α) : ∀ (c : List AV) (n : Nat) (vs : List AV) (k : List AV → α), n ≤ c.length → lspl c d n vs k = bif Nat.ble (n + vs.length) c.length then k (splice c n vs) else d
  | [], n, [], k, h => by
    have : n = 0 := by simpa using h
    subst this; rfl
  | [], n, v :: vs, k, h => by
    have : Nat.ble (n + (v :: vs).length) ([] : List AV).length = false := by simp [ble_nat]
    rw [this]; rfl
  | a :: r, 0, [], k, h => by
    have : Nat.ble (0 + ([] : List AV).length) (a :: r).length = true := by simp [ble_nat]
    rw [this]; rfl
  | a :: r, 0, v :: vs, k, h => by
    show lspl r d 0 vs (fun t => k (v :: t)) = _
    rw [lspl_eq d r 0 vs _ (Nat.zero_le _)]
    have : Nat.ble (0 + (v :: vs).length) (a :: r).length = Nat.ble (0 + vs.length) r.length := by simp [ble_nat]
    rw [this]; simp [splice]
  | a :: r, n + 1, vs, k, h => by
    show lspl r d n vs (fun t => k (a :: t)) = _
    rw [lspl_eq d r n vs _ (by simpa using h)]
    have : Nat.ble (n + 1 + vs.length) (a :: r).length = Nat.ble (n + vs.length) r.length := by
      rw [ble_nat, ble_nat]; congr 1; simp; omega
    rw [this]
    have e : n + 1 + vs.length = (n + vs.length) + 1 := by omega
    simp [splice, e]
/-- cells behind others -/
noncomputable def lcat (c : List AV) : List AV → (List AV → α) → α := List.rec (motive := fun _ => List AV → (List AV → α) → α) (fun b k => fL b k) (fun a _ ih b k => ih b fun t => k (a :: t)) c
theorem lcat_eq : ∀ (c b : List AV) (k : List AV → α), lcat c b k = k (c ++ b)
  | [], b, k => fL_eq b k
  | a :: r, b, k => by
    show lcat r b (fun t => k (a :: t)) = _
    rw [lcat_eq r b]; rfl
noncomputable def lhead (c : List AV) (d : α) : Nat → (List AV → α) → α := List.rec (motive := fun _ => Nat → (List AV → α) → α) (fun n k => Nat.rec (motive := fun _ => α) (k []) (fun _ _ => d) n) (fun a _ ih n k => Nat.rec (motive := fun _ => α) (k []) (fun m _ => ih m fun t => k (a :: t)) n) c
theorem lhead_eq (d : α) : ∀ (c : List AV) (n : Nat) (k : List AV → α), lhead c d n k = bif Nat.ble n c.length then k (c.take n) else d
  | [], 0, k => rfl
  | [], n + 1, k => by
    have : Nat.ble (n + 1) ([] : List AV).length = false := by simp [ble_nat]
    rw [this]; rfl
  | a :: r, 0, k => rfl
  | a :: r, n + 1, k => by
    show lhead r d n (fun t => k (a :: t)) = _
    rw [lhead_eq d r n]
    have : Nat.ble (n + 1) (a :: r).length = Nat.ble n r.length := by simp [ble_nat]
    rw [this]; rfl
noncomputable def lsub (c : List AV) (d : α) : Nat → Nat → (List AV → α) → α := List.rec (motive := fun _ => Nat → Nat → (List AV → α) → α) (fun o n k => Nat.rec (motive := fun _ => α) (lhead [] d n k) (fun _ _ => d) o) (fun a r ih o n k => Nat.rec (motive := fun _ => α) (lhead (a :: r) d n k) (fun m _ => ih m n k) o) c
theorem lsub_eq (d : α) : ∀ (c : List AV) (o n : Nat) (k : List AV → α), lsub c d o n k = bif Nat.ble (o + n) c.length then k ((c.drop o).take n) else d
  | [], 0, n, k => by
    show lhead [] d n k = _
    rw [lhead_eq]; simp
  | [], o + 1, n, k => by
    have : Nat.ble (o + 1 + n) ([] : List AV).length = false := by simp [ble_nat]
    rw [this]; rfl
  | a :: r, 0, n, k => by
    show lhead (a :: r) d n k = _
    rw [lhead_eq]; simp
  | a :: r, o + 1, n, k => by
    show lsub r d o n k = _
    rw [lsub_eq d r o n]
    have : Nat.ble (o + 1 + n) (a :: r).length = Nat.ble (o + n) r.length := by
      rw [ble_nat, ble_nat]; congr 1; simp; omega
    rw [this]; rfl
noncomputable def sget (l : List UInt8) (d : α) : Nat → (UInt8 → α) → α :=
  List.rec (motive := fun _ => Nat → (UInt8 → α) → α) (fun _ _ => d) (fun a _ ih n k => Nat.rec (motive := fun _ => α) (k a) (fun m _ => ih m k) n) l
theorem sget_eq (d : α) : ∀ (l : List UInt8) (n : Nat) (k : UInt8 → α), sget l d n k = match l[n]? with | some v => k v | none => d
  | [], n, k => by simp [sget]
  | a :: r, 0, k => rfl
  | a :: r, n + 1, k => by
    show sget r d n k = _
    rw [sget_eq d r n k]; simp
end
/-- a truth -/
noncomputable def vB : AV → (Bool → Prop) → Prop := @AV.rec (fun _ => (Bool → Prop) → Prop) (fun _ => (Bool → Prop) → Prop) (fun x q => q x) (fun _ _ _ => False) (fun _ _ _ => False) (fun _ _ => False) (fun _ _ => False) (fun _ _ _ _ _ => False) (fun _ _ => False) (fun _ _ _ _ _ _ => False) (fun _ => False) (fun _ _ _ _ => False) (fun _ => False) (fun _ _ _ => False) (fun _ _ _ => False) (fun _ => False) (fun _ => False) (fun _ _ _ _ _ => False)
theorem vB_eq (v : AV) (q : Bool → Prop) : vB v q = match v with | .b x => q x | _ => False := by cases v <;> rfl
/-- a number -/
noncomputable def vI : AV → (IntKind → Int → Prop) → Prop := @AV.rec (fun _ => (IntKind → Int → Prop) → Prop) (fun _ => (IntKind → Int → Prop) → Prop) (fun _ _ => False) (fun k n q => q k n) (fun _ _ _ => False) (fun _ _ => False) (fun _ _ => False) (fun _ _ _ _ _ => False) (fun _ _ => False) (fun _ _ _ _ _ _ => False) (fun _ => False) (fun _ _ _ _ => False) (fun _ => False) (fun _ _ _ => False) (fun _ _ _ => False) (fun _ => False) (fun _ => False) (fun _ _ _ _ _ => False)
theorem vI_eq (v : AV) (q : IntKind → Int → Prop) : vI v q = match v with | .i k n => q k n | _ => False := by cases v <;> rfl
/-- a string -/
noncomputable def vS : AV → (List UInt8 → Prop) → Prop := @AV.rec (fun _ => (List UInt8 → Prop) → Prop) (fun _ => (List UInt8 → Prop) → Prop) (fun _ _ => False) (fun _ _ _ => False) (fun _ _ _ => False) (fun x q => q x) (fun _ _ => False) (fun _ _ _ _ _ => False) (fun _ _ => False) (fun _ _ _ _ _ _ => False) (fun _ => False) (fun _ _ _ _ => False) (fun _ => False) (fun _ _ _ => False) (fun _ _ _ => False) (fun _ => False) (fun _ => False) (fun _ _ _ _ _ => False)
theorem vS_eq (v : AV) (q : List UInt8 → Prop) : vS v q = match v with | .s x => q x | _ => False := by cases v <;> rfl
/-- an address -/
noncomputable def vP : AV → (Option (Nat × Nat) → Prop) → Prop := @AV.rec (fun _ => (Option (Nat × Nat) → Prop) → Prop) (fun _ => (Option (Nat × Nat) → Prop) → Prop) (fun _ _ => False) (fun _ _ _ => False) (fun _ _ _ => False) (fun _ _ => False) (fun a q => q a) (fun _ _ _ _ _ => False) (fun _ _ => False) (fun _ _ _ _ _ _ => False) (fun _ => False) (fun _ _ _ _ => False) (fun _ => False) (fun _ _ _ => False) (fun _ _ _ => False) (fun _ => False) (fun _ => False) (fun _ _ _ _ _ => False)
theorem vP_eq (v : AV) (q : Option (Nat × Nat) → Prop) : vP v q = match v with | .p a => q a | _ => False := by cases v <;> rfl
/-- a slice -/
noncomputable def vL : AV → (Option (Nat × Nat) → Nat → Nat → Nat → Prop) → Prop := @AV.rec (fun _ => (Option (Nat × Nat) → Nat → Nat → Nat → Prop) → Prop) (fun _ => (Option (Nat × Nat) → Nat → Nat → Nat → Prop) → Prop) (fun _ _ => False) (fun _ _ _ => False) (fun _ _ _ => False) (fun _ _ => False) (fun _ _ => False) (fun a l c e q => q a l c e) (fun _ _ => False) (fun _ _ _ _ _ _ => False) (fun _ => False) (fun _ _ _ _ => False) (fun _ => False) (fun _ _ _ => False) (fun _ _ _ => False) (fun _ => False) (fun _ => False) (fun _ _ _ _ _ => False)
theorem vL_eq (v : AV) (q : Option (Nat × Nat) → Nat → Nat → Nat → Prop) : vL v q = match v with | .sl a l c e => q a l c e | _ => False := by cases v <;> rfl
/-- a row -/
noncomputable def vT : AV → (List AV → Prop) → Prop := @AV.rec (fun _ => (List AV → Prop) → Prop) (fun _ => (List AV → Prop) → Prop) (fun _ _ => False) (fun _ _ _ => False) (fun _ _ _ => False) (fun _ _ => False) (fun _ _ => False) (fun _ _ _ _ _ => False) (fun _ _ => False) (fun _ _ _ _ _ _ => False) (fun _ => False) (fun _ _ _ _ => False) (fun _ => False) (fun _ _ _ => False) (fun l _ q => q l) (fun _ => False) (fun _ => False) (fun _ _ _ _ _ => False)
theorem vT_eq (v : AV) (q : List AV → Prop) : vT v q = match v with | .tup l => q l | _ => False := by cases v <;> rfl
/-- a struct -/
noncomputable def vG : AV → (List AV → Prop) → Prop := @AV.rec (fun _ => (List AV → Prop) → Prop) (fun _ => (List AV → Prop) → Prop) (fun _ _ => False) (fun _ _ _ => False) (fun _ _ _ => False) (fun _ _ => False) (fun _ _ => False) (fun _ _ _ _ _ => False) (fun _ _ => False) (fun _ _ _ _ _ _ => False) (fun _ => False) (fun _ _ _ _ => False) (fun _ => False) (fun l _ q => q l) (fun _ _ _ => False) (fun _ => False) (fun _ => False) (fun _ _ _ _ _ => False)
theorem vG_eq (v : AV) (q : List AV → Prop) : vG v q = match v with | .agg l => q l | _ => False := by cases v <;> rfl
/-- a function -/
noncomputable def vF : AV → (Nat → List AV → List AV → Prop) → Prop := @AV.rec (fun _ => (Nat → List AV → List AV → Prop) → Prop) (fun _ => (Nat → List AV → List AV → Prop) → Prop) (fun _ _ => False) (fun _ _ _ => False) (fun _ _ _ => False) (fun _ _ => False) (fun _ _ => False) (fun _ _ _ _ _ => False) (fun _ _ => False) (fun f u w _ _ q => q f u w) (fun _ => False) (fun _ _ _ _ => False) (fun _ => False) (fun _ _ _ => False) (fun _ _ _ => False) (fun _ => False) (fun _ => False) (fun _ _ _ _ _ => False)
theorem vF_eq (v : AV) (q : Nat → List AV → List AV → Prop) : vF v q = match v with | .fn f u w => q f u w | _ => False := by cases v <;> rfl
noncomputable def vC : AV → (List AV → Prop) → Prop := @AV.rec (fun _ => (List AV → Prop) → Prop) (fun _ => (List AV → Prop) → Prop) (fun x q => q [.b x]) (fun k n q => q [.i k n]) (fun k e q => q [.x k e]) (fun x q => q [.s x]) (fun a q => q [.p a]) (fun a l c e q => q [.sl a l c e]) (fun r q => q [.m r]) (fun f u w _ _ q => q [.fn f u w]) (fun q => q [.nilf]) (fun t v _ q => q [.ifc t v]) (fun q => q [.nili]) (fun l _ k => Bool.rec (motive := fun _ => Prop) False (k l) (l.all AV.one)) (fun _ _ _ => False) (fun _ => False) (fun _ => False) (fun _ _ _ _ _ => False)
theorem vC_eq (v : AV) (f : List AV → Prop) : vC v f = match v.cellsOf with | some l => f l | none => False := by
  cases v <;> try rfl
  rename_i l
  show Bool.rec (motive := fun _ => Prop) False (f l) (l.all AV.one) = match (bif l.all AV.one then some l else none) with | some l => f l | none => False
  cases l.all AV.one <;> rfl
/-- an address that is one -/
noncomputable def oP : Option (Nat × Nat) → (Nat → Nat → Prop) → Prop := @Option.rec (Nat × Nat) (fun _ => (Nat → Nat → Prop) → Prop) (fun _ => False) (@Prod.rec Nat Nat (fun _ => (Nat → Nat → Prop) → Prop) (fun r o f => f r o))
/-- a row of values -/
noncomputable abbrev lc : List AV → (AV → List AV → Prop) → Prop := @List.rec AV (fun _ => (AV → List AV → Prop) → Prop) (fun _ => False) (fun a r _ f => f a r)
noncomputable abbrev ln : List AV → Prop → Prop := @List.rec AV (fun _ => Prop → Prop) (fun p => p) (fun _ _ _ _ => False)
noncomputable abbrev l1 (f : AV → Prop) (vs : List AV) : Prop := lc vs fun x r => ln r (f x)
noncomputable abbrev l2 (f : AV → AV → Prop) (vs : List AV) : Prop := lc vs fun x r => lc r fun y r => ln r (f x y)
noncomputable abbrev l3 (f : AV → AV → AV → Prop) (vs : List AV) : Prop := lc vs fun x r => lc r fun y r => lc r fun z r => ln r (f x y z)
theorem l1_eq (f : AV → Prop) (vs : List AV) : l1 f vs = match vs with | [x] => f x | _ => False := by rcases vs with _ | ⟨x, _ | ⟨y, r⟩⟩ <;> rfl
theorem l2_eq (f : AV → AV → Prop) (vs : List AV) : l2 f vs = match vs with | [x, y] => f x y | _ => False := by rcases vs with _ | ⟨x, _ | ⟨y, _ | ⟨z, r⟩⟩⟩ <;> rfl
theorem l3_eq (f : AV → AV → AV → Prop) (vs : List AV) : l3 f vs = match vs with | [x, y, z] => f x y z | _ => False := by rcases vs with _ | ⟨x, _ | ⟨y, _ | ⟨z, _ | ⟨u, r⟩⟩⟩⟩ <;> rfl
/-- what is read of a block; what is written -/
noncomputable def aR : Option AB → (List AV → Prop) → Prop := @Option.rec AB (fun _ => (List AV → Prop) → Prop) (fun _ => False) (@AB.rec (fun _ => (List AV → Prop) → Prop) (fun c f => f c) (fun c f => f c) (fun _ _ => False))
noncomputable def aW : Option AB → (List AV → Prop) → Prop := @Option.rec AB (fun _ => (List AV → Prop) → Prop) (fun _ => False) (@AB.rec (fun _ => (List AV → Prop) → Prop) (fun c f => f c) (fun _ _ => False) (fun _ _ => False))
noncomputable def hget : PM AB → Nat → (Option AB → Prop) → Prop := @PM.rec AB (fun _ => Nat → (Option AB → Prop) → Prop) (fun _ f => f none) (fun v _ _ l r n f => Bool.rec (motive := fun _ => Prop) (Bool.rec (motive := fun _ => Prop) (fN (Nat.sub (Nat.div n 2) 1) fun n => r n f) (fN (Nat.div n 2) fun n => l n f) (Nat.beq (Nat.mod n 2) 1)) (f v) (Nat.beq n 0))
theorem hget_eq : ∀ (t : PM AB) (n : Nat) (f : Option AB → Prop), hget t n f = f (t.get n)
  | .nil, n, f => rfl
  | .node v l r, n, f => by
    show Bool.rec (motive := fun _ => Prop) (Bool.rec (motive := fun _ => Prop) (fN (Nat.sub (Nat.div n 2) 1) fun n => hget r n f) (fN (Nat.div n 2) fun n => hget l n f) (Nat.beq (Nat.mod n 2) 1)) (f v) (Nat.beq n 0) = f (bif Nat.beq n 0 then v else bif Nat.beq (Nat.mod n 2) 1 then l.get (Nat.div n 2) else r.get (Nat.sub (Nat.div n 2) 1))
    rw [fN_eq, fN_eq, hget_eq l, hget_eq r]
    cases Nat.beq n 0 <;> cases Nat.beq (Nat.mod n 2) 1 <;> rfl
/-- two kinds of numbers that are one -/
def kYes (p : Prop) : Prop := p
def kNo (p : Prop) : Prop := False
noncomputable def kk : IntKind → IntKind → Prop → Prop := @IntKind.rec (fun _ => IntKind → Prop → Prop) (@IntKind.rec (fun _ => Prop → Prop) kYes kNo kNo kNo kNo kNo kNo kNo) (@IntKind.rec (fun _ => Prop → Prop) kNo kYes kNo kNo kNo kNo kNo kNo) (@IntKind.rec (fun _ => Prop → Prop) kNo kNo kYes kNo kNo kNo kNo kNo) (@IntKind.rec (fun _ => Prop → Prop) kNo kNo kNo kYes kNo kNo kNo kNo) (@IntKind.rec (fun _ => Prop → Prop) kNo kNo kNo kNo kYes kNo kNo kNo) (@IntKind.rec (fun _ => Prop → Prop) kNo kNo kNo kNo kNo kYes kNo kNo) (@IntKind.rec (fun _ => Prop → Prop) kNo kNo kNo kNo kNo kNo kYes kNo) (@IntKind.rec (fun _ => Prop → Prop) kNo kNo kNo kNo kNo kNo kNo kYes)
theorem kk_eq (i j : IntKind) (p : Prop) : kk i j p = bif kEq i j then p else False := by cases i <;> cases j <;> rfl
abbrev KS := AV → St → Prop
abbrev CS := Nat → List AV → St → KS → Prop
/-- an operation: what the abstract machine makes of it is handed on -/
noncomputable def sR (o : AOp) (vs : List AV) (S : St) (k : KS) : Prop := match semR o S.h vs with | some v => fW v fun v => k v S | none => False
noncomputable def sAl (o : AOp) (vs : List AV) (S : St) (k : KS) : Prop := match semA o S.nx vs with
  | some (blk, v) => fB blk fun blk => fV v fun v => hset S.h S.nx (some blk) fun h => fN (S.nx + 1) fun nx => k v ⟨h, nx⟩
  | none => False
noncomputable def sE (o : AOp) (vs : List AV) (S : St) (k : KS) : Prop := match semE o (fun _ _ _ => none) S vs with | some (v, S') => k v S' | none => False
theorem sR_eq (o : AOp) (vs : List AV) (S : St) (k : KS) : sR o vs S k = match semR o S.h vs with | some v => k v S | none => False := by
  unfold sR
  split
  · rw [fW_eq]
  · rfl
theorem sAl_eq (o : AOp) (vs : List AV) (S : St) (k : KS) : sAl o vs S k = match opA (semA o) (fun _ _ _ => none) S vs with | some (v, S') => k v S' | none => False := by
  unfold sAl opA
  cases semA o S.nx vs with
  | none => rfl
  | some p => simp only [fB_eq, fV_eq, hset_eq, fN_eq]
/-! ### an address -/
noncomputable def bNil (x : AV) (S : St) (k : KS) : Prop := @AV.rec (fun _ => St → KS → Prop) (fun _ => St → KS → Prop) (fun x => sR .nilchk [.b x]) (fun i a => sR .nilchk [.i i a]) (fun i a => sR .nilchk [.x i a]) (fun x => sR .nilchk [.s x])
  (@Option.rec (Nat × Nat) (fun _ => St → KS → Prop) (fun _ _ => False) (fun a S k => k (.p (some a)) S)) (fun a l c e => sR .nilchk [.sl a l c e]) (fun r => sR .nilchk [.m r]) (fun f u w _ _ => sR .nilchk [.fn f u w]) (sR .nilchk [.nilf]) (fun t v _ => sR .nilchk [.ifc t v]) (sR .nilchk [.nili]) (fun l _ => sR .nilchk [.agg l]) (fun l _ => sR .nilchk [.tup l]) (sR .nilchk [.bad]) (fun _ _ => False) (fun _ _ _ _ _ _ => False) x S k
noncomputable def sNil (vs : List AV) (S : St) (k : KS) : Prop := l1 (fun x => bNil x S k) vs
noncomputable def bFad (off : Nat) (x : AV) (S : St) (k : KS) : Prop := vP x fun a => oP a fun n o => fN (Nat.add o off) fun o => k (.p (some (n, o))) S
noncomputable def sFad (off : Nat) (vs : List AV) (S : St) (k : KS) : Prop := l1 (fun x => bFad off x S k) vs
noncomputable def bLd (x : AV) (S : St) (k : KS) : Prop := vP x fun a => oP a fun r o => hget S.h r fun b => aR b fun c => lget c False o fun v => k v S
noncomputable def sLd (vs : List AV) (S : St) (k : KS) : Prop := l1 (fun x => bLd x S k) vs
noncomputable def bLdN (n : Nat) (x : AV) (S : St) (k : KS) : Prop := vP x fun a => oP a fun r o => hget S.h r fun b => aR b fun c => lsub c False o n fun l => k (.agg l) S
noncomputable def sLdN (n : Nat) (vs : List AV) (S : St) (k : KS) : Prop := l1 (fun x => bLdN n x S k) vs
noncomputable def wrK (h : PM AB) (r o : Nat) (vs : List AV) (k : PM AB → Prop) : Prop := hget h r fun b => aW b fun c => Bool.rec (motive := fun _ => Prop) False (lspl c False o vs fun c => hset h r (some (.cells c)) k) (Nat.ble o c.length)
noncomputable def bSt (sz : Nat) (x v : AV) (S : St) (k : KS) : Prop := vP x fun a => oP a fun r o => vC v fun l => Bool.rec (motive := fun _ => Prop) False (wrK S.h r o l fun h => k .bad ⟨h, S.nx⟩) (Nat.beq l.length sz)
noncomputable def sSt (sz : Nat) (vs : List AV) (S : St) (k : KS) : Prop := l2 (fun x y => bSt sz x y S k) vs
theorem sNil_eq (vs : List AV) (S : St) (k : KS) : sNil vs S k = match semR .nilchk S.h vs with | some v => k v S | none => False := by
  rw [← sR_eq]
  rcases vs with _ | ⟨x, _ | ⟨y, r⟩⟩
  · rfl
  · cases x with
    | p a => cases a with
      | none => rfl
      | some a => exact (sR_eq .nilchk [.p (some a)] S k).symm
    | _ => rfl
  · cases x with
    | p a => cases a <;> rfl
    | _ => rfl
theorem sFad_eq (off : Nat) (vs : List AV) (S : St) (k : KS) : sFad off vs S k = match semR (.fad off) S.h vs with | some v => k v S | none => False := by
  rcases vs with _ | ⟨x, _ | ⟨y, r⟩⟩
  · rfl
  · cases x with
    | p a =>
      rcases a with _ | ⟨n, o⟩
      · rfl
      · exact fN_eq (o + off) fun o => k (.p (some (n, o))) S
    | _ => rfl
  · cases x with
    | p a => rcases a with _ | ⟨n, o⟩ <;> rfl
    | _ => rfl
theorem aR_eq (b : Option AB) (f : List AV → Prop) : aR b f = match b with | some b => (match b.read with | some c => f c | none => False) | none => False := by
  rcases b with _ | b
  · rfl
  · cases b <;> rfl
theorem sLd_eq (vs : List AV) (S : St) (k : KS) : sLd vs S k = match semR (.ld none) S.h vs with | some v => k v S | none => False := by
  rcases vs with _ | ⟨x, _ | ⟨y, r⟩⟩
  · rfl
  · cases x with
    | p a =>
      rcases a with _ | ⟨n, o⟩
      · rfl
      · show (hget S.h n fun b => aR b fun c => lget c False o fun v => k v S) = match rdAt S.h (n, o) none with | some v => k v S | none => False
        rw [hget_eq, aR_eq]
        simp only [rdAt]
        cases S.h.get n with
        | none => rfl
        | some b =>
          simp only []
          cases b.read with
          | none => rfl
          | some c => simp only [lget_eq, look]
    | _ => rfl
  · cases x with
    | p a => rcases a with _ | ⟨n, o⟩ <;> rfl
    | _ => rfl
theorem sLdN_eq (n : Nat) (vs : List AV) (S : St) (k : KS) : sLdN n vs S k = sR (.ld (some n)) vs S k := by
  rw [sR_eq]
  rcases vs with _ | ⟨x, _ | ⟨y, r⟩⟩
  · rfl
  · cases x with
    | p a =>
      rcases a with _ | ⟨m, o⟩
      · rfl
      · show (hget S.h m fun b => aR b fun c => lsub c False o n fun l => k (.agg l) S) = match rdAt S.h (m, o) (some n) with | some v => k v S | none => False
        rw [hget_eq, aR_eq]
        simp only [rdAt]
        cases S.h.get m with
        | none => rfl
        | some b =>
          simp only []
          cases b.read with
          | none => rfl
          | some c =>
            simp only [lsub_eq, look, Go.AM.cut]
            cases Nat.ble (o + n) c.length <;> rfl
    | _ => rfl
  · cases x with
    | p a => rcases a with _ | ⟨m, o⟩ <;> rfl
    | _ => rfl
theorem wrK_eq (h : PM AB) (r o : Nat) (vs : List AV) (hv : vs.all AV.one = true) (k : PM AB → Prop) : wrK h r o vs k = match wrCells h (r, o) vs with | some h => k h | none => False := by
  unfold wrK wrCells
  rw [hget_eq]
  simp only []
  cases h.get r with
  | none => rfl
  | some b => cases b with
    | cells c =>
      show Bool.rec (motive := fun _ => Prop) False (lspl c False o vs fun c => hset h r (some (.cells c)) k) (Nat.ble o c.length) = _
      simp only [hv, Bool.and_true]
      by_cases ho : o ≤ c.length
      · have h1 : Nat.ble o c.length = true := by rw [ble_nat]; simpa using ho
        rw [h1]
        show (lspl c False o vs fun c => hset h r (some (.cells c)) k) = _
        rw [lspl_eq False c o vs _ ho, hset_eq]
        cases Nat.ble (o + vs.length) c.length <;> rfl
      · have h1 : Nat.ble o c.length = false := by rw [ble_nat]; simpa using ho
        have h2 : Nat.ble (o + vs.length) c.length = false := by rw [ble_nat]; simp; omega
        simp only [h1, h2, cond_false]
    | _ => rfl
theorem sSt_eq (sz : Nat) (vs : List AV) (S : St) (k : KS) : sSt sz vs S k = sE (.st sz) vs S k := by
  rcases vs with _ | ⟨x, _ | ⟨v, _ | ⟨z, t⟩⟩⟩
  · rfl
  · cases x with
    | p a => rcases a with _ | ⟨n, o⟩ <;> rfl
    | _ => rfl
  · cases x with
    | p a =>
      rcases a with _ | ⟨r, o⟩
      · rfl
      · show (vC v fun l => Bool.rec (motive := fun _ => Prop) False (wrK S.h r o l fun h => k .bad ⟨h, S.nx⟩) (Nat.beq l.length sz)) = match eSt sz (fun _ _ _ => none) S [.p (some (r, o)), v] with | some (v, S') => k v S' | none => False
        rw [vC_eq]
        simp only [eSt]
        cases hc : v.cellsOf with
        | none => rfl
        | some l =>
          simp only []
          cases Nat.beq l.length sz with
          | false => rfl
          | true =>
            simp only [cond_true]
            rw [wrK_eq _ _ _ _ (cellsOf_one hc)]
            cases wrCells S.h (r, o) l <;> rfl
    | _ => rfl
  · cases x with
    | p a => rcases a with _ | ⟨n, o⟩ <;> rfl
    | _ => rfl
/-! ### slices that grow -/
noncomputable def rdK (h : PM AB) (a : Option (Nat × Nat)) (n : Nat) (k : List AV → Prop) : Prop := @Option.rec (Nat × Nat) (fun _ => Prop) (Bool.rec (motive := fun _ => Prop) False (k []) (Nat.beq n 0)) (fun a => hget h a.1 fun b => aR b fun c => lsub c False a.2 n k) a
theorem rdK_eq (h : PM AB) (a : Option (Nat × Nat)) (n : Nat) (k : List AV → Prop) : rdK h a n k = match rdCells h a n with | some l => k l | none => False := by
  rcases a with _ | ⟨r, o⟩
  · show Bool.rec (motive := fun _ => Prop) False (k []) (Nat.beq n 0) = match (bif Nat.beq n 0 then some [] else none) with | some l => k l | none => False
    cases Nat.beq n 0 <;> rfl
  · show (hget h r fun b => aR b fun c => lsub c False o n k) = _
    rw [hget_eq, aR_eq]
    simp only [rdCells]
    cases h.get r with
    | none => rfl
    | some b =>
      simp only []
      cases b.read with
      | none => rfl
      | some c =>
        simp only [lsub_eq, Go.AM.cut]
        cases Nat.ble (o + n) c.length <;> rfl
noncomputable def goneK (h : PM AB) (a : Option (Nat × Nat)) (ex size : Nat) (k : PM AB → Prop) : Prop :=
  bif Nat.beq ex 0 then k h else bif Nat.beq ex size then match a with
    | some (r, _) => bif live h r then hset h r none k else False
    | none => False
  else False
theorem goneK_eq (h : PM AB) (a : Option (Nat × Nat)) (ex size : Nat) (k : PM AB → Prop) : goneK h a ex size k = match gone h a ex size with | some h => k h | none => False := by
  unfold goneK gone
  cases Nat.beq ex 0 with
  | true => rfl
  | false =>
    simp only [cond_false]
    cases Nat.beq ex size with
    | false => rfl
    | true =>
      simp only [cond_true]
      rcases a with _ | ⟨r, o⟩
      · rfl
      · simp only []
        cases live h r with
        | false => rfl
        | true => simp only [cond_true, hset_eq]
noncomputable def appK (size bytes : Nat) (S : St) (k : KS) (a : Option (Nat × Nat)) (len cap ex n : Nat) (new : List AV) : Prop :=
  Bool.rec (motive := fun _ => Prop) False (Bool.rec (motive := fun _ => Prop)
    (Bool.rec (motive := fun _ => Prop) False (rdK S.h a (Nat.mul len size) fun old => goneK S.h a ex size fun h => lcat old new fun cs => hset h S.nx (some (.cells cs)) fun h => fN (Nat.add len n) fun m => fN (Nat.succ S.nx) fun nx => k (.sl (some (S.nx, 0)) m m size) ⟨h, nx⟩) (Nat.ble (Nat.mul (Nat.add len n) bytes) 70368744177664))
    (@Option.rec (Nat × Nat) (fun _ => Prop) (fN (Nat.add len n) fun m => k (.sl none m cap ex) S) (fun a => Bool.rec (motive := fun _ => Prop) (wrK S.h a.1 (Nat.add a.2 (Nat.mul len size)) new fun h => fN (Nat.add len n) fun m => k (.sl (some (a.1, a.2)) m cap ex) ⟨h, S.nx⟩) (k (.sl (some (a.1, a.2)) len cap ex) S) (Nat.beq n 0)) a)
    (Nat.ble (Nat.add len n) cap)) (new.all AV.one)
noncomputable def bApp (size bytes : Nat) (x y : AV) (S : St) (k : KS) : Prop := vL x fun a len cap ex => vL y fun b n _ _ => rdK S.h b (Nat.mul n size) fun new => appK size bytes S k a len cap ex n new
noncomputable def sApp (size bytes : Nat) (vs : List AV) (S : St) (k : KS) : Prop := l2 (fun x y => bApp size bytes x y S k) vs
theorem appK_eq (size bytes : Nat) (S : St) (k : KS) (a : Option (Nat × Nat)) (len cap ex n : Nat) (new : List AV) : appK size bytes S k a len cap ex n new = match (bif new.all AV.one then appV size bytes S a len cap ex n new else none) with | some (v, S') => k v S' | none => False := by
  unfold appK
  cases hn : new.all AV.one with
  | false => rfl
  | true =>
    show Bool.rec (motive := fun _ => Prop) _ _ (Nat.ble (len + n) cap) = match appV size bytes S a len cap ex n new with | some (v, S') => k v S' | none => False
    unfold appV
    cases hcap : Nat.ble (len + n) cap with
    | true =>
      rcases a with _ | ⟨r, o⟩
      · exact fN_eq (len + n) fun m => k (.sl none m cap ex) S
      · simp only [cond_true]
        cases hb : Nat.beq n 0 with
        | true => rfl
        | false =>
          simp only [cond_false]
          show (wrK S.h r (o + len * size) new fun h => fN (len + n) fun m => k (.sl (some (r, o)) m cap ex) ⟨h, S.nx⟩) = _
          rw [wrK_eq _ _ _ _ hn]
          cases wrCells S.h (r, o + len * size) new with
          | none => rfl
          | some h => simp only [fN_eq]
    | false =>
      simp only [cond_false]
      show Bool.rec (motive := fun _ => Prop) False (rdK S.h a (len * size) fun old => goneK S.h a ex size fun h => lcat old new fun cs => hset h S.nx (some (.cells cs)) fun h => fN (len + n) fun m => fN (S.nx + 1) fun nx => k (.sl (some (S.nx, 0)) m m size) ⟨h, nx⟩) (Nat.ble ((len + n) * bytes) 70368744177664) = _
      cases Nat.ble ((len + n) * bytes) 70368744177664 with
      | false => rfl
      | true =>
        simp only [cond_true]
        rw [rdK_eq]
        cases rdCells S.h a (len * size) with
        | none => rfl
        | some old =>
          simp only [goneK_eq, lcat_eq, hset_eq, fN_eq]
          cases gone S.h a ex size <;> rfl
theorem sApp_eq (size bytes : Nat) (vs : List AV) (S : St) (k : KS) : sApp size bytes vs S k = sE (.app size bytes) vs S k := by
  rcases vs with _ | ⟨x, _ | ⟨y, _ | ⟨z, t⟩⟩⟩
  · rfl
  · cases x <;> rfl
  · cases x with
    | sl a len cap ex => cases y with
      | sl b n c e =>
        show (rdK S.h b (n * size) fun new => appK size bytes S k a len cap ex n new) = match eApp size bytes (fun _ _ _ => none) S [.sl a len cap ex, .sl b n c e] with | some (v, S') => k v S' | none => False
        rw [rdK_eq]
        simp only [eApp]
        cases rdCells S.h b (n * size) with
        | none => rfl
        | some new => exact appK_eq size bytes S k a len cap ex n new
      | _ => rfl
    | _ => rfl
  · cases x with
    | sl a len cap ex => cases y <;> rfl
    | _ => rfl
noncomputable def bCpy (size : Nat) (x y : AV) (S : St) (k : KS) : Prop := vL x fun a dl _ _ => vL y fun b sl _ _ => fN (Nat.min sl dl) fun m => rdK S.h b (Nat.mul m size) fun vs => Bool.rec (motive := fun _ => Prop) (oP a fun r o => Bool.rec (motive := fun _ => Prop) False (wrK S.h r o vs fun h => k (.i .i64 (.ofNat m)) ⟨h, S.nx⟩) (vs.all AV.one)) (k (.i .i64 0) S) (Nat.beq m 0)
noncomputable def sCpy (size : Nat) (vs : List AV) (S : St) (k : KS) : Prop := l2 (fun x y => bCpy size x y S k) vs
theorem wrCells_one {h : PM AB} {a : Nat × Nat} {vs : List AV} (hv : vs.all AV.one = false) : wrCells h a vs = none := by
  unfold wrCells
  split
  · simp only [hv, Bool.and_false, cond_false]
  · rfl
theorem sCpy_eq (size : Nat) (vs : List AV) (S : St) (k : KS) : sCpy size vs S k = sE (.cpy size) vs S k := by
  rcases vs with _ | ⟨x, _ | ⟨y, _ | ⟨z, t⟩⟩⟩
  · rfl
  · cases x <;> rfl
  · cases x with
    | sl a dl cap ex => cases y with
      | sl b sl c e =>
        show (fN (Nat.min sl dl) fun m => rdK S.h b (m * size) fun vs => Bool.rec (motive := fun _ => Prop) (oP a fun r o => Bool.rec (motive := fun _ => Prop) False (wrK S.h r o vs fun h => k (.i .i64 (.ofNat m)) ⟨h, S.nx⟩) (vs.all AV.one)) (k (.i .i64 0) S) (Nat.beq m 0)) = match eCpy size (fun _ _ _ => none) S [.sl a dl cap ex, .sl b sl c e] with | some (v, S') => k v S' | none => False
        rw [fN_eq, rdK_eq]
        simp only [eCpy]
        cases rdCells S.h b (Nat.min sl dl * size) with
        | none => rfl
        | some vs =>
          simp only []
          cases Nat.beq (Nat.min sl dl) 0 with
          | true => rfl
          | false =>
            simp only [cond_false]
            rcases a with _ | ⟨r, o⟩
            · rfl
            · show Bool.rec (motive := fun _ => Prop) False (wrK S.h r o vs fun h => k (.i .i64 (.ofNat (Nat.min sl dl))) ⟨h, S.nx⟩) (vs.all AV.one) = _
              cases hv : vs.all AV.one with
              | false => simp only [wrCells_one hv]
              | true =>
                simp only []
                rw [wrK_eq _ _ _ _ hv]
                cases wrCells S.h (r, o) vs <;> rfl
      | _ => rfl
    | _ => rfl
  · cases x with
    | sl a len cap ex => cases y <;> rfl
    | _ => rfl
/-! ### numbers -/
noncomputable def iN : Int → (Nat → Prop) → Prop → Prop := @Int.rec (fun _ => (Nat → Prop) → Prop → Prop) (fun m f _ => f m) (fun _ _ g => g)
noncomputable def ltR : Int → Int → Bool := @Int.rec (fun _ => Int → Bool) (fun m => @Int.rec (fun _ => Bool) (fun n => Nat.ble (Nat.succ m) n) (fun _ => false)) (fun m => @Int.rec (fun _ => Bool) (fun _ => true) (fun n => Nat.ble (Nat.succ n) m))
noncomputable def eqR : Int → Int → Bool := @Int.rec (fun _ => Int → Bool) (fun m => @Int.rec (fun _ => Bool) (fun n => Nat.beq m n) (fun _ => false)) (fun m => @Int.rec (fun _ => Bool) (fun _ => false) (fun n => Nat.beq n m))
theorem ltR_eq (a b : Int) : ltR a b = iLt a b := by cases a <;> cases b <;> rfl
theorem eqR_eq (a b : Int) : eqR a b = iEq a b := by cases a <;> cases b <;> rfl
noncomputable def bR (X Y : Prop) (b : Bool) : Prop := Bool.rec (motive := fun _ => Prop) Y X b
noncomputable def bLt (x y : AV) (S : St) (k : KS) : Prop := vI x fun i a => vI y fun j b => kk i j (bR (k (.b true) S) (k (.b false) S) (ltR a b))
noncomputable def bLe (x y : AV) (S : St) (k : KS) : Prop := vI x fun i a => vI y fun j b => kk i j (bR (k (.b false) S) (k (.b true) S) (ltR b a))
noncomputable def bGt (x y : AV) (S : St) (k : KS) : Prop := vI x fun i a => vI y fun j b => kk i j (bR (k (.b true) S) (k (.b false) S) (ltR b a))
noncomputable def bGe (x y : AV) (S : St) (k : KS) : Prop := vI x fun i a => vI y fun j b => kk i j (bR (k (.b false) S) (k (.b true) S) (ltR a b))
noncomputable def bEq (x y : AV) (S : St) (k : KS) : Prop := vI x fun i a => vI y fun j b => kk i j (bR (k (.b true) S) (k (.b false) S) (eqR a b))
noncomputable def bNe (x y : AV) (S : St) (k : KS) : Prop := vI x fun i a => vI y fun j b => kk i j (bR (k (.b false) S) (k (.b true) S) (eqR a b))
noncomputable def addG (i : IntKind) (a b : Int) (k : Int → Prop) : Prop := fI (wr i (a + b)) k
noncomputable def addF (a b : Int) (k : Int → Prop) : Prop := iN a (fun m => iN b (fun n => fN (Nat.add m n) fun s => bR (k (.ofNat s)) (addG .i64 a b k) (Nat.ble s 4611686018427387904)) (addG .i64 a b k)) (addG .i64 a b k)
noncomputable def addK : IntKind → Int → Int → (Int → Prop) → Prop := @IntKind.rec (fun _ => Int → Int → (Int → Prop) → Prop) (addG .i8) (addG .i16) (addG .i32) addF (addG .u8) (addG .u16) (addG .u32) (addG .u64)
noncomputable def subG (i : IntKind) (a b : Int) (k : Int → Prop) : Prop := fI (wr i (a - b)) k
noncomputable def subF (a b : Int) (k : Int → Prop) : Prop := iN a (fun m => iN b (fun n => bR (bR (fN (Nat.sub m n) fun s => k (.ofNat s)) (subG .i64 a b k) (Nat.ble n m)) (subG .i64 a b k) (Nat.ble m 4611686018427387904)) (subG .i64 a b k)) (subG .i64 a b k)
noncomputable def subK : IntKind → Int → Int → (Int → Prop) → Prop := @IntKind.rec (fun _ => Int → Int → (Int → Prop) → Prop) (subG .i8) (subG .i16) (subG .i32) subF (subG .u8) (subG .u16) (subG .u32) (subG .u64)
theorem fits_small (s : Nat) (h : Nat.ble s 4611686018427387904 = true) : wr .i64 (Int.ofNat s) = Int.ofNat s := by
  show (bif Nat.blt s 9223372036854775808 then Int.ofNat s else IntKind.wrap .i64 (Int.ofNat s)) = _
  have : Nat.blt s 9223372036854775808 = true := by
    rw [ble_nat] at h
    show Nat.ble (s + 1) 9223372036854775808 = true
    rw [ble_nat]
    simp at h ⊢
    omega
  rw [this]; rfl
theorem addK_eq (i : IntKind) (a b : Int) (k : Int → Prop) : addK i a b k = k (wr i (a + b)) := by
  have g : ∀ i, addG i a b k = k (wr i (a + b)) := fun i => fI_eq _ k
  cases i <;> try exact g _
  show addF a b k = _
  cases a with
  | negSucc m => exact g _
  | ofNat m => cases b with
    | negSucc n => exact g _
    | ofNat n =>
      show (fN (m + n) fun s => bR (k (.ofNat s)) (addG .i64 (.ofNat m) (.ofNat n) k) (Nat.ble s 4611686018427387904)) = _
      rw [fN_eq, g]
      have e : (Int.ofNat m + Int.ofNat n) = Int.ofNat (m + n) := rfl
      rw [e]
      cases h : Nat.ble (m + n) 4611686018427387904 with
      | false => rfl
      | true => rw [fits_small _ h]; rfl
theorem subK_eq (i : IntKind) (a b : Int) (k : Int → Prop) : subK i a b k = k (wr i (a - b)) := by
  have g : ∀ i, subG i a b k = k (wr i (a - b)) := fun i => fI_eq _ k
  cases i <;> try exact g _
  show subF a b k = _
  cases a with
  | negSucc m => exact g _
  | ofNat m => cases b with
    | negSucc n => exact g _
    | ofNat n =>
      show bR (bR (fN (m - n) fun s => k (.ofNat s)) (subG .i64 (.ofNat m) (.ofNat n) k) (Nat.ble n m)) (subG .i64 (.ofNat m) (.ofNat n) k) (Nat.ble m 4611686018427387904) = _
      rw [fN_eq, g]
      cases h : Nat.ble m 4611686018427387904 with
      | false => rfl
      | true => cases h2 : Nat.ble n m with
        | false => rfl
        | true =>
          have h3 : n ≤ m := by rw [ble_nat] at h2; simpa using h2
          have e : (Int.ofNat m - Int.ofNat n) = Int.ofNat (m - n) := (Int.ofNat_sub h3).symm
          have h4 : Nat.ble (m - n) 4611686018427387904 = true := by
            rw [ble_nat] at h ⊢
            simp at h ⊢
            omega
          rw [e, fits_small _ h4]; rfl
noncomputable def bAdd (x y : AV) (S : St) (k : KS) : Prop := vI x fun i a => vI y fun j b => kk i j (addK i a b fun n => k (.i i n) S)
noncomputable def bSub (x y : AV) (S : St) (k : KS) : Prop := vI x fun i a => vI y fun j b => kk i j (subK i a b fun n => k (.i i n) S)
noncomputable def sBin (op : BinOp) (vs : List AV) (S : St) (k : KS) : Prop := match op with
  | .add => l2 (fun x y => bAdd x y S k) vs
  | .sub => l2 (fun x y => bSub x y S k) vs
  | .lss => l2 (fun x y => bLt x y S k) vs
  | .leq => l2 (fun x y => bLe x y S k) vs
  | .gtr => l2 (fun x y => bGt x y S k) vs
  | .geq => l2 (fun x y => bGe x y S k) vs
  | .eql => l2 (fun x y => bEq x y S k) vs
  | .neq => l2 (fun x y => bNe x y S k) vs
  | op => sR (.bin op) vs S k
theorem two {op : BinOp} {B : AV → AV → St → KS → Prop} (S : St) (k : KS) (h0 : ∀ x y, (∀ i a, x ≠ .i i a) → B x y S k = False) (h1 : ∀ i a y, (∀ j b, y ≠ .i j b) → B (.i i a) y S k = False)
    (hs : isSh op = false) (h2 : ∀ i a j b, B (.i i a) (.i j b) S k = match (bif kEq i j then binI op i a b else none) with | some v => k v S | none => False) (vs : List AV) : l2 (fun x y => B x y S k) vs = sR (.bin op) vs S k := by
  rw [sR_eq]
  rcases vs with _ | ⟨x, _ | ⟨y, _ | ⟨z, r⟩⟩⟩
  · rfl
  · cases x <;> rfl
  · show B x y S k = _
    cases x with
    | i i a => cases y with
      | i j b =>
        rw [h2]
        simp only [semR, rBin, hs, cond_false]
      | _ => rw [h1 _ _ _ (by intro _ _ hh; cases hh)]; rfl
    | _ => rw [h0 _ _ (by intro _ _ hh; cases hh)]; rfl
  · cases x with
    | i i a => cases y <;> rfl
    | _ => rfl
theorem vI_no {x : AV} (h : ∀ i a, x ≠ .i i a) (f : IntKind → Int → Prop) : vI x f = False := by
  cases x with
  | i i a => exact absurd rfl (h i a)
  | _ => rfl
theorem sBin_eq (op : BinOp) (vs : List AV) (S : St) (k : KS) : sBin op vs S k = sR (.bin op) vs S k := by
  cases op <;> try rfl
  all_goals refine two S k (fun x y h => vI_no h _) (fun i a y h => vI_no h _) rfl (fun i a j b => ?_) vs
  · show kk i j (addK i a b fun n => k (.i i n) S) = _
    rw [kk_eq, addK_eq]
    cases kEq i j <;> rfl
  · show kk i j (subK i a b fun n => k (.i i n) S) = _
    rw [kk_eq, subK_eq]
    cases kEq i j <;> rfl
  · show kk i j (bR (k (.b true) S) (k (.b false) S) (eqR a b)) = match (bif kEq i j then some (.b (iEq a b)) else none) with | some v => k v S | none => False
    rw [kk_eq, eqR_eq]
    cases kEq i j <;> cases iEq a b <;> rfl
  · show kk i j (bR (k (.b false) S) (k (.b true) S) (eqR a b)) = match (bif kEq i j then some (.b (!iEq a b)) else none) with | some v => k v S | none => False
    rw [kk_eq, eqR_eq]
    cases kEq i j <;> cases iEq a b <;> rfl
  · show kk i j (bR (k (.b true) S) (k (.b false) S) (ltR a b)) = match (bif kEq i j then some (.b (iLt a b)) else none) with | some v => k v S | none => False
    rw [kk_eq, ltR_eq]
    cases kEq i j <;> cases iLt a b <;> rfl
  · show kk i j (bR (k (.b false) S) (k (.b true) S) (ltR b a)) = match (bif kEq i j then some (.b (!iLt b a)) else none) with | some v => k v S | none => False
    rw [kk_eq, ltR_eq]
    cases kEq i j <;> cases iLt b a <;> rfl
  · show kk i j (bR (k (.b true) S) (k (.b false) S) (ltR b a)) = match (bif kEq i j then some (.b (iLt b a)) else none) with | some v => k v S | none => False
    rw [kk_eq, ltR_eq]
    cases kEq i j <;> cases iLt b a <;> rfl
  · show kk i j (bR (k (.b false) S) (k (.b true) S) (ltR a b)) = match (bif kEq i j then some (.b (!iLt a b)) else none) with | some v => k v S | none => False
    rw [kk_eq, ltR_eq]
    cases kEq i j <;> cases iLt a b <;> rfl
/-! ### the rest -/
noncomputable def bPick (c x y : AV) (S : St) (k : KS) : Prop := vB c fun b => bR (k x S) (k y S) b
noncomputable def sPick (vs : List AV) (S : St) (k : KS) : Prop := l3 (fun c x y => bPick c x y S k) vs
noncomputable def bNot (x : AV) (S : St) (k : KS) : Prop := vB x fun b => bR (k (.b false) S) (k (.b true) S) b
noncomputable def sUn (op : UnOp) (vs : List AV) (S : St) (k : KS) : Prop := match op with
  | .not => l1 (fun x => bNot x S k) vs
  | op => sR (.un op) vs S k
noncomputable def bLen (x : AV) (S : St) (k : KS) : Prop := vL x fun _ n _ _ => k (.i .i64 (.ofNat n)) S
noncomputable def sLen (vs : List AV) (S : St) (k : KS) : Prop := l1 (fun x => bLen x S k) vs
noncomputable def bExt (i : Nat) (x : AV) (S : St) (k : KS) : Prop := vT x fun l => lget l False i fun v => k v S
noncomputable def sExt (i : Nat) (vs : List AV) (S : St) (k : KS) : Prop := l1 (fun x => bExt i x S k) vs
noncomputable def bIad (size : Nat) (x y : AV) (S : St) (k : KS) : Prop := vL x fun a len _ _ => oP a fun r o => vI y fun _ n => iN n (fun n => bR (fN (Nat.add o (Nat.mul n size)) fun o => k (.p (some (r, o))) S) False (Nat.ble (Nat.succ n) len)) False
noncomputable def sIad (size : Nat) (vs : List AV) (S : St) (k : KS) : Prop := l2 (fun x y => bIad size x y S k) vs
noncomputable def bIadA (len size : Nat) (x y : AV) (S : St) (k : KS) : Prop := vP x fun a => oP a fun r o => vI y fun _ n => iN n (fun n => bR (fN (Nat.add o (Nat.mul n size)) fun o => k (.p (some (r, o))) S) False (Nat.ble (Nat.succ n) len)) False
noncomputable def sIadA (len size : Nat) (vs : List AV) (S : St) (k : KS) : Prop := l2 (fun x y => bIadA len size x y S k) vs
noncomputable def bIxS (x y : AV) (S : St) (k : KS) : Prop := vS x fun l => vI y fun _ n => iN n (fun n => sget l False n fun c => fN c.toNat fun c => k (.i .u8 (.ofNat c)) S) False
noncomputable def sIxS (vs : List AV) (S : St) (k : KS) : Prop := l2 (fun x y => bIxS x y S k) vs
theorem sPick_eq (vs : List AV) (S : St) (k : KS) : sPick vs S k = sR .pick vs S k := by
  rw [sR_eq]
  rcases vs with _ | ⟨x, _ | ⟨y, _ | ⟨z, _ | ⟨u, r⟩⟩⟩⟩
  · rfl
  · cases x <;> rfl
  · cases x <;> rfl
  · cases x with
    | b b => cases b <;> rfl
    | _ => rfl
  · cases x <;> rfl
theorem sUn_eq (op : UnOp) (vs : List AV) (S : St) (k : KS) : sUn op vs S k = sR (.un op) vs S k := by
  cases op <;> try rfl
  rw [sR_eq]
  rcases vs with _ | ⟨x, _ | ⟨y, r⟩⟩
  · rfl
  · cases x with
    | b b => cases b <;> rfl
    | _ => rfl
  · cases x <;> rfl
theorem sLen_eq (vs : List AV) (S : St) (k : KS) : sLen vs S k = sR .lenSl vs S k := by
  rw [sR_eq]
  rcases vs with _ | ⟨x, _ | ⟨y, r⟩⟩
  · rfl
  · cases x <;> rfl
  · cases x <;> rfl
theorem sExt_eq (i : Nat) (vs : List AV) (S : St) (k : KS) : sExt i vs S k = sR (.ext i) vs S k := by
  rw [sR_eq]
  rcases vs with _ | ⟨x, _ | ⟨y, r⟩⟩
  · rfl
  · cases x with
    | tup l => exact lget_eq False l i fun v => k v S
    | _ => rfl
  · cases x <;> rfl
theorem sIad_eq (size : Nat) (vs : List AV) (S : St) (k : KS) : sIad size vs S k = sR (.iad size) vs S k := by
  rw [sR_eq]
  rcases vs with _ | ⟨x, _ | ⟨y, _ | ⟨z, t⟩⟩⟩
  · rfl
  · cases x with
    | sl a len cap ex => rcases a with _ | ⟨r, o⟩ <;> rfl
    | _ => rfl
  · cases x with
    | sl a len cap ex =>
      rcases a with _ | ⟨r, o⟩
      · rfl
      · cases y with
        | i j n => cases n with
          | ofNat n =>
            show bR (fN (o + n * size) fun o => k (.p (some (r, o))) S) False (Nat.ble (n + 1) len) = match (bif Nat.blt n len then some (.p (some (r, o + n * size))) else none) with | some v => k v S | none => False
            rw [fN_eq]
            show bR _ False (Nat.blt n len) = _
            cases Nat.blt n len <;> rfl
          | negSucc n => rfl
        | _ => rfl
    | _ => rfl
  · cases x with
    | sl a len cap ex =>
      rcases a with _ | ⟨r, o⟩
      · rfl
      · cases y with
        | i j n => cases n <;> rfl
        | _ => rfl
    | _ => rfl
theorem sIadA_eq (len size : Nat) (vs : List AV) (S : St) (k : KS) : sIadA len size vs S k = sR (.iadA len size) vs S k := by
  rw [sR_eq]
  rcases vs with _ | ⟨x, _ | ⟨y, _ | ⟨z, t⟩⟩⟩
  · rfl
  · cases x with
    | p a => rcases a with _ | ⟨r, o⟩ <;> rfl
    | _ => rfl
  · cases x with
    | p a =>
      rcases a with _ | ⟨r, o⟩
      · rfl
      · cases y with
        | i j n => cases n with
          | ofNat n =>
            show bR (fN (o + n * size) fun o => k (.p (some (r, o))) S) False (Nat.ble (n + 1) len) = match (bif Nat.blt n len then some (.p (some (r, o + n * size))) else none) with | some v => k v S | none => False
            rw [fN_eq]
            show bR _ False (Nat.blt n len) = _
            cases Nat.blt n len <;> rfl
          | negSucc n => rfl
        | _ => rfl
    | _ => rfl
  · cases x with
    | p a =>
      rcases a with _ | ⟨r, o⟩
      · rfl
      · cases y with
        | i j n => cases n <;> rfl
        | _ => rfl
    | _ => rfl
theorem sIxS_eq (vs : List AV) (S : St) (k : KS) : sIxS vs S k = sR .ixS vs S k := by
  rw [sR_eq]
  rcases vs with _ | ⟨x, _ | ⟨y, _ | ⟨z, t⟩⟩⟩
  · rfl
  · cases x <;> rfl
  · cases x with
    | s l => cases y with
      | i j n => cases n with
        | ofNat n =>
          show (sget l False n fun c => fN c.toNat fun c => k (.i .u8 (.ofNat c)) S) = _
          rw [sget_eq]
          simp only [semR, rIxS, fN_eq]
          cases l[n]? <;> rfl
        | negSucc n => rfl
      | _ => rfl
    | _ => rfl
  · cases x with
    | s l => cases y with
      | i j n => cases n <;> rfl
      | _ => rfl
    | _ => rfl
section
variable {α : Type}
noncomputable def bldK (d : Prop) (ps : List (Nat × Nat)) : List AV → List AV → (List AV → Prop) → Prop := List.rec (motive := fun _ => List AV → List AV → (List AV → Prop) → Prop)
  (fun vs z k => ln vs (k z))
  (fun p _ ih vs z k => lc vs fun v vs => vC v fun l => Bool.rec (motive := fun _ => Prop) False (lspl z False p.1 l fun z => ih vs z k) (Nat.beq l.length p.2 && Nat.ble (p.1 + p.2) z.length)) ps
theorem bldK_eq (d : Prop) : ∀ (ps : List (Nat × Nat)) (vs z : List AV) (k : List AV → Prop), bldK d ps vs z k = match fillP z ps vs with | some c => k c | none => False
  | [], [], z, k => rfl
  | [], _ :: _, z, k => rfl
  | (o, n) :: ps, [], z, k => rfl
  | (o, n) :: ps, v :: vs, z, k => by
    show (vC v fun l => Bool.rec (motive := fun _ => Prop) False (lspl z False o l fun z => bldK d ps vs z k) (Nat.beq l.length n && Nat.ble (o + n) z.length)) = _
    rw [vC_eq]
    simp only [fillP]
    cases v.cellsOf with
    | none => rfl
    | some l =>
      simp only []
      cases h : Nat.beq l.length n && Nat.ble (o + n) z.length with
      | false => rfl
      | true =>
        simp only [cond_true]
        rw [Bool.and_eq_true] at h
        have h1 : l.length = n := by have := h.1; rw [beq_nat] at this; simpa using this
        have h2 : o + n ≤ z.length := by have := h.2; rw [ble_nat] at this; simpa using this
        rw [lspl_eq False z o l _ (by omega)]
        have h3 : Nat.ble (o + l.length) z.length = true := by rw [ble_nat]; simp; omega
        rw [h3]
        simp only [cond_true]
        exact bldK_eq d ps vs _ k
end
noncomputable def sBuild (z : List AV) (ps : List (Nat × Nat)) (vs : List AV) (S : St) (k : KS) : Prop := bldK False ps vs z fun c => k (.agg c) S
theorem sBuild_eq (z : List AV) (ps : List (Nat × Nat)) (vs : List AV) (S : St) (k : KS) : sBuild z ps vs S k = sR (.build z ps) vs S k := by
  rw [sR_eq]
  simp only [sBuild, bldK_eq, semR, rBuild]
  cases fillP z ps vs <;> rfl
noncomputable def bAlloc (z : List AV) (S : St) (k : KS) : Prop := fN S.nx fun n => hset S.h n (some (.cells z)) fun h => fN (Nat.add n 1) fun nx => k (.p (some (n, 0))) ⟨h, nx⟩
noncomputable def sAlloc (z : List AV) (vs : List AV) (S : St) (k : KS) : Prop := ln vs (bAlloc z S k)
theorem sAlloc_eq (z : List AV) (vs : List AV) (S : St) (k : KS) : sAlloc z vs S k = sAl (.alloc z) vs S k := by
  rw [sAl_eq]
  rcases vs with _ | ⟨x, r⟩
  · show bAlloc z S k = _
    unfold bAlloc
    simp only [fN_eq, hset_eq]
    rfl
  · rfl
noncomputable def sMv (vs : List AV) (S : St) (k : KS) : Prop := l1 (fun x => k x S) vs
theorem sMv_eq (vs : List AV) (S : St) (k : KS) : sMv vs S k = sR .mv vs S k := by
  rw [sR_eq]
  rcases vs with _ | ⟨x, _ | ⟨y, r⟩⟩ <;> rfl
/-- a guard -/
noncomputable def gdP : AV → Bool → Prop → Prop → Prop := @AV.rec (fun _ => Bool → Prop → Prop → Prop) (fun _ => Bool → Prop → Prop → Prop) (fun x w X Y => bR (bR X Y x) (bR Y X x) w) (fun _ _ _ _ Y => Y) (fun _ _ _ _ Y => Y) (fun _ _ _ Y => Y) (fun _ _ _ Y => Y) (fun _ _ _ _ _ _ Y => Y) (fun _ _ _ Y => Y) (fun _ _ _ _ _ _ _ Y => Y) (fun _ _ Y => Y) (fun _ _ _ _ _ Y => Y) (fun _ _ Y => Y) (fun _ _ _ _ Y => Y) (fun _ _ _ _ Y => Y) (fun _ _ _ => False) (fun _ _ _ => False) (fun _ _ _ _ _ _ _ => False)
theorem gdP_eq (v : AV) (w : Bool) (X Y : Prop) : gdP v w X Y = match v with | .b x => (bif x == w then X else Y) | .bad => False | _ => Y := by
  cases v <;> try rfl
  rename_i x
  cases x <;> cases w <;> rfl
noncomputable def gdO (v : AV) (w : Bool) (f : KS → Prop) (S : St) (k : KS) : Prop := gdP v w (f k) (k (.tup []) S)
end Go.AM

/- The strict machine: code, by continuations; what it says of a function's end is so of the abstract machine. -/
set_option linter.unusedVariables false
namespace Go.AM
noncomputable def sCv (C : CS) (vs : List AV) (S : St) (k : KS) : Prop := lc vs fun x r => vF x fun f u w => lcat u r fun a => lcat a w fun vs => C f vs S k
noncomputable def sLdS (sz : Option Nat) (vs : List AV) (S : St) (k : KS) : Prop := match sz with
  | none => sLd vs S k
  | some n => sLdN n vs S k
noncomputable def xop (C : CS) : AOp → List AV → St → KS → Prop
  | .call f => C f
  | .callv => sCv C
  | .nilchk => sNil
  | .fad off => sFad off
  | .ld sz => sLdS sz
  | .st sz => sSt sz
  | .app a b => sApp a b
  | .alloc z => sAlloc z
  | .mv => sMv
  | .iadA n m => sIadA n m
  | .box => sAl .box
  | .bslice z a b ps => sAl (.bslice z a b ps)
  | .mksl z b => sAl (.mksl z b)
  | .mkmap => sAl .mkmap
  | .mset => sE .mset
  | .mdel => sE .mdel
  | .clr z => sE (.clr z)
  | .cpy n => sCpy n
  | .bin op => sBin op
  | .pick => sPick
  | .ixS => sIxS
  | .un op => sUn op
  | .lenSl => sLen
  | .ext i => sExt i
  | .iad n => sIad n
  | .build z ps => sBuild z ps
  | o => sR o
def GoodC (F : Nat → Option AFn) (C : CS) : Prop := ∀ f vs S k, C f vs S k → ∃ n v S', acall F n f vs S = some (v, S') ∧ k v S'
section
variable {F : Nat → Option AFn} {C : CS}
theorem sR_ok {o : AOp} {vs : List AV} {S : St} {k : KS} (e : sR o vs S k) : ∃ v, semR o S.h vs = some v ∧ k v S := by
  rw [sR_eq] at e
  split at e
  · rename_i v hv; exact ⟨v, hv, e⟩
  · exact e.elim
theorem sE_ok {o : AOp} {vs : List AV} {S : St} {k : KS} (e : sE o vs S k) : ∃ v S', semE o (fun _ _ _ => none) S vs = some (v, S') ∧ k v S' := by
  unfold sE at e
  split at e
  · rename_i v S' hv; exact ⟨v, S', hv, e⟩
  · exact e.elim
theorem sAl_ok {o : AOp} {vs : List AV} {S : St} {k : KS} (e : sAl o vs S k) (c : Cll) : ∃ v S', opA (semA o) c S vs = some (v, S') ∧ k v S' := by
  rw [sAl_eq] at e
  split at e
  · rename_i v S' hv; exact ⟨v, S', hv, e⟩
  · exact e.elim
theorem xop_ok (hC : GoodC F C) {o : AOp} {vs : List AV} {S : St} {k : KS} (e : xop C o vs S k) : ∃ n v S', semOp o (callOf F (exec F n)) S vs = some (v, S') ∧ k v S' := by
  have hR : ∀ o : AOp, o.cl = .R → sR o vs S k → ∃ n v S', semOp o (callOf F (exec F n)) S vs = some (v, S') ∧ k v S' := fun o hc e => by
    obtain ⟨v, h1, h2⟩ := sR_ok e
    exact ⟨0, v, S, by simp only [semOp, hc, opR, h1], h2⟩
  have hA : ∀ o : AOp, o.cl = .A → sAl o vs S k → ∃ n v S', semOp o (callOf F (exec F n)) S vs = some (v, S') ∧ k v S' := fun o hc e => by
    obtain ⟨v, S', h1, h2⟩ := sAl_ok e (callOf F (exec F 0))
    exact ⟨0, v, S', by simp only [semOp, hc, h1], h2⟩
  cases o
  case call f =>
    obtain ⟨n, v, S', h1, h2⟩ := hC f vs S k e
    exact ⟨n, v, S', h1, h2⟩
  case callv =>
    have e' : sCv C vs S k := e
    unfold sCv at e'
    rcases vs with _ | ⟨x, r⟩
    · exact e'.elim
    · have e2 : (vF x fun f u w => lcat u r fun a => lcat a w fun vs => C f vs S k) := e'
      cases x with
      | fn f u w =>
        have e3 : lcat u r fun a => lcat a w fun vs => C f vs S k := e2
        rw [lcat_eq, lcat_eq] at e3
        obtain ⟨n, v, S', h1, h2⟩ := hC _ _ S k e3
        exact ⟨n, v, S', h1, h2⟩
      | _ => exact e2.elim
  case nilchk =>
    have e' : sNil vs S k := e
    rw [sNil_eq] at e'
    exact hR _ rfl (by rw [sR_eq]; exact e')
  case fad off =>
    have e' : sFad off vs S k := e
    rw [sFad_eq] at e'
    exact hR _ rfl (by rw [sR_eq]; exact e')
  case ld sz =>
    cases sz with
    | none =>
      have e' : sLd vs S k := e
      rw [sLd_eq] at e'
      exact hR _ rfl (by rw [sR_eq]; exact e')
    | some n =>
      have e' : sLdN n vs S k := e
      rw [sLdN_eq] at e'
      exact hR _ rfl e'
  case st sz =>
    have e' : sSt sz vs S k := e
    rw [sSt_eq] at e'
    obtain ⟨v, S', h1, h2⟩ := sE_ok e'
    exact ⟨0, v, S', h1, h2⟩
  case app a b =>
    have e' : sApp a b vs S k := e
    rw [sApp_eq] at e'
    obtain ⟨v, S', h1, h2⟩ := sE_ok e'
    exact ⟨0, v, S', h1, h2⟩
  case bin op => exact hR _ rfl (by rw [← sBin_eq]; exact e)
  case ixS => exact hR _ rfl (by rw [← sIxS_eq]; exact e)
  case pick => exact hR _ rfl (by rw [← sPick_eq]; exact e)
  case un op => exact hR _ rfl (by rw [← sUn_eq]; exact e)
  case lenSl => exact hR _ rfl (by rw [← sLen_eq]; exact e)
  case ext i => exact hR _ rfl (by rw [← sExt_eq]; exact e)
  case iad n => exact hR _ rfl (by rw [← sIad_eq]; exact e)
  case build z ps => exact hR _ rfl (by rw [← sBuild_eq]; exact e)
  case mset => obtain ⟨v, S', h1, h2⟩ := sE_ok e; exact ⟨0, v, S', h1, h2⟩
  case mdel => obtain ⟨v, S', h1, h2⟩ := sE_ok e; exact ⟨0, v, S', h1, h2⟩
  case clr z => obtain ⟨v, S', h1, h2⟩ := sE_ok e; exact ⟨0, v, S', h1, h2⟩
  case cpy n =>
    have e' : sCpy n vs S k := e
    rw [sCpy_eq] at e'
    obtain ⟨v, S', h1, h2⟩ := sE_ok e'; exact ⟨0, v, S', h1, h2⟩
  case alloc z => exact hA _ rfl (by rw [← sAlloc_eq]; exact e)
  case mv => exact hR _ rfl (by rw [← sMv_eq]; exact e)
  case iadA n m => exact hR _ rfl (by rw [← sIadA_eq]; exact e)
  case box => exact hA _ rfl e
  case bslice z a b ps => exact hA _ rfl e
  case mksl z b => exact hA _ rfl e
  case mkmap => exact hA _ rfl e
  all_goals exact hR _ rfl e
end
/-! ### code -/
abbrev KX := Env → Env → St → Prop
noncomputable def gdX (C : CS) (v : AV) (w : Bool) (o : AOp) (vs : List AV) (S : St) (k : KS) : Prop := gdO v w (xop C o vs S) S k
noncomputable def xOp1 (C : CS) (o : Op1) (l t : Env) (S : St) (k : KS) : Prop := match o with
  | ⟨_, none, .mv, [x]⟩ => k (evO l t x) S
  | ⟨_, none, op, args⟩ => xop C op (evsO l t args) S k
  | ⟨_, some (c, w), op, args⟩ => gdX C (evO l t c) w op (evsO l t args) S k
noncomputable def condX (v : AV) (X Y : Prop) : Prop := vB v (bR X Y)
noncomputable def xOps (C : CS) (ops : List Op1) : Env → Env → St → KX → Prop :=
  List.rec (motive := fun _ => Env → Env → St → KX → Prop) (fun l t S k => k l t S) (fun o _ ih l t S k => xOp1 C o l t S fun v S' => ih (putL l o.dst v) (putT t o.dst v) S' k) ops
noncomputable def againX (o : AOp) (vs : List AV) (S S' : St) : Bool := match semR o S.h vs, semR o S'.h vs with
  | some v, some v' => sameV v v'
  | _, _ => false
def againGX (v : AV) (w : Bool) (b : Bool) : Bool := match v with
  | .b x => bif x == w then b else true
  | .bad => false
  | _ => true
noncomputable def againLX (ops : List Op1) (tr : List (Env × Env × St)) (c : Nat × Nat) : Bool :=
  match ops[c.1]?, tr[c.1]?, tr[c.2]? with
  | some o, some (l, t, S), some (_, _, S') =>
    match o.gd with
    | none => againX o.op (evsO l t o.args) S S'
    | some (g, w) => againGX (evO l t g) w (againX o.op (evsO l t o.args) S S')
  | _, _, _ => false
noncomputable def againAX (ops : List Op1) (tr : List (Env × Env × St)) : List (Nat × Nat) → Bool
  | [] => true
  | c :: r => bif againLX ops tr c then againAX ops tr r else false
noncomputable def xOpsD (C : CS) (ops : List Op1) (chk : List (Nat × Nat)) (rest : List Op1) : List (Env × Env × St) → Env → Env → St → KX → Prop :=
  List.rec (motive := fun _ => List (Env × Env × St) → Env → Env → St → KX → Prop) (fun tr l t S k => bif againAX ops (tr ++ [(l, t, S)]) chk then k l t S else False)
    (fun o _ ih tr l t S k => xOp1 C o l t S fun v S' => ih (tr ++ [(l, t, S)]) (putL l o.dst v) (putT t o.dst v) S' k) rest
def loopN : Nat := 1000000
noncomputable def loopR (W : Env → Env → St → KX → Prop) (n : Nat) : Env → Env → St → Prop := Nat.rec (motive := fun _ => Env → Env → St → Prop) (fun _ _ _ => False) (fun _ ih l t S => W l t S ih) n
noncomputable def wpx (C : CS) (c : ACode) : Env → Env → St → KX → (Nat → KX) → KX → Prop :=
  ACode.rec (motive := fun _ => Env → Env → St → KX → (Nat → KX) → KX → Prop)
    (fun l t S k _ _ => k l t S)
    (fun ops l _ S k _ _ => xOps C ops l Env.nil S k)
    (fun ops chk l _ S k _ _ => xOpsD C ops chk ops [] l Env.nil S k)
    (fun _ _ a b l t S k ke kr => a l t S (fun l t S => b l t S k ke kr) ke kr)
    (fun c _ _ x y l t S k ke kr => condX (evO l t c) (x l t S k ke kr) (y l t S k ke kr))
    (fun id _ c l t S k ke kr => c l t S k (fun j l t S => bif Nat.beq j id then k l t S else ke j l t S) kr)
    (fun _ c l t S _ ke kr => loopR (fun l t S k => c l t S k ke kr) loopN l t S)
    (fun id l t S _ ke _ => ke id l t S)
    (fun l t S _ _ kr => kr l t S) c
section
variable {F : Nat → Option AFn} {C : CS}
theorem xOp1_ok (hC : GoodC F C) {S : St} {o : Op1} {T : Tm} {k : KS} (e : xOp1 C o (aget T.l) (aget T.r) S k) :
    ∃ n v S', step1 (callOf F (exec F n)) o T S = some (T.put v o.dst, S') ∧ k v S' := by
  unfold xOp1 at e
  split at e
  · rename_i d x
    rw [evO_ok] at e
    exact ⟨0, x.ev T, S, by simp only [step1, wants, semOp, AOp.cl, opR, semR, rMv, evs_cons, evs_nil], e⟩
  · rename_i d op args _
    rw [evsO_ok] at e
    obtain ⟨n, v, S', h1, h2⟩ := xop_ok hC e
    exact ⟨n, v, S', by simp only [step1, wants, h1], h2⟩
  · rename_i d c w op args
    rw [evO_ok, evsO_ok] at e
    unfold gdX gdO at e
    rw [gdP_eq] at e
    split at e
    · rename_i x hx
      cases hb : (x == w) with
      | true =>
        rw [hb] at e
        obtain ⟨n, v, S', h1, h2⟩ := xop_ok hC e
        exact ⟨n, v, S', by simp only [step1, wants, hx, hb, h1], h2⟩
      | false =>
        rw [hb] at e
        exact ⟨0, .tup [], S, by simp only [step1, wants, hx, hb], e⟩
    · exact e.elim
    · rename_i h1 h2
      refine ⟨0, .tup [], S, ?_, e⟩
      have : wants T (some (c, w)) = some false := by
        unfold wants
        simp only
      simp only [step1, this]
theorem xOps_ok (hC : GoodC F C) : ∀ {ops : List Op1} {T : Tm} {S : St} {k : KX}, xOps C ops (aget T.l) (aget T.r) S k →
    ∃ n T' S', runOps (callOf F (exec F n)) ops T S = some (T', S') ∧ k (aget T'.l) (aget T'.r) S'
  | [], T, S, k, e => ⟨0, T, S, rfl, e⟩
  | o :: r, T, S, k, e => by
    have e' : xOp1 C o (aget T.l) (aget T.r) S (fun v S' => xOps C r (putL (aget T.l) o.dst v) (putT (aget T.r) o.dst v) S' k) := e
    obtain ⟨n, v, S', h1, h3⟩ := xOp1_ok hC e'
    rw [putL_ok, putT_ok] at h3
    obtain ⟨m, T'', S'', h4, h5⟩ := xOps_ok hC h3
    refine ⟨max n m, T'', S'', ?_, h5⟩
    rw [runOps_cons, step1_sub' (Nat.le_max_left n m) h1]
    exact runOps_sub (cll_le (Nat.le_max_right n m)) h4
def HistX (tr : List (Env × Env × St)) (hs : List (Tm × St)) : Prop := tr.length = hs.length ∧ ∀ (i : Nat) l t S, tr[i]? = some (l, t, S) → ∃ T, hs[i]? = some (T, S) ∧ l = aget T.l ∧ t = aget T.r
theorem HistX.snoc {tr : List (Env × Env × St)} {hs : List (Tm × St)} (h : HistX tr hs) (T : Tm) (S : St) : HistX (tr ++ [(aget T.l, aget T.r, S)]) (hs ++ [(T, S)]) := by
  refine ⟨by simp [h.1], fun i l t S' e => ?_⟩
  rw [List.getElem?_append] at e ⊢
  rw [← h.1]
  split at e
  · rename_i hi
    simp only [hi, if_true]
    exact h.2 i l t S' e
  · rename_i hi
    simp only [hi, if_false]
    cases hj : i - tr.length with
    | zero => rw [hj] at e; simp at e; obtain ⟨rfl, rfl, rfl⟩ := e; exact ⟨T, by simp, rfl, rfl⟩
    | succ j => rw [hj] at e; simp at e
theorem againLX_ok {ops : List Op1} {tr : List (Env × Env × St)} {hs : List (Tm × St)} (h : HistX tr hs) {c : Nat × Nat} (e : againLX ops tr c = true) : again ops hs c = true := by
  unfold againLX at e
  split at e
  · rename_i o l t S l' t' S' h1 h2 h3
    obtain ⟨T, h4, rfl, rfl⟩ := h.2 _ _ _ _ h2
    obtain ⟨T', h5, _, _⟩ := h.2 _ _ _ _ h3
    rw [evsO_ok] at e
    unfold again
    simp only [h1, h4, h5]
    split at e
    · rename_i hg
      simp only [hg, wants]
      unfold againX at e
      split at e
      · rename_i v v' e1 e2
        simp only [e1, e2, e]
      · cases e
    · rename_i g w hg
      rw [evO_ok] at e
      simp only [hg, wants]
      unfold againGX at e
      split at e
      · rename_i x hx
        simp only [hx]
        cases hb : (x == w) with
        | true =>
          rw [hb] at e
          simp only [cond_true] at e
          unfold againX at e
          split at e
          · rename_i v v' e1 e2
            simp only [e1, e2, e]
          · cases e
        | false => rfl
      · cases e
      · rename_i a1 a2
        generalize hz : g.ev T = z at *
        cases z <;> first | rfl | (exfalso; first | exact a1 _ rfl | exact a2 rfl)
  · cases e
theorem againAX_ok {ops : List Op1} {tr : List (Env × Env × St)} {hs : List (Tm × St)} (h : HistX tr hs) : ∀ {chk : List (Nat × Nat)}, againAX ops tr chk = true → ∀ c, c ∈ chk → again ops hs c = true
  | [], _, c, hc => by cases hc
  | d :: r, e, c, hc => by
    unfold againAX at e
    cases hd : againLX ops tr d with
    | false => rw [hd] at e; cases e
    | true =>
      rw [hd] at e
      rcases List.mem_cons.1 hc with rfl | hc
      · exact againLX_ok h hd
      · exact againAX_ok h e c hc
theorem xOpsD_ok (hC : GoodC F C) {ops : List Op1} {chk : List (Nat × Nat)} : ∀ {rest : List Op1} {tr : List (Env × Env × St)} {hs : List (Tm × St)} {T : Tm} {S : St} {k : KX}, HistX tr hs → xOpsD C ops chk rest tr (aget T.l) (aget T.r) S k →
    ∃ n t, trace (callOf F (exec F n)) rest T S = some t ∧ (∀ c, c ∈ chk → again ops (hs ++ t) c = true) ∧ ∃ T' S', lastOf t = some (T', S') ∧ k (aget T'.l) (aget T'.r) S'
  | [], tr, hs, T, S, k, hh, e => by
    have e' : (bif againAX ops (tr ++ [(aget T.l, aget T.r, S)]) chk then k (aget T.l) (aget T.r) S else False) := e
    cases hb : againAX ops (tr ++ [(aget T.l, aget T.r, S)]) chk with
    | false => rw [hb] at e'; exact e'.elim
    | true =>
      rw [hb] at e'
      exact ⟨0, [(T, S)], rfl, againAX_ok (hh.snoc T S) hb, T, S, rfl, e'⟩
  | o :: r, tr, hs, T, S, k, hh, e => by
    have e' : xOp1 C o (aget T.l) (aget T.r) S (fun v S' => xOpsD C ops chk r (tr ++ [(aget T.l, aget T.r, S)]) (putL (aget T.l) o.dst v) (putT (aget T.r) o.dst v) S' k) := e
    obtain ⟨n, v, S', h1, h3⟩ := xOp1_ok hC e'
    rw [putL_ok, putT_ok] at h3
    obtain ⟨m, t, h4, h5, h6⟩ := xOpsD_ok hC (hh.snoc T S) h3
    obtain ⟨T'', S'', h7, h8⟩ := h6
    refine ⟨max n m, (T, S) :: t, ?_, ?_, T'', S'', ?_, h8⟩
    · unfold trace
      rw [step1_sub' (Nat.le_max_left n m) h1]
      simp only [trace_sub (cll_le (Nat.le_max_right n m)) h4, Option.map_some]
    · intro c hc; have := h5 c hc; rwa [List.append_assoc] at this
    · cases t with
      | nil => cases h7
      | cons a q => exact h7
def EndsX (F : Nat → Option AFn) (c : ACode) (T : Tm) (S : St) (k : KX) (ke : Nat → KX) (kr : KX) : Prop :=
  ∃ n x T' S', exec F n c T S = some (x, T', S') ∧ match x with
    | .norm => k (aget T'.l) (aget T'.r) S'
    | .ex j => ke j (aget T'.l) (aget T'.r) S'
    | .ret => kr (aget T'.l) (aget T'.r) S'
theorem wpx_ok (hC : GoodC F C) : ∀ (c : ACode) {T : Tm} {S : St} {k : KX} {ke : Nat → KX} {kr : KX}, wpx C c (aget T.l) (aget T.r) S k ke kr → EndsX F c T S k ke kr
  | .skip, T, S, k, ke, kr, e => ⟨1, .norm, T, S, rfl, e⟩
  | .exit id, T, S, k, ke, kr, e => ⟨1, .ex id, T, S, rfl, e⟩
  | .ret, T, S, k, ke, kr, e => ⟨1, .ret, T, S, rfl, e⟩
  | .reg ops, T, S, k, ke, kr, e => by
    obtain ⟨n, T', S', h1, h3⟩ := xOps_ok hC (T := { T with r := [] }) e
    exact ⟨n + 1, .norm, T', S', by simp only [exec_succ, exec1, xReg, h1], h3⟩
  | .regD ops chk, T, S, k, ke, kr, e => by
    obtain ⟨n, t, h1, h2, T', S', h3, h5⟩ := xOpsD_ok hC (T := { T with r := [] }) (hs := []) (tr := []) ⟨rfl, fun i l t L h => by simp at h⟩ e
    refine ⟨n + 1, .norm, T', S', ?_, h5⟩
    have : chk.all (again ops t) = true := List.all_eq_true.2 h2
    simp only [exec_succ, exec1, xRegD, h1, this, cond_true, h3, Option.map_some]
  | .seq a b, T, S, k, ke, kr, e => by
    have e' : wpx C a (aget T.l) (aget T.r) S (fun l t S => wpx C b l t S k ke kr) ke kr := e
    obtain ⟨n, x, T', S', h1, h3⟩ := wpx_ok hC a e'
    cases x with
    | norm =>
      obtain ⟨m, y, T'', S'', h4, h5⟩ := wpx_ok hC b h3
      refine ⟨max n m + 1, y, T'', S'', ?_, h5⟩
      simp only [exec_succ, exec1, xSeq, exec_le (Nat.le_max_left n m) _ _ _ _ h1, exec_le (Nat.le_max_right n m) _ _ _ _ h4]
    | ex j => exact ⟨n + 1, .ex j, T', S', by simp only [exec_succ, exec1, xSeq, h1], h3⟩
    | ret => exact ⟨n + 1, .ret, T', S', by simp only [exec_succ, exec1, xSeq, h1], h3⟩
  | .cond c x y, T, S, k, ke, kr, e => by
    have e' : condX (evO (aget T.l) (aget T.r) c) (wpx C x (aget T.l) (aget T.r) S k ke kr) (wpx C y (aget T.l) (aget T.r) S k ke kr) := e
    rw [evO_ok] at e'
    unfold condX at e'
    rw [vB_eq] at e'
    split at e'
    · rename_i b hb
      cases b with
      | true =>
        obtain ⟨n, z, T', S', h1, h2⟩ := wpx_ok hC x e'
        exact ⟨n + 1, z, T', S', by simp only [exec_succ, exec1, xCond, hb, h1], h2⟩
      | false =>
        obtain ⟨n, z, T', S', h1, h2⟩ := wpx_ok hC y e'
        exact ⟨n + 1, z, T', S', by simp only [exec_succ, exec1, xCond, hb, h1], h2⟩
    · exact e'.elim
  | .block id c, T, S, k, ke, kr, e => by
    have e' : wpx C c (aget T.l) (aget T.r) S k (fun j l t S => bif Nat.beq j id then k l t S else ke j l t S) kr := e
    obtain ⟨n, x, T', S', h1, h3⟩ := wpx_ok hC c e'
    cases x with
    | norm => exact ⟨n + 1, .norm, T', S', by simp only [exec_succ, exec1, xBlock, h1], h3⟩
    | ret => exact ⟨n + 1, .ret, T', S', by simp only [exec_succ, exec1, xBlock, h1], h3⟩
    | ex j =>
      simp only [beq_nat] at h3
      by_cases hj : j = id
      · simp only [hj, decide_true, cond_true] at h3
        exact ⟨n + 1, .norm, T', S', by simp only [exec_succ, exec1, xBlock, h1, beq_nat, hj, decide_true, cond_true], h3⟩
      · simp only [hj, decide_false, cond_false] at h3
        exact ⟨n + 1, .ex j, T', S', by simp only [exec_succ, exec1, xBlock, h1, beq_nat, hj, decide_false, cond_false], h3⟩
  | .loop c, T, S, k, ke, kr, e => by
    have key : ∀ (N : Nat) (T : Tm) (S : St), loopR (fun l t S k => wpx C c l t S k ke kr) N (aget T.l) (aget T.r) S → EndsX F (.loop c) T S k ke kr := by
      intro N
      induction N with
      | zero => intro T S e; exact e.elim
      | succ N ih =>
        intro T S e
        obtain ⟨a, x, T', S', h1, h3⟩ := wpx_ok hC c e
        cases x with
        | norm =>
          obtain ⟨b, y, T'', S'', h4, h5⟩ := ih T' S' h3
          refine ⟨max a b + 1, y, T'', S'', ?_, h5⟩
          simp only [exec_succ, exec1, xLoop, exec_le (Nat.le_max_left a b) _ _ _ _ h1, exec_le (Nat.le_max_right a b) _ _ _ _ h4]
        | ex j => exact ⟨a + 1, .ex j, T', S', by simp only [exec_succ, exec1, xLoop, h1], h3⟩
        | ret => exact ⟨a + 1, .ret, T', S', by simp only [exec_succ, exec1, xLoop, h1], h3⟩
    have e' : loopR (fun l t S k => wpx C c l t S k ke kr) loopN (aget T.l) (aget T.r) S := e
    exact key loopN T S e'
/-! ### functions -/

noncomputable def resOneX (l t : Env) (h : PM AB) : ResV → Option AV
  | .tmp x => some (evO l t x)
  | .cell x sz => match evO l t x with
    | .p (some a) => rdAt h a sz
    | _ => none
noncomputable def resLX (l t : Env) (h : PM AB) : List ResV → Option (List AV)
  | [] => some []
  | r :: rs => match resOneX l t h r with
    | some v => (resLX l t h rs).map (v :: ·)
    | none => none
noncomputable def resVX (l t : Env) (h : PM AB) (rs : List ResV) : Option AV :=
  match resLX l t h rs with
  | some [v] => some v
  | some vs => some (.tup vs)
  | none => none
theorem resOneX_ok {T : Tm} {h : PM AB} (r : ResV) : resOneX (aget T.l) (aget T.r) h r = resOne T h r := by
  cases r <;> simp only [resOneX, resOne, evO_ok] <;> rfl
theorem resLX_ok {T : Tm} {h : PM AB} : ∀ rs : List ResV, resLX (aget T.l) (aget T.r) h rs = resL T h rs
  | [] => rfl
  | r :: rs => by
    unfold resLX resL
    rw [resOneX_ok, resLX_ok rs]
    cases resOne T h r <;> rfl
theorem resVX_ok {T : Tm} {h : PM AB} (rs : List ResV) : resVX (aget T.l) (aget T.r) h rs = resV T h rs := by
  unfold resVX resV
  rw [resLX_ok]
  cases resL T h rs with
  | none => rfl
  | some l => match l with
    | [] => rfl
    | [x] => rfl
    | x :: y :: z => rfl
/-- a function's end -/
def allT : List ResV → Bool
  | [] => true
  | .tmp _ :: r => allT r
  | _ => false
noncomputable def finX (rs : List ResV) (k : KS) : KX := fun l t S => match resVX l t S.h rs with
  | some v => bif allT rs then k v S else fW v fun v => k v S
  | none => False
def nX : Nat → KX := fun _ _ _ _ => False
theorem callX_ok (hC : GoodC F C) {f : Nat} {fn : AFn} (hf : F f = some fn) {vs : List AV} {S : St} {k : KS} (e : wpx C fn.body (initE vs 0) Env.nil S (finX fn.res k) nX (finX fn.res k)) : ∃ n v S', acall F n f vs S = some (v, S') ∧ k v S' := by
  rw [initE_ok] at e
  obtain ⟨n, x, T', S', h1, h3⟩ := wpx_ok hC (T := initT vs) fn.body e
  have key : finX fn.res k (aget T'.l) (aget T'.r) S' → ∃ v, resV T' S'.h fn.res = some v ∧ k v S' := by
    intro h3
    unfold finX at h3
    rw [resVX_ok] at h3
    split at h3
    · rename_i v hv
      refine ⟨v, hv, ?_⟩
      cases ht : allT fn.res with
      | true => rw [ht] at h3; exact h3
      | false => rw [ht] at h3; rw [cond_false, fW_eq] at h3; exact h3
    · exact h3.elim
  cases x with
  | norm =>
    obtain ⟨v, h4, h5⟩ := key h3
    exact ⟨n, v, S', by simp only [acall_def, callOf, hf, h1, h4, Option.map_some], h5⟩
  | ret =>
    obtain ⟨v, h4, h5⟩ := key h3
    exact ⟨n, v, S', by simp only [acall_def, callOf, hf, h1, h4, Option.map_some], h5⟩
  | ex j => exact h3.elim
/-- what a function is printed as -/
def FnOk (F : Nat → Option AFn) (f : Nat) (Z : CS → List AV → St → KS → Prop) : Prop := ∀ C, GoodC F C → ∀ vs S k, Z C vs S k → ∃ n v S', acall F n f vs S = some (v, S') ∧ k v S'
/-- calls, so deep -/
noncomputable def CT (D : Nat → CS → List AV → St → KS → Prop) (n : Nat) : CS := Nat.rec (motive := fun _ => CS) (fun _ _ _ _ => False) (fun _ ih f vs S k => D f ih vs S k) n
theorem CT_good {D : Nat → CS → List AV → St → KS → Prop} (h : ∀ f, FnOk F f (D f)) : ∀ n, GoodC F (CT D n)
  | 0 => fun f vs S k e => e.elim
  | n + 1 => fun f vs S k e => h f (CT D n) (CT_good h n) vs S k e
end
end Go.AM

/- The strict machine: a function's code by paths, as a text says it. -/
set_option linter.unusedVariables false
namespace Go.AM
def qA : ACode → ACode | .seq a _ => a | _ => .skip
def qB : ACode → ACode | .seq _ b => b | _ => .skip
def qC : ACode → Opd | .cond c _ _ => c | _ => .l 0
def qX : ACode → ACode | .cond _ x _ => x | _ => .skip
def qY : ACode → ACode | .cond _ _ y => y | _ => .skip
def qI : ACode → Nat | .block i _ => i | _ => 0
def qD : ACode → ACode | .block _ c => c | _ => .skip
def qL : ACode → ACode | .loop c => c | _ => .skip
section
variable {C : CS} {c : ACode} {l t : Env} {S : St} {k : KX} {ke : Nat → KX} {kr : KX} {X Y Z : Prop}
theorem xf {A : Prop} (B : Prop) (h : A = B := by kernel_rfl) : A = B := h
theorem xS {G : KX} (h : ∀ l t S, wpx C (qB c) l t S k ke kr = G l t S) (e : wpx C (qA c) l t S G ke kr = Z) (q : c = .seq (qA c) (qB c) := by kernel_rfl) : wpx C c l t S k ke kr = Z := by
  rw [q, ← e]
  have : (fun l t S => wpx C (qB c) l t S k ke kr) = G := funext fun l => funext fun t => funext fun S => h l t S
  rw [← this]
  rfl
theorem xC (hx : wpx C (qX c) l t S k ke kr = X) (hy : wpx C (qY c) l t S k ke kr = Y) (e : condX (evO l t (qC c)) X Y = Z) (q : c = .cond (qC c) (qX c) (qY c) := by kernel_rfl) : wpx C c l t S k ke kr = Z := by
  rw [q, ← e, ← hx, ← hy]
  rfl
theorem xB (h : wpx C (qD c) l t S k (fun j l t S => bif Nat.beq j (qI c) then k l t S else ke j l t S) kr = Z) (q : c = .block (qI c) (qD c) := by kernel_rfl) : wpx C c l t S k ke kr = Z := by
  rw [q, ← h]
  rfl
noncomputable def lpG {X : Type} (B : X → St → (X → St → Prop) → Prop) (m : Nat) : X → St → Prop := Nat.rec (motive := fun _ => X → St → Prop) (fun _ _ => False) (fun _ ih x S => B x S ih) m
theorem xLg {X : Type} (π : Env → X) {B : X → St → (X → St → Prop) → Prop} (h : ∀ l t S (κ : X → St → Prop), wpx C (qL c) l t S (fun l _ S => κ (π l) S) ke kr = B (π l) S κ) (q : c = .loop (qL c)) :
    wpx C c l t S k ke kr = lpG B loopN (π l) S := by
  have key : ∀ (n : Nat) (l t : Env) (S : St), loopR (fun l t S k => wpx C (qL c) l t S k ke kr) n l t S = lpG B n (π l) S := by
    intro n
    induction n with
    | zero => intro l t S; rfl
    | succ n ih =>
      intro l t S
      show wpx C (qL c) l t S (loopR (fun l t S k => wpx C (qL c) l t S k ke kr) n) ke kr = B (π l) S (lpG B n)
      have : loopR (fun l t S k => wpx C (qL c) l t S k ke kr) n = fun l _ S => lpG B n (π l) S := funext fun l => funext fun t => funext fun S => ih l t S
      rw [this, h]
  have e : wpx C (.loop (qL c)) l t S k ke kr = loopR (fun l t S k => wpx C (qL c) l t S k ke kr) loopN l t S := rfl
  rw [q, e]
  exact key loopN l t S
noncomputable def lR0 (B : (St → Prop) → St → Prop) (m : Nat) : St → Prop := Nat.rec (motive := fun _ => St → Prop) (fun _ => False) (fun _ ih => B ih) m
noncomputable def lp0 (B : (St → Prop) → St → Prop) : St → Prop := lR0 B loopN
theorem xL0  (B : (St → Prop) → St → Prop) (h : ∀ l t S (κ : St → Prop), wpx C (qL c) l t S (fun l _ S => κ S) ke kr = B κ S) (e : lp0 B S = Z) (q : c = .loop (qL c) := by kernel_rfl) : wpx C c l t S k ke kr = Z := by
  have key : ∀ (m : Nat) (x : Unit) (S : St), lpG (fun x S κ => B (fun  S => κ () S) S) m x S = lR0 B m S := by
    intro m
    induction m with
    | zero => intro x S; rfl
    | succ m ih =>
      intro x S
      have : (fun  S => lpG (fun x S κ => B (fun  S => κ () S) S) m () S) = lR0 B m := by
        funext S; exact ih () S
      show B (fun  S => lpG (fun x S κ => B (fun  S => κ () S) S) m () S) S = B (lR0 B m) S
      rw [this]
  rw [xLg (fun _ => ()) (B := (fun x S κ => B (fun  S => κ () S) S)) (fun l t S κ => h l t S fun  S => κ () S) q, ← e]
  exact key loopN () S
noncomputable def lR1 (B : (AV → St → Prop) → AV → St → Prop) (m : Nat) : AV → St → Prop := Nat.rec (motive := fun _ => AV → St → Prop) (fun _ _ => False) (fun _ ih => B ih) m
noncomputable def lp1 (B : (AV → St → Prop) → AV → St → Prop) : AV → St → Prop := lR1 B loopN
theorem xL1 (i0 : Nat) (B : (AV → St → Prop) → AV → St → Prop) (h : ∀ l t S (κ : AV → St → Prop), wpx C (qL c) l t S (fun l _ S => κ (l i0) S) ke kr = B κ (l i0) S) (e : lp1 B (l i0) S = Z) (q : c = .loop (qL c) := by kernel_rfl) : wpx C c l t S k ke kr = Z := by
  have key : ∀ (m : Nat) (x : AV) (S : St), lpG (fun x S κ => B (fun a0 S => κ (a0) S) x S) m x S = lR1 B m x S := by
    intro m
    induction m with
    | zero => intro x S; rfl
    | succ m ih =>
      intro x S
      have : (fun a0 S => lpG (fun x S κ => B (fun a0 S => κ (a0) S) x S) m (a0) S) = lR1 B m := by
        funext a0; funext S; exact ih (a0) S
      show B (fun a0 S => lpG (fun x S κ => B (fun a0 S => κ (a0) S) x S) m (a0) S) x S = B (lR1 B m) x S
      rw [this]
  rw [xLg (fun l => (l i0)) (B := (fun x S κ => B (fun a0 S => κ (a0) S) x S)) (fun l t S κ => h l t S fun a0 S => κ (a0) S) q, ← e]
  exact key loopN (l i0) S
noncomputable def lR2 (B : (AV → AV → St → Prop) → AV → AV → St → Prop) (m : Nat) : AV → AV → St → Prop := Nat.rec (motive := fun _ => AV → AV → St → Prop) (fun _ _ _ => False) (fun _ ih => B ih) m
noncomputable def lp2 (B : (AV → AV → St → Prop) → AV → AV → St → Prop) : AV → AV → St → Prop := lR2 B loopN
theorem xL2 (i0 : Nat) (i1 : Nat) (B : (AV → AV → St → Prop) → AV → AV → St → Prop) (h : ∀ l t S (κ : AV → AV → St → Prop), wpx C (qL c) l t S (fun l _ S => κ (l i0) (l i1) S) ke kr = B κ (l i0) (l i1) S) (e : lp2 B (l i0) (l i1) S = Z) (q : c = .loop (qL c) := by kernel_rfl) : wpx C c l t S k ke kr = Z := by
  have key : ∀ (m : Nat) (x : AV × AV) (S : St), lpG (fun x S κ => B (fun a0 a1 S => κ (a0, a1) S) x.1 x.2 S) m x S = lR2 B m x.1 x.2 S := by
    intro m
    induction m with
    | zero => intro x S; rfl
    | succ m ih =>
      intro x S
      have : (fun a0 a1 S => lpG (fun x S κ => B (fun a0 a1 S => κ (a0, a1) S) x.1 x.2 S) m (a0, a1) S) = lR2 B m := by
        funext a0; funext a1; funext S; exact ih (a0, a1) S
      show B (fun a0 a1 S => lpG (fun x S κ => B (fun a0 a1 S => κ (a0, a1) S) x.1 x.2 S) m (a0, a1) S) x.1 x.2 S = B (lR2 B m) x.1 x.2 S
      rw [this]
  rw [xLg (fun l => (l i0, l i1)) (B := (fun x S κ => B (fun a0 a1 S => κ (a0, a1) S) x.1 x.2 S)) (fun l t S κ => h l t S fun a0 a1 S => κ (a0, a1) S) q, ← e]
  exact key loopN (l i0, l i1) S
noncomputable def lR3 (B : (AV → AV → AV → St → Prop) → AV → AV → AV → St → Prop) (m : Nat) : AV → AV → AV → St → Prop := Nat.rec (motive := fun _ => AV → AV → AV → St → Prop) (fun _ _ _ _ => False) (fun _ ih => B ih) m
noncomputable def lp3 (B : (AV → AV → AV → St → Prop) → AV → AV → AV → St → Prop) : AV → AV → AV → St → Prop := lR3 B loopN
theorem xL3 (i0 : Nat) (i1 : Nat) (i2 : Nat) (B : (AV → AV → AV → St → Prop) → AV → AV → AV → St → Prop) (h : ∀ l t S (κ : AV → AV → AV → St → Prop), wpx C (qL c) l t S (fun l _ S => κ (l i0) (l i1) (l i2) S) ke kr = B κ (l i0) (l i1) (l i2) S) (e : lp3 B (l i0) (l i1) (l i2) S = Z) (q : c = .loop (qL c) := by kernel_rfl) : wpx C c l t S k ke kr = Z := by
  have key : ∀ (m : Nat) (x : AV × AV × AV) (S : St), lpG (fun x S κ => B (fun a0 a1 a2 S => κ (a0, a1, a2) S) x.1 x.2.1 x.2.2 S) m x S = lR3 B m x.1 x.2.1 x.2.2 S := by
    intro m
    induction m with
    | zero => intro x S; rfl
    | succ m ih =>
      intro x S
      have : (fun a0 a1 a2 S => lpG (fun x S κ => B (fun a0 a1 a2 S => κ (a0, a1, a2) S) x.1 x.2.1 x.2.2 S) m (a0, a1, a2) S) = lR3 B m := by
        funext a0; funext a1; funext a2; funext S; exact ih (a0, a1, a2) S
      show B (fun a0 a1 a2 S => lpG (fun x S κ => B (fun a0 a1 a2 S => κ (a0, a1, a2) S) x.1 x.2.1 x.2.2 S) m (a0, a1, a2) S) x.1 x.2.1 x.2.2 S = B (lR3 B m) x.1 x.2.1 x.2.2 S
      rw [this]
  rw [xLg (fun l => (l i0, l i1, l i2)) (B := (fun x S κ => B (fun a0 a1 a2 S => κ (a0, a1, a2) S) x.1 x.2.1 x.2.2 S)) (fun l t S κ => h l t S fun a0 a1 a2 S => κ (a0, a1, a2) S) q, ← e]
  exact key loopN (l i0, l i1, l i2) S
noncomputable def lR4 (B : (AV → AV → AV → AV → St → Prop) → AV → AV → AV → AV → St → Prop) (m : Nat) : AV → AV → AV → AV → St → Prop := Nat.rec (motive := fun _ => AV → AV → AV → AV → St → Prop) (fun _ _ _ _ _ => False) (fun _ ih => B ih) m
noncomputable def lp4 (B : (AV → AV → AV → AV → St → Prop) → AV → AV → AV → AV → St → Prop) : AV → AV → AV → AV → St → Prop := lR4 B loopN
theorem xL4 (i0 : Nat) (i1 : Nat) (i2 : Nat) (i3 : Nat) (B : (AV → AV → AV → AV → St → Prop) → AV → AV → AV → AV → St → Prop) (h : ∀ l t S (κ : AV → AV → AV → AV → St → Prop), wpx C (qL c) l t S (fun l _ S => κ (l i0) (l i1) (l i2) (l i3) S) ke kr = B κ (l i0) (l i1) (l i2) (l i3) S) (e : lp4 B (l i0) (l i1) (l i2) (l i3) S = Z) (q : c = .loop (qL c) := by kernel_rfl) : wpx C c l t S k ke kr = Z := by
  have key : ∀ (m : Nat) (x : AV × AV × AV × AV) (S : St), lpG (fun x S κ => B (fun a0 a1 a2 a3 S => κ (a0, a1, a2, a3) S) x.1 x.2.1 x.2.2.1 x.2.2.2 S) m x S = lR4 B m x.1 x.2.1 x.2.2.1 x.2.2.2 S := by
    intro m
    induction m with
    | zero => intro x S; rfl
    | succ m ih =>
      intro x S
      have : (fun a0 a1 a2 a3 S => lpG (fun x S κ => B (fun a0 a1 a2 a3 S => κ (a0, a1, a2, a3) S) x.1 x.2.1 x.2.2.1 x.2.2.2 S) m (a0, a1, a2, a3) S) = lR4 B m := by
        funext a0; funext a1; funext a2; funext a3; funext S; exact ih (a0, a1, a2, a3) S
      show B (fun a0 a1 a2 a3 S => lpG (fun x S κ => B (fun a0 a1 a2 a3 S => κ (a0, a1, a2, a3) S) x.1 x.2.1 x.2.2.1 x.2.2.2 S) m (a0, a1, a2, a3) S) x.1 x.2.1 x.2.2.1 x.2.2.2 S = B (lR4 B m) x.1 x.2.1 x.2.2.1 x.2.2.2 S
      rw [this]
  rw [xLg (fun l => (l i0, l i1, l i2, l i3)) (B := (fun x S κ => B (fun a0 a1 a2 a3 S => κ (a0, a1, a2, a3) S) x.1 x.2.1 x.2.2.1 x.2.2.2 S)) (fun l t S κ => h l t S fun a0 a1 a2 a3 S => κ (a0, a1, a2, a3) S) q, ← e]
  exact key loopN (l i0, l i1, l i2, l i3) S
noncomputable def lR5 (B : (AV → AV → AV → AV → AV → St → Prop) → AV → AV → AV → AV → AV → St → Prop) (m : Nat) : AV → AV → AV → AV → AV → St → Prop := Nat.rec (motive := fun _ => AV → AV → AV → AV → AV → St → Prop) (fun _ _ _ _ _ _ => False) (fun _ ih => B ih) m
noncomputable def lp5 (B : (AV → AV → AV → AV → AV → St → Prop) → AV → AV → AV → AV → AV → St → Prop) : AV → AV → AV → AV → AV → St → Prop := lR5 B loopN
theorem xL5 (i0 : Nat) (i1 : Nat) (i2 : Nat) (i3 : Nat) (i4 : Nat) (B : (AV → AV → AV → AV → AV → St → Prop) → AV → AV → AV → AV → AV → St → Prop) (h : ∀ l t S (κ : AV → AV → AV → AV → AV → St → Prop), wpx C (qL c) l t S (fun l _ S => κ (l i0) (l i1) (l i2) (l i3) (l i4) S) ke kr = B κ (l i0) (l i1) (l i2) (l i3) (l i4) S) (e : lp5 B (l i0) (l i1) (l i2) (l i3) (l i4) S = Z) (q : c = .loop (qL c) := by kernel_rfl) : wpx C c l t S k ke kr = Z := by
  have key : ∀ (m : Nat) (x : AV × AV × AV × AV × AV) (S : St), lpG (fun x S κ => B (fun a0 a1 a2 a3 a4 S => κ (a0, a1, a2, a3, a4) S) x.1 x.2.1 x.2.2.1 x.2.2.2.1 x.2.2.2.2 S) m x S = lR5 B m x.1 x.2.1 x.2.2.1 x.2.2.2.1 x.2.2.2.2 S := by
    intro m
    induction m with
    | zero => intro x S; rfl
    | succ m ih =>
      intro x S
      have : (fun a0 a1 a2 a3 a4 S => lpG (fun x S κ => B (fun a0 a1 a2 a3 a4 S => κ (a0, a1, a2, a3, a4) S) x.1 x.2.1 x.2.2.1 x.2.2.2.1 x.2.2.2.2 S) m (a0, a1, a2, a3, a4) S) = lR5 B m := by
        funext a0; funext a1; funext a2; funext a3; funext a4; funext S; exact ih (a0, a1, a2, a3, a4) S
      show B (fun a0 a1 a2 a3 a4 S => lpG (fun x S κ => B (fun a0 a1 a2 a3 a4 S => κ (a0, a1, a2, a3, a4) S) x.1 x.2.1 x.2.2.1 x.2.2.2.1 x.2.2.2.2 S) m (a0, a1, a2, a3, a4) S) x.1 x.2.1 x.2.2.1 x.2.2.2.1 x.2.2.2.2 S = B (lR5 B m) x.1 x.2.1 x.2.2.1 x.2.2.2.1 x.2.2.2.2 S
      rw [this]
  rw [xLg (fun l => (l i0, l i1, l i2, l i3, l i4)) (B := (fun x S κ => B (fun a0 a1 a2 a3 a4 S => κ (a0, a1, a2, a3, a4) S) x.1 x.2.1 x.2.2.1 x.2.2.2.1 x.2.2.2.2 S)) (fun l t S κ => h l t S fun a0 a1 a2 a3 a4 S => κ (a0, a1, a2, a3, a4) S) q, ← e]
  exact key loopN (l i0, l i1, l i2, l i3, l i4) S
noncomputable def lR6 (B : (AV → AV → AV → AV → AV → AV → St → Prop) → AV → AV → AV → AV → AV → AV → St → Prop) (m : Nat) : AV → AV → AV → AV → AV → AV → St → Prop := Nat.rec (motive := fun _ => AV → AV → AV → AV → AV → AV → St → Prop) (fun _ _ _ _ _ _ _ => False) (fun _ ih => B ih) m
noncomputable def lp6 (B : (AV → AV → AV → AV → AV → AV → St → Prop) → AV → AV → AV → AV → AV → AV → St → Prop) : AV → AV → AV → AV → AV → AV → St → Prop := lR6 B loopN
theorem xL6 (i0 : Nat) (i1 : Nat) (i2 : Nat) (i3 : Nat) (i4 : Nat) (i5 : Nat) (B : (AV → AV → AV → AV → AV → AV → St → Prop) → AV → AV → AV → AV → AV → AV → St → Prop) (h : ∀ l t S (κ : AV → AV → AV → AV → AV → AV → St → Prop), wpx C (qL c) l t S (fun l _ S => κ (l i0) (l i1) (l i2) (l i3) (l i4) (l i5) S) ke kr = B κ (l i0) (l i1) (l i2) (l i3) (l i4) (l i5) S) (e : lp6 B (l i0) (l i1) (l i2) (l i3) (l i4) (l i5) S = Z) (q : c = .loop (qL c) := by kernel_rfl) : wpx C c l t S k ke kr = Z := by
  have key : ∀ (m : Nat) (x : AV × AV × AV × AV × AV × AV) (S : St), lpG (fun x S κ => B (fun a0 a1 a2 a3 a4 a5 S => κ (a0, a1, a2, a3, a4, a5) S) x.1 x.2.1 x.2.2.1 x.2.2.2.1 x.2.2.2.2.1 x.2.2.2.2.2 S) m x S = lR6 B m x.1 x.2.1 x.2.2.1 x.2.2.2.1 x.2.2.2.2.1 x.2.2.2.2.2 S := by
    intro m
    induction m with
    | zero => intro x S; rfl
    | succ m ih =>
      intro x S
      have : (fun a0 a1 a2 a3 a4 a5 S => lpG (fun x S κ => B (fun a0 a1 a2 a3 a4 a5 S => κ (a0, a1, a2, a3, a4, a5) S) x.1 x.2.1 x.2.2.1 x.2.2.2.1 x.2.2.2.2.1 x.2.2.2.2.2 S) m (a0, a1, a2, a3, a4, a5) S) = lR6 B m := by
        funext a0; funext a1; funext a2; funext a3; funext a4; funext a5; funext S; exact ih (a0, a1, a2, a3, a4, a5) S
      show B (fun a0 a1 a2 a3 a4 a5 S => lpG (fun x S κ => B (fun a0 a1 a2 a3 a4 a5 S => κ (a0, a1, a2, a3, a4, a5) S) x.1 x.2.1 x.2.2.1 x.2.2.2.1 x.2.2.2.2.1 x.2.2.2.2.2 S) m (a0, a1, a2, a3, a4, a5) S) x.1 x.2.1 x.2.2.1 x.2.2.2.1 x.2.2.2.2.1 x.2.2.2.2.2 S = B (lR6 B m) x.1 x.2.1 x.2.2.1 x.2.2.2.1 x.2.2.2.2.1 x.2.2.2.2.2 S
      rw [this]
  rw [xLg (fun l => (l i0, l i1, l i2, l i3, l i4, l i5)) (B := (fun x S κ => B (fun a0 a1 a2 a3 a4 a5 S => κ (a0, a1, a2, a3, a4, a5) S) x.1 x.2.1 x.2.2.1 x.2.2.2.1 x.2.2.2.2.1 x.2.2.2.2.2 S)) (fun l t S κ => h l t S fun a0 a1 a2 a3 a4 a5 S => κ (a0, a1, a2, a3, a4, a5) S) q, ← e]
  exact key loopN (l i0, l i1, l i2, l i3, l i4, l i5) S
noncomputable def lR7 (B : (AV → AV → AV → AV → AV → AV → AV → St → Prop) → AV → AV → AV → AV → AV → AV → AV → St → Prop) (m : Nat) : AV → AV → AV → AV → AV → AV → AV → St → Prop := Nat.rec (motive := fun _ => AV → AV → AV → AV → AV → AV → AV → St → Prop) (fun _ _ _ _ _ _ _ _ => False) (fun _ ih => B ih) m
noncomputable def lp7 (B : (AV → AV → AV → AV → AV → AV → AV → St → Prop) → AV → AV → AV → AV → AV → AV → AV → St → Prop) : AV → AV → AV → AV → AV → AV → AV → St → Prop := lR7 B loopN
theorem xL7 (i0 : Nat) (i1 : Nat) (i2 : Nat) (i3 : Nat) (i4 : Nat) (i5 : Nat) (i6 : Nat) (B : (AV → AV → AV → AV → AV → AV → AV → St → Prop) → AV → AV → AV → AV → AV → AV → AV → St → Prop) (h : ∀ l t S (κ : AV → AV → AV → AV → AV → AV → AV → St → Prop), wpx C (qL c) l t S (fun l _ S => κ (l i0) (l i1) (l i2) (l i3) (l i4) (l i5) (l i6) S) ke kr = B κ (l i0) (l i1) (l i2) (l i3) (l i4) (l i5) (l i6) S) (e : lp7 B (l i0) (l i1) (l i2) (l i3) (l i4) (l i5) (l i6) S = Z) (q : c = .loop (qL c) := by kernel_rfl) : wpx C c l t S k ke kr = Z := by
  have key : ∀ (m : Nat) (x : AV × AV × AV × AV × AV × AV × AV) (S : St), lpG (fun x S κ => B (fun a0 a1 a2 a3 a4 a5 a6 S => κ (a0, a1, a2, a3, a4, a5, a6) S) x.1 x.2.1 x.2.2.1 x.2.2.2.1 x.2.2.2.2.1 x.2.2.2.2.2.1 x.2.2.2.2.2.2 S) m x S = lR7 B m x.1 x.2.1 x.2.2.1 x.2.2.2.1 x.2.2.2.2.1 x.2.2.2.2.2.1 x.2.2.2.2.2.2 S := by
    intro m
    induction m with
    | zero => intro x S; rfl
    | succ m ih =>
      intro x S
      have : (fun a0 a1 a2 a3 a4 a5 a6 S => lpG (fun x S κ => B (fun a0 a1 a2 a3 a4 a5 a6 S => κ (a0, a1, a2, a3, a4, a5, a6) S) x.1 x.2.1 x.2.2.1 x.2.2.2.1 x.2.2.2.2.1 x.2.2.2.2.2.1 x.2.2.2.2.2.2 S) m (a0, a1, a2, a3, a4, a5, a6) S) = lR7 B m := by
        funext a0; funext a1; funext a2; funext a3; funext a4; funext a5; funext a6; funext S; exact ih (a0, a1, a2, a3, a4, a5, a6) S
      show B (fun a0 a1 a2 a3 a4 a5 a6 S => lpG (fun x S κ => B (fun a0 a1 a2 a3 a4 a5 a6 S => κ (a0, a1, a2, a3, a4, a5, a6) S) x.1 x.2.1 x.2.2.1 x.2.2.2.1 x.2.2.2.2.1 x.2.2.2.2.2.1 x.2.2.2.2.2.2 S) m (a0, a1, a2, a3, a4, a5, a6) S) x.1 x.2.1 x.2.2.1 x.2.2.2.1 x.2.2.2.2.1 x.2.2.2.2.2.1 x.2.2.2.2.2.2 S = B (lR7 B m) x.1 x.2.1 x.2.2.1 x.2.2.2.1 x.2.2.2.2.1 x.2.2.2.2.2.1 x.2.2.2.2.2.2 S
      rw [this]
  rw [xLg (fun l => (l i0, l i1, l i2, l i3, l i4, l i5, l i6)) (B := (fun x S κ => B (fun a0 a1 a2 a3 a4 a5 a6 S => κ (a0, a1, a2, a3, a4, a5, a6) S) x.1 x.2.1 x.2.2.1 x.2.2.2.1 x.2.2.2.2.1 x.2.2.2.2.2.1 x.2.2.2.2.2.2 S)) (fun l t S κ => h l t S fun a0 a1 a2 a3 a4 a5 a6 S => κ (a0, a1, a2, a3, a4, a5, a6) S) q, ← e]
  exact key loopN (l i0, l i1, l i2, l i3, l i4, l i5, l i6) S
noncomputable def lR8 (B : (AV → AV → AV → AV → AV → AV → AV → AV → St → Prop) → AV → AV → AV → AV → AV → AV → AV → AV → St → Prop) (m : Nat) : AV → AV → AV → AV → AV → AV → AV → AV → St → Prop := Nat.rec (motive := fun _ => AV → AV → AV → AV → AV → AV → AV → AV → St → Prop) (fun _ _ _ _ _ _ _ _ _ => False) (fun _ ih => B ih) m
noncomputable def lp8 (B : (AV → AV → AV → AV → AV → AV → AV → AV → St → Prop) → AV → AV → AV → AV → AV → AV → AV → AV → St → Prop) : AV → AV → AV → AV → AV → AV → AV → AV → St → Prop := lR8 B loopN
theorem xL8 (i0 : Nat) (i1 : Nat) (i2 : Nat) (i3 : Nat) (i4 : Nat) (i5 : Nat) (i6 : Nat) (i7 : Nat) (B : (AV → AV → AV → AV → AV → AV → AV → AV → St → Prop) → AV → AV → AV → AV → AV → AV → AV → AV → St → Prop) (h : ∀ l t S (κ : AV → AV → AV → AV → AV → AV → AV → AV → St → Prop), wpx C (qL c) l t S (fun l _ S => κ (l i0) (l i1) (l i2) (l i3) (l i4) (l i5) (l i6) (l i7) S) ke kr = B κ (l i0) (l i1) (l i2) (l i3) (l i4) (l i5) (l i6) (l i7) S) (e : lp8 B (l i0) (l i1) (l i2) (l i3) (l i4) (l i5) (l i6) (l i7) S = Z) (q : c = .loop (qL c) := by kernel_rfl) : wpx C c l t S k ke kr = Z := by
  have key : ∀ (m : Nat) (x : AV × AV × AV × AV × AV × AV × AV × AV) (S : St), lpG (fun x S κ => B (fun a0 a1 a2 a3 a4 a5 a6 a7 S => κ (a0, a1, a2, a3, a4, a5, a6, a7) S) x.1 x.2.1 x.2.2.1 x.2.2.2.1 x.2.2.2.2.1 x.2.2.2.2.2.1 x.2.2.2.2.2.2.1 x.2.2.2.2.2.2.2 S) m x S = lR8 B m x.1 x.2.1 x.2.2.1 x.2.2.2.1 x.2.2.2.2.1 x.2.2.2.2.2.1 x.2.2.2.2.2.2.1 x.2.2.2.2.2.2.2 S := by
    intro m
    induction m with
    | zero => intro x S; rfl
    | succ m ih =>
      intro x S
      have : (fun a0 a1 a2 a3 a4 a5 a6 a7 S => lpG (fun x S κ => B (fun a0 a1 a2 a3 a4 a5 a6 a7 S => κ (a0, a1, a2, a3, a4, a5, a6, a7) S) x.1 x.2.1 x.2.2.1 x.2.2.2.1 x.2.2.2.2.1 x.2.2.2.2.2.1 x.2.2.2.2.2.2.1 x.2.2.2.2.2.2.2 S) m (a0, a1, a2, a3, a4, a5, a6, a7) S) = lR8 B m := by
        funext a0; funext a1; funext a2; funext a3; funext a4; funext a5; funext a6; funext a7; funext S; exact ih (a0, a1, a2, a3, a4, a5, a6, a7) S
      show B (fun a0 a1 a2 a3 a4 a5 a6 a7 S => lpG (fun x S κ => B (fun a0 a1 a2 a3 a4 a5 a6 a7 S => κ (a0, a1, a2, a3, a4, a5, a6, a7) S) x.1 x.2.1 x.2.2.1 x.2.2.2.1 x.2.2.2.2.1 x.2.2.2.2.2.1 x.2.2.2.2.2.2.1 x.2.2.2.2.2.2.2 S) m (a0, a1, a2, a3, a4, a5, a6, a7) S) x.1 x.2.1 x.2.2.1 x.2.2.2.1 x.2.2.2.2.1 x.2.2.2.2.2.1 x.2.2.2.2.2.2.1 x.2.2.2.2.2.2.2 S = B (lR8 B m) x.1 x.2.1 x.2.2.1 x.2.2.2.1 x.2.2.2.2.1 x.2.2.2.2.2.1 x.2.2.2.2.2.2.1 x.2.2.2.2.2.2.2 S
      rw [this]
  rw [xLg (fun l => (l i0, l i1, l i2, l i3, l i4, l i5, l i6, l i7)) (B := (fun x S κ => B (fun a0 a1 a2 a3 a4 a5 a6 a7 S => κ (a0, a1, a2, a3, a4, a5, a6, a7) S) x.1 x.2.1 x.2.2.1 x.2.2.2.1 x.2.2.2.2.1 x.2.2.2.2.2.1 x.2.2.2.2.2.2.1 x.2.2.2.2.2.2.2 S)) (fun l t S κ => h l t S fun a0 a1 a2 a3 a4 a5 a6 a7 S => κ (a0, a1, a2, a3, a4, a5, a6, a7) S) q, ← e]
  exact key loopN (l i0, l i1, l i2, l i3, l i4, l i5, l i6, l i7) S
noncomputable def lR9 (B : (AV → AV → AV → AV → AV → AV → AV → AV → AV → St → Prop) → AV → AV → AV → AV → AV → AV → AV → AV → AV → St → Prop) (m : Nat) : AV → AV → AV → AV → AV → AV → AV → AV → AV → St → Prop := Nat.rec (motive := fun _ => AV → AV → AV → AV → AV → AV → AV → AV → AV → St → Prop) (fun _ _ _ _ _ _ _ _ _ _ => False) (fun _ ih => B ih) m
noncomputable def lp9 (B : (AV → AV → AV → AV → AV → AV → AV → AV → AV → St → Prop) → AV → AV → AV → AV → AV → AV → AV → AV → AV → St → Prop) : AV → AV → AV → AV → AV → AV → AV → AV → AV → St → Prop := lR9 B loopN
theorem xL9 (i0 : Nat) (i1 : Nat) (i2 : Nat) (i3 : Nat) (i4 : Nat) (i5 : Nat) (i6 : Nat) (i7 : Nat) (i8 : Nat) (B : (AV → AV → AV → AV → AV → AV → AV → AV → AV → St → Prop) → AV → AV → AV → AV → AV → AV → AV → AV → AV → St → Prop) (h : ∀ l t S (κ : AV → AV → AV → AV → AV → AV → AV → AV → AV → St → Prop), wpx C (qL c) l t S (fun l _ S => κ (l i0) (l i1) (l i2) (l i3) (l i4) (l i5) (l i6) (l i7) (l i8) S) ke kr = B κ (l i0) (l i1) (l i2) (l i3) (l i4) (l i5) (l i6) (l i7) (l i8) S) (e : lp9 B (l i0) (l i1) (l i2) (l i3) (l i4) (l i5) (l i6) (l i7) (l i8) S = Z) (q : c = .loop (qL c) := by kernel_rfl) : wpx C c l t S k ke kr = Z := by
  have key : ∀ (m : Nat) (x : AV × AV × AV × AV × AV × AV × AV × AV × AV) (S : St), lpG (fun x S κ => B (fun a0 a1 a2 a3 a4 a5 a6 a7 a8 S => κ (a0, a1, a2, a3, a4, a5, a6, a7, a8) S) x.1 x.2.1 x.2.2.1 x.2.2.2.1 x.2.2.2.2.1 x.2.2.2.2.2.1 x.2.2.2.2.2.2.1 x.2.2.2.2.2.2.2.1 x.2.2.2.2.2.2.2.2 S) m x S = lR9 B m x.1 x.2.1 x.2.2.1 x.2.2.2.1 x.2.2.2.2.1 x.2.2.2.2.2.1 x.2.2.2.2.2.2.1 x.2.2.2.2.2.2.2.1 x.2.2.2.2.2.2.2.2 S := by
    intro m
    induction m with
    | zero => intro x S; rfl
    | succ m ih =>
      intro x S
      have : (fun a0 a1 a2 a3 a4 a5 a6 a7 a8 S => lpG (fun x S κ => B (fun a0 a1 a2 a3 a4 a5 a6 a7 a8 S => κ (a0, a1, a2, a3, a4, a5, a6, a7, a8) S) x.1 x.2.1 x.2.2.1 x.2.2.2.1 x.2.2.2.2.1 x.2.2.2.2.2.1 x.2.2.2.2.2.2.1 x.2.2.2.2.2.2.2.1 x.2.2.2.2.2.2.2.2 S) m (a0, a1, a2, a3, a4, a5, a6, a7, a8) S) = lR9 B m := by
        funext a0; funext a1; funext a2; funext a3; funext a4; funext a5; funext a6; funext a7; funext a8; funext S; exact ih (a0, a1, a2, a3, a4, a5, a6, a7, a8) S
      show B (fun a0 a1 a2 a3 a4 a5 a6 a7 a8 S => lpG (fun x S κ => B (fun a0 a1 a2 a3 a4 a5 a6 a7 a8 S => κ (a0, a1, a2, a3, a4, a5, a6, a7, a8) S) x.1 x.2.1 x.2.2.1 x.2.2.2.1 x.2.2.2.2.1 x.2.2.2.2.2.1 x.2.2.2.2.2.2.1 x.2.2.2.2.2.2.2.1 x.2.2.2.2.2.2.2.2 S) m (a0, a1, a2, a3, a4, a5, a6, a7, a8) S) x.1 x.2.1 x.2.2.1 x.2.2.2.1 x.2.2.2.2.1 x.2.2.2.2.2.1 x.2.2.2.2.2.2.1 x.2.2.2.2.2.2.2.1 x.2.2.2.2.2.2.2.2 S = B (lR9 B m) x.1 x.2.1 x.2.2.1 x.2.2.2.1 x.2.2.2.2.1 x.2.2.2.2.2.1 x.2.2.2.2.2.2.1 x.2.2.2.2.2.2.2.1 x.2.2.2.2.2.2.2.2 S
      rw [this]
  rw [xLg (fun l => (l i0, l i1, l i2, l i3, l i4, l i5, l i6, l i7, l i8)) (B := (fun x S κ => B (fun a0 a1 a2 a3 a4 a5 a6 a7 a8 S => κ (a0, a1, a2, a3, a4, a5, a6, a7, a8) S) x.1 x.2.1 x.2.2.1 x.2.2.2.1 x.2.2.2.2.1 x.2.2.2.2.2.1 x.2.2.2.2.2.2.1 x.2.2.2.2.2.2.2.1 x.2.2.2.2.2.2.2.2 S)) (fun l t S κ => h l t S fun a0 a1 a2 a3 a4 a5 a6 a7 a8 S => κ (a0, a1, a2, a3, a4, a5, a6, a7, a8) S) q, ← e]
  exact key loopN (l i0, l i1, l i2, l i3, l i4, l i5, l i6, l i7, l i8) S
noncomputable def lR10 (B : (AV → AV → AV → AV → AV → AV → AV → AV → AV → AV → St → Prop) → AV → AV → AV → AV → AV → AV → AV → AV → AV → AV → St → Prop) (m : Nat) : AV → AV → AV → AV → AV → AV → AV → AV → AV → AV → St → Prop := Nat.rec (motive := fun _ => AV → AV → AV → AV → AV → AV → AV → AV → AV → AV → St → Prop) (fun _ _ _ _ _ _ _ _ _ _ _ => False) (fun _ ih => B ih) m
noncomputable def lp10 (B : (AV → AV → AV → AV → AV → AV → AV → AV → AV → AV → St → Prop) → AV → AV → AV → AV → AV → AV → AV → AV → AV → AV → St → Prop) : AV → AV → AV → AV → AV → AV → AV → AV → AV → AV → St → Prop := lR10 B loopN
theorem xL10 (i0 : Nat) (i1 : Nat) (i2 : Nat) (i3 : Nat) (i4 : Nat) (i5 : Nat) (i6 : Nat) (i7 : Nat) (i8 : Nat) (i9 : Nat) (B : (AV → AV → AV → AV → AV → AV → AV → AV → AV → AV → St → Prop) → AV → AV → AV → AV → AV → AV → AV → AV → AV → AV → St → Prop) (h : ∀ l t S (κ : AV → AV → AV → AV → AV → AV → AV → AV → AV → AV → St → Prop), wpx C (qL c) l t S (fun l _ S => κ (l i0) (l i1) (l i2) (l i3) (l i4) (l i5) (l i6) (l i7) (l i8) (l i9) S) ke kr = B κ (l i0) (l i1) (l i2) (l i3) (l i4) (l i5) (l i6) (l i7) (l i8) (l i9) S) (e : lp10 B (l i0) (l i1) (l i2) (l i3) (l i4) (l i5) (l i6) (l i7) (l i8) (l i9) S = Z) (q : c = .loop (qL c) := by kernel_rfl) : wpx C c l t S k ke kr = Z := by
  have key : ∀ (m : Nat) (x : AV × AV × AV × AV × AV × AV × AV × AV × AV × AV) (S : St), lpG (fun x S κ => B (fun a0 a1 a2 a3 a4 a5 a6 a7 a8 a9 S => κ (a0, a1, a2, a3, a4, a5, a6, a7, a8, a9) S) x.1 x.2.1 x.2.2.1 x.2.2.2.1 x.2.2.2.2.1 x.2.2.2.2.2.1 x.2.2.2.2.2.2.1 x.2.2.2.2.2.2.2.1 x.2.2.2.2.2.2.2.2.1 x.2.2.2.2.2.2.2.2.2 S) m x S = lR10 B m x.1 x.2.1 x.2.2.1 x.2.2.2.1 x.2.2.2.2.1 x.2.2.2.2.2.1 x.2.2.2.2.2.2.1 x.2.2.2.2.2.2.2.1 x.2.2.2.2.2.2.2.2.1 x.2.2.2.2.2.2.2.2.2 S := by
    intro m
    induction m with
    | zero => intro x S; rfl
    | succ m ih =>
      intro x S
      have : (fun a0 a1 a2 a3 a4 a5 a6 a7 a8 a9 S => lpG (fun x S κ => B (fun a0 a1 a2 a3 a4 a5 a6 a7 a8 a9 S => κ (a0, a1, a2, a3, a4, a5, a6, a7, a8, a9) S) x.1 x.2.1 x.2.2.1 x.2.2.2.1 x.2.2.2.2.1 x.2.2.2.2.2.1 x.2.2.2.2.2.2.1 x.2.2.2.2.2.2.2.1 x.2.2.2.2.2.2.2.2.1 x.2.2.2.2.2.2.2.2.2 S) m (a0, a1, a2, a3, a4, a5, a6, a7, a8, a9) S) = lR10 B m := by
        funext a0; funext a1; funext a2; funext a3; funext a4; funext a5; funext a6; funext a7; funext a8; funext a9; funext S; exact ih (a0, a1, a2, a3, a4, a5, a6, a7, a8, a9) S
      show B (fun a0 a1 a2 a3 a4 a5 a6 a7 a8 a9 S => lpG (fun x S κ => B (fun a0 a1 a2 a3 a4 a5 a6 a7 a8 a9 S => κ (a0, a1, a2, a3, a4, a5, a6, a7, a8, a9) S) x.1 x.2.1 x.2.2.1 x.2.2.2.1 x.2.2.2.2.1 x.2.2.2.2.2.1 x.2.2.2.2.2.2.1 x.2.2.2.2.2.2.2.1 x.2.2.2.2.2.2.2.2.1 x.2.2.2.2.2.2.2.2.2 S) m (a0, a1, a2, a3, a4, a5, a6, a7, a8, a9) S) x.1 x.2.1 x.2.2.1 x.2.2.2.1 x.2.2.2.2.1 x.2.2.2.2.2.1 x.2.2.2.2.2.2.1 x.2.2.2.2.2.2.2.1 x.2.2.2.2.2.2.2.2.1 x.2.2.2.2.2.2.2.2.2 S = B (lR10 B m) x.1 x.2.1 x.2.2.1 x.2.2.2.1 x.2.2.2.2.1 x.2.2.2.2.2.1 x.2.2.2.2.2.2.1 x.2.2.2.2.2.2.2.1 x.2.2.2.2.2.2.2.2.1 x.2.2.2.2.2.2.2.2.2 S
      rw [this]
  rw [xLg (fun l => (l i0, l i1, l i2, l i3, l i4, l i5, l i6, l i7, l i8, l i9)) (B := (fun x S κ => B (fun a0 a1 a2 a3 a4 a5 a6 a7 a8 a9 S => κ (a0, a1, a2, a3, a4, a5, a6, a7, a8, a9) S) x.1 x.2.1 x.2.2.1 x.2.2.2.1 x.2.2.2.2.1 x.2.2.2.2.2.1 x.2.2.2.2.2.2.1 x.2.2.2.2.2.2.2.1 x.2.2.2.2.2.2.2.2.1 x.2.2.2.2.2.2.2.2.2 S)) (fun l t S κ => h l t S fun a0 a1 a2 a3 a4 a5 a6 a7 a8 a9 S => κ (a0, a1, a2, a3, a4, a5, a6, a7, a8, a9) S) q, ← e]
  exact key loopN (l i0, l i1, l i2, l i3, l i4, l i5, l i6, l i7, l i8, l i9) S
noncomputable def lR11 (B : (AV → AV → AV → AV → AV → AV → AV → AV → AV → AV → AV → St → Prop) → AV → AV → AV → AV → AV → AV → AV → AV → AV → AV → AV → St → Prop) (m : Nat) : AV → AV → AV → AV → AV → AV → AV → AV → AV → AV → AV → St → Prop := Nat.rec (motive := fun _ => AV → AV → AV → AV → AV → AV → AV → AV → AV → AV → AV → St → Prop) (fun _ _ _ _ _ _ _ _ _ _ _ _ => False) (fun _ ih => B ih) m
noncomputable def lp11 (B : (AV → AV → AV → AV → AV → AV → AV → AV → AV → AV → AV → St → Prop) → AV → AV → AV → AV → AV → AV → AV → AV → AV → AV → AV → St → Prop) : AV → AV → AV → AV → AV → AV → AV → AV → AV → AV → AV → St → Prop := lR11 B loopN
theorem xL11 (i0 : Nat) (i1 : Nat) (i2 : Nat) (i3 : Nat) (i4 : Nat) (i5 : Nat) (i6 : Nat) (i7 : Nat) (i8 : Nat) (i9 : Nat) (i10 : Nat) (B : (AV → AV → AV → AV → AV → AV → AV → AV → AV → AV → AV → St → Prop) → AV → AV → AV → AV → AV → AV → AV → AV → AV → AV → AV → St → Prop) (h : ∀ l t S (κ : AV → AV → AV → AV → AV → AV → AV → AV → AV → AV → AV → St → Prop), wpx C (qL c) l t S (fun l _ S => κ (l i0) (l i1) (l i2) (l i3) (l i4) (l i5) (l i6) (l i7) (l i8) (l i9) (l i10) S) ke kr = B κ (l i0) (l i1) (l i2) (l i3) (l i4) (l i5) (l i6) (l i7) (l i8) (l i9) (l i10) S) (e : lp11 B (l i0) (l i1) (l i2) (l i3) (l i4) (l i5) (l i6) (l i7) (l i8) (l i9) (l i10) S = Z) (q : c = .loop (qL c) := by kernel_rfl) : wpx C c l t S k ke kr = Z := by
  have key : ∀ (m : Nat) (x : AV × AV × AV × AV × AV × AV × AV × AV × AV × AV × AV) (S : St), lpG (fun x S κ => B (fun a0 a1 a2 a3 a4 a5 a6 a7 a8 a9 a10 S => κ (a0, a1, a2, a3, a4, a5, a6, a7, a8, a9, a10) S) x.1 x.2.1 x.2.2.1 x.2.2.2.1 x.2.2.2.2.1 x.2.2.2.2.2.1 x.2.2.2.2.2.2.1 x.2.2.2.2.2.2.2.1 x.2.2.2.2.2.2.2.2.1 x.2.2.2.2.2.2.2.2.2.1 x.2.2.2.2.2.2.2.2.2.2 S) m x S = lR11 B m x.1 x.2.1 x.2.2.1 x.2.2.2.1 x.2.2.2.2.1 x.2.2.2.2.2.1 x.2.2.2.2.2.2.1 x.2.2.2.2.2.2.2.1 x.2.2.2.2.2.2.2.2.1 x.2.2.2.2.2.2.2.2.2.1 x.2.2.2.2.2.2.2.2.2.2 S := by
    intro m
    induction m with
    | zero => intro x S; rfl
    | succ m ih =>
      intro x S
      have : (fun a0 a1 a2 a3 a4 a5 a6 a7 a8 a9 a10 S => lpG (fun x S κ => B (fun a0 a1 a2 a3 a4 a5 a6 a7 a8 a9 a10 S => κ (a0, a1, a2, a3, a4, a5, a6, a7, a8, a9, a10) S) x.1 x.2.1 x.2.2.1 x.2.2.2.1 x.2.2.2.2.1 x.2.2.2.2.2.1 x.2.2.2.2.2.2.1 x.2.2.2.2.2.2.2.1 x.2.2.2.2.2.2.2.2.1 x.2.2.2.2.2.2.2.2.2.1 x.2.2.2.2.2.2.2.2.2.2 S) m (a0, a1, a2, a3, a4, a5, a6, a7, a8, a9, a10) S) = lR11 B m := by
        funext a0; funext a1; funext a2; funext a3; funext a4; funext a5; funext a6; funext a7; funext a8; funext a9; funext a10; funext S; exact ih (a0, a1, a2, a3, a4, a5, a6, a7, a8, a9, a10) S
      show B (fun a0 a1 a2 a3 a4 a5 a6 a7 a8 a9 a10 S => lpG (fun x S κ => B (fun a0 a1 a2 a3 a4 a5 a6 a7 a8 a9 a10 S => κ (a0, a1, a2, a3, a4, a5, a6, a7, a8, a9, a10) S) x.1 x.2.1 x.2.2.1 x.2.2.2.1 x.2.2.2.2.1 x.2.2.2.2.2.1 x.2.2.2.2.2.2.1 x.2.2.2.2.2.2.2.1 x.2.2.2.2.2.2.2.2.1 x.2.2.2.2.2.2.2.2.2.1 x.2.2.2.2.2.2.2.2.2.2 S) m (a0, a1, a2, a3, a4, a5, a6, a7, a8, a9, a10) S) x.1 x.2.1 x.2.2.1 x.2.2.2.1 x.2.2.2.2.1 x.2.2.2.2.2.1 x.2.2.2.2.2.2.1 x.2.2.2.2.2.2.2.1 x.2.2.2.2.2.2.2.2.1 x.2.2.2.2.2.2.2.2.2.1 x.2.2.2.2.2.2.2.2.2.2 S = B (lR11 B m) x.1 x.2.1 x.2.2.1 x.2.2.2.1 x.2.2.2.2.1 x.2.2.2.2.2.1 x.2.2.2.2.2.2.1 x.2.2.2.2.2.2.2.1 x.2.2.2.2.2.2.2.2.1 x.2.2.2.2.2.2.2.2.2.1 x.2.2.2.2.2.2.2.2.2.2 S
      rw [this]
  rw [xLg (fun l => (l i0, l i1, l i2, l i3, l i4, l i5, l i6, l i7, l i8, l i9, l i10)) (B := (fun x S κ => B (fun a0 a1 a2 a3 a4 a5 a6 a7 a8 a9 a10 S => κ (a0, a1, a2, a3, a4, a5, a6, a7, a8, a9, a10) S) x.1 x.2.1 x.2.2.1 x.2.2.2.1 x.2.2.2.2.1 x.2.2.2.2.2.1 x.2.2.2.2.2.2.1 x.2.2.2.2.2.2.2.1 x.2.2.2.2.2.2.2.2.1 x.2.2.2.2.2.2.2.2.2.1 x.2.2.2.2.2.2.2.2.2.2 S)) (fun l t S κ => h l t S fun a0 a1 a2 a3 a4 a5 a6 a7 a8 a9 a10 S => κ (a0, a1, a2, a3, a4, a5, a6, a7, a8, a9, a10) S) q, ← e]
  exact key loopN (l i0, l i1, l i2, l i3, l i4, l i5, l i6, l i7, l i8, l i9, l i10) S
noncomputable def lR12 (B : (AV → AV → AV → AV → AV → AV → AV → AV → AV → AV → AV → AV → St → Prop) → AV → AV → AV → AV → AV → AV → AV → AV → AV → AV → AV → AV → St → Prop) (m : Nat) : AV → AV → AV → AV → AV → AV → AV → AV → AV → AV → AV → AV → St → Prop := Nat.rec (motive := fun _ => AV → AV → AV → AV → AV → AV → AV → AV → AV → AV → AV → AV → St → Prop) (fun _ _ _ _ _ _ _ _ _ _ _ _ _ => False) (fun _ ih => B ih) m
noncomputable def lp12 (B : (AV → AV → AV → AV → AV → AV → AV → AV → AV → AV → AV → AV → St → Prop) → AV → AV → AV → AV → AV → AV → AV → AV → AV → AV → AV → AV → St → Prop) : AV → AV → AV → AV → AV → AV → AV → AV → AV → AV → AV → AV → St → Prop := lR12 B loopN
theorem xL12 (i0 : Nat) (i1 : Nat) (i2 : Nat) (i3 : Nat) (i4 : Nat) (i5 : Nat) (i6 : Nat) (i7 : Nat) (i8 : Nat) (i9 : Nat) (i10 : Nat) (i11 : Nat) (B : (AV → AV → AV → AV → AV → AV → AV → AV → AV → AV → AV → AV → St → Prop) → AV → AV → AV → AV → AV → AV → AV → AV → AV → AV → AV → AV → St → Prop) (h : ∀ l t S (κ : AV → AV → AV → AV → AV → AV → AV → AV → AV → AV → AV → AV → St → Prop), wpx C (qL c) l t S (fun l _ S => κ (l i0) (l i1) (l i2) (l i3) (l i4) (l i5) (l i6) (l i7) (l i8) (l i9) (l i10) (l i11) S) ke kr = B κ (l i0) (l i1) (l i2) (l i3) (l i4) (l i5) (l i6) (l i7) (l i8) (l i9) (l i10) (l i11) S) (e : lp12 B (l i0) (l i1) (l i2) (l i3) (l i4) (l i5) (l i6) (l i7) (l i8) (l i9) (l i10) (l i11) S = Z) (q : c = .loop (qL c) := by kernel_rfl) : wpx C c l t S k ke kr = Z := by
  have key : ∀ (m : Nat) (x : AV × AV × AV × AV × AV × AV × AV × AV × AV × AV × AV × AV) (S : St), lpG (fun x S κ => B (fun a0 a1 a2 a3 a4 a5 a6 a7 a8 a9 a10 a11 S => κ (a0, a1, a2, a3, a4, a5, a6, a7, a8, a9, a10, a11) S) x.1 x.2.1 x.2.2.1 x.2.2.2.1 x.2.2.2.2.1 x.2.2.2.2.2.1 x.2.2.2.2.2.2.1 x.2.2.2.2.2.2.2.1 x.2.2.2.2.2.2.2.2.1 x.2.2.2.2.2.2.2.2.2.1 x.2.2.2.2.2.2.2.2.2.2.1 x.2.2.2.2.2.2.2.2.2.2.2 S) m x S = lR12 B m x.1 x.2.1 x.2.2.1 x.2.2.2.1 x.2.2.2.2.1 x.2.2.2.2.2.1 x.2.2.2.2.2.2.1 x.2.2.2.2.2.2.2.1 x.2.2.2.2.2.2.2.2.1 x.2.2.2.2.2.2.2.2.2.1 x.2.2.2.2.2.2.2.2.2.2.1 x.2.2.2.2.2.2.2.2.2.2.2 S := by
    intro m
    induction m with
    | zero => intro x S; rfl
    | succ m ih =>
      intro x S
      have : (fun a0 a1 a2 a3 a4 a5 a6 a7 a8 a9 a10 a11 S => lpG (fun x S κ => B (fun a0 a1 a2 a3 a4 a5 a6 a7 a8 a9 a10 a11 S => κ (a0, a1, a2, a3, a4, a5, a6, a7, a8, a9, a10, a11) S) x.1 x.2.1 x.2.2.1 x.2.2.2.1 x.2.2.2.2.1 x.2.2.2.2.2.1 x.2.2.2.2.2.2.1 x.2.2.2.2.2.2.2.1 x.2.2.2.2.2.2.2.2.1 x.2.2.2.2.2.2.2.2.2.1 x.2.2.2.2.2.2.2.2.2.2.1 x.2.2.2.2.2.2.2.2.2.2.2 S) m (a0, a1, a2, a3, a4, a5, a6, a7, a8, a9, a10, a11) S) = lR12 B m := by
        funext a0; funext a1; funext a2; funext a3; funext a4; funext a5; funext a6; funext a7; funext a8; funext a9; funext a10; funext a11; funext S; exact ih (a0, a1, a2, a3, a4, a5, a6, a7, a8, a9, a10, a11) S
      show B (fun a0 a1 a2 a3 a4 a5 a6 a7 a8 a9 a10 a11 S => lpG (fun x S κ => B (fun a0 a1 a2 a3 a4 a5 a6 a7 a8 a9 a10 a11 S => κ (a0, a1, a2, a3, a4, a5, a6, a7, a8, a9, a10, a11) S) x.1 x.2.1 x.2.2.1 x.2.2.2.1 x.2.2.2.2.1 x.2.2.2.2.2.1 x.2.2.2.2.2.2.1 x.2.2.2.2.2.2.2.1 x.2.2.2.2.2.2.2.2.1 x.2.2.2.2.2.2.2.2.2.1 x.2.2.2.2.2.2.2.2.2.2.1 x.2.2.2.2.2.2.2.2.2.2.2 S) m (a0, a1, a2, a3, a4, a5, a6, a7, a8, a9, a10, a11) S) x.1 x.2.1 x.2.2.1 x.2.2.2.1 x.2.2.2.2.1 x.2.2.2.2.2.1 x.2.2.2.2.2.2.1 x.2.2.2.2.2.2.2.1 x.2.2.2.2.2.2.2.2.1 x.2.2.2.2.2.2.2.2.2.1 x.2.2.2.2.2.2.2.2.2.2.1 x.2.2.2.2.2.2.2.2.2.2.2 S = B (lR12 B m) x.1 x.2.1 x.2.2.1 x.2.2.2.1 x.2.2.2.2.1 x.2.2.2.2.2.1 x.2.2.2.2.2.2.1 x.2.2.2.2.2.2.2.1 x.2.2.2.2.2.2.2.2.1 x.2.2.2.2.2.2.2.2.2.1 x.2.2.2.2.2.2.2.2.2.2.1 x.2.2.2.2.2.2.2.2.2.2.2 S
      rw [this]
  rw [xLg (fun l => (l i0, l i1, l i2, l i3, l i4, l i5, l i6, l i7, l i8, l i9, l i10, l i11)) (B := (fun x S κ => B (fun a0 a1 a2 a3 a4 a5 a6 a7 a8 a9 a10 a11 S => κ (a0, a1, a2, a3, a4, a5, a6, a7, a8, a9, a10, a11) S) x.1 x.2.1 x.2.2.1 x.2.2.2.1 x.2.2.2.2.1 x.2.2.2.2.2.1 x.2.2.2.2.2.2.1 x.2.2.2.2.2.2.2.1 x.2.2.2.2.2.2.2.2.1 x.2.2.2.2.2.2.2.2.2.1 x.2.2.2.2.2.2.2.2.2.2.1 x.2.2.2.2.2.2.2.2.2.2.2 S)) (fun l t S κ => h l t S fun a0 a1 a2 a3 a4 a5 a6 a7 a8 a9 a10 a11 S => κ (a0, a1, a2, a3, a4, a5, a6, a7, a8, a9, a10, a11) S) q, ← e]
  exact key loopN (l i0, l i1, l i2, l i3, l i4, l i5, l i6, l i7, l i8, l i9, l i10, l i11) S
noncomputable def lR13 (B : (AV → AV → AV → AV → AV → AV → AV → AV → AV → AV → AV → AV → AV → St → Prop) → AV → AV → AV → AV → AV → AV → AV → AV → AV → AV → AV → AV → AV → St → Prop) (m : Nat) : AV → AV → AV → AV → AV → AV → AV → AV → AV → AV → AV → AV → AV → St → Prop := Nat.rec (motive := fun _ => AV → AV → AV → AV → AV → AV → AV → AV → AV → AV → AV → AV → AV → St → Prop) (fun _ _ _ _ _ _ _ _ _ _ _ _ _ _ => False) (fun _ ih => B ih) m
noncomputable def lp13 (B : (AV → AV → AV → AV → AV → AV → AV → AV → AV → AV → AV → AV → AV → St → Prop) → AV → AV → AV → AV → AV → AV → AV → AV → AV → AV → AV → AV → AV → St → Prop) : AV → AV → AV → AV → AV → AV → AV → AV → AV → AV → AV → AV → AV → St → Prop := lR13 B loopN
theorem xL13 (i0 : Nat) (i1 : Nat) (i2 : Nat) (i3 : Nat) (i4 : Nat) (i5 : Nat) (i6 : Nat) (i7 : Nat) (i8 : Nat) (i9 : Nat) (i10 : Nat) (i11 : Nat) (i12 : Nat) (B : (AV → AV → AV → AV → AV → AV → AV → AV → AV → AV → AV → AV → AV → St → Prop) → AV → AV → AV → AV → AV → AV → AV → AV → AV → AV → AV → AV → AV → St → Prop) (h : ∀ l t S (κ : AV → AV → AV → AV → AV → AV → AV → AV → AV → AV → AV → AV → AV → St → Prop), wpx C (qL c) l t S (fun l _ S => κ (l i0) (l i1) (l i2) (l i3) (l i4) (l i5) (l i6) (l i7) (l i8) (l i9) (l i10) (l i11) (l i12) S) ke kr = B κ (l i0) (l i1) (l i2) (l i3) (l i4) (l i5) (l i6) (l i7) (l i8) (l i9) (l i10) (l i11) (l i12) S) (e : lp13 B (l i0) (l i1) (l i2) (l i3) (l i4) (l i5) (l i6) (l i7) (l i8) (l i9) (l i10) (l i11) (l i12) S = Z) (q : c = .loop (qL c) := by kernel_rfl) : wpx C c l t S k ke kr = Z := by
  have key : ∀ (m : Nat) (x : AV × AV × AV × AV × AV × AV × AV × AV × AV × AV × AV × AV × AV) (S : St), lpG (fun x S κ => B (fun a0 a1 a2 a3 a4 a5 a6 a7 a8 a9 a10 a11 a12 S => κ (a0, a1, a2, a3, a4, a5, a6, a7, a8, a9, a10, a11, a12) S) x.1 x.2.1 x.2.2.1 x.2.2.2.1 x.2.2.2.2.1 x.2.2.2.2.2.1 x.2.2.2.2.2.2.1 x.2.2.2.2.2.2.2.1 x.2.2.2.2.2.2.2.2.1 x.2.2.2.2.2.2.2.2.2.1 x.2.2.2.2.2.2.2.2.2.2.1 x.2.2.2.2.2.2.2.2.2.2.2.1 x.2.2.2.2.2.2.2.2.2.2.2.2 S) m x S = lR13 B m x.1 x.2.1 x.2.2.1 x.2.2.2.1 x.2.2.2.2.1 x.2.2.2.2.2.1 x.2.2.2.2.2.2.1 x.2.2.2.2.2.2.2.1 x.2.2.2.2.2.2.2.2.1 x.2.2.2.2.2.2.2.2.2.1 x.2.2.2.2.2.2.2.2.2.2.1 x.2.2.2.2.2.2.2.2.2.2.2.1 x.2.2.2.2.2.2.2.2.2.2.2.2 S := by
    intro m
    induction m with
    | zero => intro x S; rfl
    | succ m ih =>
      intro x S
      have : (fun a0 a1 a2 a3 a4 a5 a6 a7 a8 a9 a10 a11 a12 S => lpG (fun x S κ => B (fun a0 a1 a2 a3 a4 a5 a6 a7 a8 a9 a10 a11 a12 S => κ (a0, a1, a2, a3, a4, a5, a6, a7, a8, a9, a10, a11, a12) S) x.1 x.2.1 x.2.2.1 x.2.2.2.1 x.2.2.2.2.1 x.2.2.2.2.2.1 x.2.2.2.2.2.2.1 x.2.2.2.2.2.2.2.1 x.2.2.2.2.2.2.2.2.1 x.2.2.2.2.2.2.2.2.2.1 x.2.2.2.2.2.2.2.2.2.2.1 x.2.2.2.2.2.2.2.2.2.2.2.1 x.2.2.2.2.2.2.2.2.2.2.2.2 S) m (a0, a1, a2, a3, a4, a5, a6, a7, a8, a9, a10, a11, a12) S) = lR13 B m := by
        funext a0; funext a1; funext a2; funext a3; funext a4; funext a5; funext a6; funext a7; funext a8; funext a9; funext a10; funext a11; funext a12; funext S; exact ih (a0, a1, a2, a3, a4, a5, a6, a7, a8, a9, a10, a11, a12) S
      show B (fun a0 a1 a2 a3 a4 a5 a6 a7 a8 a9 a10 a11 a12 S => lpG (fun x S κ => B (fun a0 a1 a2 a3 a4 a5 a6 a7 a8 a9 a10 a11 a12 S => κ (a0, a1, a2, a3, a4, a5, a6, a7, a8, a9, a10, a11, a12) S) x.1 x.2.1 x.2.2.1 x.2.2.2.1 x.2.2.2.2.1 x.2.2.2.2.2.1 x.2.2.2.2.2.2.1 x.2.2.2.2.2.2.2.1 x.2.2.2.2.2.2.2.2.1 x.2.2.2.2.2.2.2.2.2.1 x.2.2.2.2.2.2.2.2.2.2.1 x.2.2.2.2.2.2.2.2.2.2.2.1 x.2.2.2.2.2.2.2.2.2.2.2.2 S) m (a0, a1, a2, a3, a4, a5, a6, a7, a8, a9, a10, a11, a12) S) x.1 x.2.1 x.2.2.1 x.2.2.2.1 x.2.2.2.2.1 x.2.2.2.2.2.1 x.2.2.2.2.2.2.1 x.2.2.2.2.2.2.2.1 x.2.2.2.2.2.2.2.2.1 x.2.2.2.2.2.2.2.2.2.1 x.2.2.2.2.2.2.2.2.2.2.1 x.2.2.2.2.2.2.2.2.2.2.2.1 x.2.2.2.2.2.2.2.2.2.2.2.2 S = B (lR13 B m) x.1 x.2.1 x.2.2.1 x.2.2.2.1 x.2.2.2.2.1 x.2.2.2.2.2.1 x.2.2.2.2.2.2.1 x.2.2.2.2.2.2.2.1 x.2.2.2.2.2.2.2.2.1 x.2.2.2.2.2.2.2.2.2.1 x.2.2.2.2.2.2.2.2.2.2.1 x.2.2.2.2.2.2.2.2.2.2.2.1 x.2.2.2.2.2.2.2.2.2.2.2.2 S
      rw [this]
  rw [xLg (fun l => (l i0, l i1, l i2, l i3, l i4, l i5, l i6, l i7, l i8, l i9, l i10, l i11, l i12)) (B := (fun x S κ => B (fun a0 a1 a2 a3 a4 a5 a6 a7 a8 a9 a10 a11 a12 S => κ (a0, a1, a2, a3, a4, a5, a6, a7, a8, a9, a10, a11, a12) S) x.1 x.2.1 x.2.2.1 x.2.2.2.1 x.2.2.2.2.1 x.2.2.2.2.2.1 x.2.2.2.2.2.2.1 x.2.2.2.2.2.2.2.1 x.2.2.2.2.2.2.2.2.1 x.2.2.2.2.2.2.2.2.2.1 x.2.2.2.2.2.2.2.2.2.2.1 x.2.2.2.2.2.2.2.2.2.2.2.1 x.2.2.2.2.2.2.2.2.2.2.2.2 S)) (fun l t S κ => h l t S fun a0 a1 a2 a3 a4 a5 a6 a7 a8 a9 a10 a11 a12 S => κ (a0, a1, a2, a3, a4, a5, a6, a7, a8, a9, a10, a11, a12) S) q, ← e]
  exact key loopN (l i0, l i1, l i2, l i3, l i4, l i5, l i6, l i7, l i8, l i9, l i10, l i11, l i12) S
noncomputable def lR14 (B : (AV → AV → AV → AV → AV → AV → AV → AV → AV → AV → AV → AV → AV → AV → St → Prop) → AV → AV → AV → AV → AV → AV → AV → AV → AV → AV → AV → AV → AV → AV → St → Prop) (m : Nat) : AV → AV → AV → AV → AV → AV → AV → AV → AV → AV → AV → AV → AV → AV → St → Prop := Nat.rec (motive := fun _ => AV → AV → AV → AV → AV → AV → AV → AV → AV → AV → AV → AV → AV → AV → St → Prop) (fun _ _ _ _ _ _ _ _ _ _ _ _ _ _ _ => False) (fun _ ih => B ih) m
noncomputable def lp14 (B : (AV → AV → AV → AV → AV → AV → AV → AV → AV → AV → AV → AV → AV → AV → St → Prop) → AV → AV → AV → AV → AV → AV → AV → AV → AV → AV → AV → AV → AV → AV → St → Prop) : AV → AV → AV → AV → AV → AV → AV → AV → AV → AV → AV → AV → AV → AV → St → Prop := lR14 B loopN
theorem xL14 (i0 : Nat) (i1 : Nat) (i2 : Nat) (i3 : Nat) (i4 : Nat) (i5 : Nat) (i6 : Nat) (i7 : Nat) (i8 : Nat) (i9 : Nat) (i10 : Nat) (i11 : Nat) (i12 : Nat) (i13 : Nat) (B : (AV → AV → AV → AV → AV → AV → AV → AV → AV → AV → AV → AV → AV → AV → St → Prop) → AV → AV → AV → AV → AV → AV → AV → AV → AV → AV → AV → AV → AV → AV → St → Prop) (h : ∀ l t S (κ : AV → AV → AV → AV → AV → AV → AV → AV → AV → AV → AV → AV → AV → AV → St → Prop), wpx C (qL c) l t S (fun l _ S => κ (l i0) (l i1) (l i2) (l i3) (l i4) (l i5) (l i6) (l i7) (l i8) (l i9) (l i10) (l i11) (l i12) (l i13) S) ke kr = B κ (l i0) (l i1) (l i2) (l i3) (l i4) (l i5) (l i6) (l i7) (l i8) (l i9) (l i10) (l i11) (l i12) (l i13) S) (e : lp14 B (l i0) (l i1) (l i2) (l i3) (l i4) (l i5) (l i6) (l i7) (l i8) (l i9) (l i10) (l i11) (l i12) (l i13) S = Z) (q : c = .loop (qL c) := by kernel_rfl) : wpx C c l t S k ke kr = Z := by
  have key : ∀ (m : Nat) (x : AV × AV × AV × AV × AV × AV × AV × AV × AV × AV × AV × AV × AV × AV) (S : St), lpG (fun x S κ => B (fun a0 a1 a2 a3 a4 a5 a6 a7 a8 a9 a10 a11 a12 a13 S => κ (a0, a1, a2, a3, a4, a5, a6, a7, a8, a9, a10, a11, a12, a13) S) x.1 x.2.1 x.2.2.1 x.2.2.2.1 x.2.2.2.2.1 x.2.2.2.2.2.1 x.2.2.2.2.2.2.1 x.2.2.2.2.2.2.2.1 x.2.2.2.2.2.2.2.2.1 x.2.2.2.2.2.2.2.2.2.1 x.2.2.2.2.2.2.2.2.2.2.1 x.2.2.2.2.2.2.2.2.2.2.2.1 x.2.2.2.2.2.2.2.2.2.2.2.2.1 x.2.2.2.2.2.2.2.2.2.2.2.2.2 S) m x S = lR14 B m x.1 x.2.1 x.2.2.1 x.2.2.2.1 x.2.2.2.2.1 x.2.2.2.2.2.1 x.2.2.2.2.2.2.1 x.2.2.2.2.2.2.2.1 x.2.2.2.2.2.2.2.2.1 x.2.2.2.2.2.2.2.2.2.1 x.2.2.2.2.2.2.2.2.2.2.1 x.2.2.2.2.2.2.2.2.2.2.2.1 x.2.2.2.2.2.2.2.2.2.2.2.2.1 x.2.2.2.2.2.2.2.2.2.2.2.2.2 S := by
    intro m
    induction m with
    | zero => intro x S; rfl
    | succ m ih =>
      intro x S
      have : (fun a0 a1 a2 a3 a4 a5 a6 a7 a8 a9 a10 a11 a12 a13 S => lpG (fun x S κ => B (fun a0 a1 a2 a3 a4 a5 a6 a7 a8 a9 a10 a11 a12 a13 S => κ (a0, a1, a2, a3, a4, a5, a6, a7, a8, a9, a10, a11, a12, a13) S) x.1 x.2.1 x.2.2.1 x.2.2.2.1 x.2.2.2.2.1 x.2.2.2.2.2.1 x.2.2.2.2.2.2.1 x.2.2.2.2.2.2.2.1 x.2.2.2.2.2.2.2.2.1 x.2.2.2.2.2.2.2.2.2.1 x.2.2.2.2.2.2.2.2.2.2.1 x.2.2.2.2.2.2.2.2.2.2.2.1 x.2.2.2.2.2.2.2.2.2.2.2.2.1 x.2.2.2.2.2.2.2.2.2.2.2.2.2 S) m (a0, a1, a2, a3, a4, a5, a6, a7, a8, a9, a10, a11, a12, a13) S) = lR14 B m := by
        funext a0; funext a1; funext a2; funext a3; funext a4; funext a5; funext a6; funext a7; funext a8; funext a9; funext a10; funext a11; funext a12; funext a13; funext S; exact ih (a0, a1, a2, a3, a4, a5, a6, a7, a8, a9, a10, a11, a12, a13) S
      show B (fun a0 a1 a2 a3 a4 a5 a6 a7 a8 a9 a10 a11 a12 a13 S => lpG (fun x S κ => B (fun a0 a1 a2 a3 a4 a5 a6 a7 a8 a9 a10 a11 a12 a13 S => κ (a0, a1, a2, a3, a4, a5, a6, a7, a8, a9, a10, a11, a12, a13) S) x.1 x.2.1 x.2.2.1 x.2.2.2.1 x.2.2.2.2.1 x.2.2.2.2.2.1 x.2.2.2.2.2.2.1 x.2.2.2.2.2.2.2.1 x.2.2.2.2.2.2.2.2.1 x.2.2.2.2.2.2.2.2.2.1 x.2.2.2.2.2.2.2.2.2.2.1 x.2.2.2.2.2.2.2.2.2.2.2.1 x.2.2.2.2.2.2.2.2.2.2.2.2.1 x.2.2.2.2.2.2.2.2.2.2.2.2.2 S) m (a0, a1, a2, a3, a4, a5, a6, a7, a8, a9, a10, a11, a12, a13) S) x.1 x.2.1 x.2.2.1 x.2.2.2.1 x.2.2.2.2.1 x.2.2.2.2.2.1 x.2.2.2.2.2.2.1 x.2.2.2.2.2.2.2.1 x.2.2.2.2.2.2.2.2.1 x.2.2.2.2.2.2.2.2.2.1 x.2.2.2.2.2.2.2.2.2.2.1 x.2.2.2.2.2.2.2.2.2.2.2.1 x.2.2.2.2.2.2.2.2.2.2.2.2.1 x.2.2.2.2.2.2.2.2.2.2.2.2.2 S = B (lR14 B m) x.1 x.2.1 x.2.2.1 x.2.2.2.1 x.2.2.2.2.1 x.2.2.2.2.2.1 x.2.2.2.2.2.2.1 x.2.2.2.2.2.2.2.1 x.2.2.2.2.2.2.2.2.1 x.2.2.2.2.2.2.2.2.2.1 x.2.2.2.2.2.2.2.2.2.2.1 x.2.2.2.2.2.2.2.2.2.2.2.1 x.2.2.2.2.2.2.2.2.2.2.2.2.1 x.2.2.2.2.2.2.2.2.2.2.2.2.2 S
      rw [this]
  rw [xLg (fun l => (l i0, l i1, l i2, l i3, l i4, l i5, l i6, l i7, l i8, l i9, l i10, l i11, l i12, l i13)) (B := (fun x S κ => B (fun a0 a1 a2 a3 a4 a5 a6 a7 a8 a9 a10 a11 a12 a13 S => κ (a0, a1, a2, a3, a4, a5, a6, a7, a8, a9, a10, a11, a12, a13) S) x.1 x.2.1 x.2.2.1 x.2.2.2.1 x.2.2.2.2.1 x.2.2.2.2.2.1 x.2.2.2.2.2.2.1 x.2.2.2.2.2.2.2.1 x.2.2.2.2.2.2.2.2.1 x.2.2.2.2.2.2.2.2.2.1 x.2.2.2.2.2.2.2.2.2.2.1 x.2.2.2.2.2.2.2.2.2.2.2.1 x.2.2.2.2.2.2.2.2.2.2.2.2.1 x.2.2.2.2.2.2.2.2.2.2.2.2.2 S)) (fun l t S κ => h l t S fun a0 a1 a2 a3 a4 a5 a6 a7 a8 a9 a10 a11 a12 a13 S => κ (a0, a1, a2, a3, a4, a5, a6, a7, a8, a9, a10, a11, a12, a13) S) q, ← e]
  exact key loopN (l i0, l i1, l i2, l i3, l i4, l i5, l i6, l i7, l i8, l i9, l i10, l i11, l i12, l i13) S
end
/-- results that are read off cells -/
noncomputable def finV (x : Option AV) (S : St) (k : KS) : Prop := match x with
  | some v => fW v fun v => k v S
  | none => False
noncomputable def ar0 (y : St → Prop) (vs : List AV) (S : St) : Prop := ln vs (y S)
theorem ar0_eq (y : St → Prop) (vs : List AV) (S : St) : ar0 y vs S = match vs with | [] => y S | _ => False := by rcases vs with _ | ⟨a0, r⟩ <;> rfl
theorem fn0 {F : Nat → Option AFn} {f : Nat} {fn : AFn} (hf : F f = some fn) {Y : CS → KS → St → Prop} {Zl : CS → Env → Env → St → KS → Prop} (p : ∀ C l t S k, wpx C fn.body l t S (finX fn.res k) nX (finX fn.res k) = Zl C l t S k) (q : (fun (C : CS) (k : KS) (S : St) => Zl C (initE [] 0) Env.nil S k) = Y := by kernel_rfl) : FnOk F f (fun C vs S k => ar0 (Y C k) vs S) := by
  intro C hC vs S k e
  refine callX_ok hC hf ?_
  rw [p]
  rw [ar0_eq] at e
  split at e
  · rw [← q] at e; exact e
  · exact e.elim
noncomputable def ar1 (y : AV → St → Prop) (vs : List AV) (S : St) : Prop := lc vs fun a0 r => ln r (y a0 S)
theorem ar1_eq (y : AV → St → Prop) (vs : List AV) (S : St) : ar1 y vs S = match vs with | [a0] => y a0 S | _ => False := by rcases vs with _ | ⟨a0, _ | ⟨a1, r⟩⟩ <;> rfl
theorem fn1 {F : Nat → Option AFn} {f : Nat} {fn : AFn} (hf : F f = some fn) {Y : CS → KS → AV → St → Prop} {Zl : CS → Env → Env → St → KS → Prop} (p : ∀ C l t S k, wpx C fn.body l t S (finX fn.res k) nX (finX fn.res k) = Zl C l t S k) (q : (fun (C : CS) (k : KS) (a0 : AV) (S : St) => Zl C (initE [a0] 0) Env.nil S k) = Y := by kernel_rfl) : FnOk F f (fun C vs S k => ar1 (Y C k) vs S) := by
  intro C hC vs S k e
  refine callX_ok hC hf ?_
  rw [p]
  rw [ar1_eq] at e
  split at e
  · rw [← q] at e; exact e
  · exact e.elim
noncomputable def ar2 (y : AV → AV → St → Prop) (vs : List AV) (S : St) : Prop := lc vs fun a0 r => lc r fun a1 r => ln r (y a0 a1 S)
theorem ar2_eq (y : AV → AV → St → Prop) (vs : List AV) (S : St) : ar2 y vs S = match vs with | [a0, a1] => y a0 a1 S | _ => False := by rcases vs with _ | ⟨a0, _ | ⟨a1, _ | ⟨a2, r⟩⟩⟩ <;> rfl
theorem fn2 {F : Nat → Option AFn} {f : Nat} {fn : AFn} (hf : F f = some fn) {Y : CS → KS → AV → AV → St → Prop} {Zl : CS → Env → Env → St → KS → Prop} (p : ∀ C l t S k, wpx C fn.body l t S (finX fn.res k) nX (finX fn.res k) = Zl C l t S k) (q : (fun (C : CS) (k : KS) (a0 a1 : AV) (S : St) => Zl C (initE [a0, a1] 0) Env.nil S k) = Y := by kernel_rfl) : FnOk F f (fun C vs S k => ar2 (Y C k) vs S) := by
  intro C hC vs S k e
  refine callX_ok hC hf ?_
  rw [p]
  rw [ar2_eq] at e
  split at e
  · rw [← q] at e; exact e
  · exact e.elim
noncomputable def ar3 (y : AV → AV → AV → St → Prop) (vs : List AV) (S : St) : Prop := lc vs fun a0 r => lc r fun a1 r => lc r fun a2 r => ln r (y a0 a1 a2 S)
theorem ar3_eq (y : AV → AV → AV → St → Prop) (vs : List AV) (S : St) : ar3 y vs S = match vs with | [a0, a1, a2] => y a0 a1 a2 S | _ => False := by rcases vs with _ | ⟨a0, _ | ⟨a1, _ | ⟨a2, _ | ⟨a3, r⟩⟩⟩⟩ <;> rfl
theorem fn3 {F : Nat → Option AFn} {f : Nat} {fn : AFn} (hf : F f = some fn) {Y : CS → KS → AV → AV → AV → St → Prop} {Zl : CS → Env → Env → St → KS → Prop} (p : ∀ C l t S k, wpx C fn.body l t S (finX fn.res k) nX (finX fn.res k) = Zl C l t S k) (q : (fun (C : CS) (k : KS) (a0 a1 a2 : AV) (S : St) => Zl C (initE [a0, a1, a2] 0) Env.nil S k) = Y := by kernel_rfl) : FnOk F f (fun C vs S k => ar3 (Y C k) vs S) := by
  intro C hC vs S k e
  refine callX_ok hC hf ?_
  rw [p]
  rw [ar3_eq] at e
  split at e
  · rw [← q] at e; exact e
  · exact e.elim
noncomputable def ar4 (y : AV → AV → AV → AV → St → Prop) (vs : List AV) (S : St) : Prop := lc vs fun a0 r => lc r fun a1 r => lc r fun a2 r => lc r fun a3 r => ln r (y a0 a1 a2 a3 S)
theorem ar4_eq (y : AV → AV → AV → AV → St → Prop) (vs : List AV) (S : St) : ar4 y vs S = match vs with | [a0, a1, a2, a3] => y a0 a1 a2 a3 S | _ => False := by rcases vs with _ | ⟨a0, _ | ⟨a1, _ | ⟨a2, _ | ⟨a3, _ | ⟨a4, r⟩⟩⟩⟩⟩ <;> rfl
theorem fn4 {F : Nat → Option AFn} {f : Nat} {fn : AFn} (hf : F f = some fn) {Y : CS → KS → AV → AV → AV → AV → St → Prop} {Zl : CS → Env → Env → St → KS → Prop} (p : ∀ C l t S k, wpx C fn.body l t S (finX fn.res k) nX (finX fn.res k) = Zl C l t S k) (q : (fun (C : CS) (k : KS) (a0 a1 a2 a3 : AV) (S : St) => Zl C (initE [a0, a1, a2, a3] 0) Env.nil S k) = Y := by kernel_rfl) : FnOk F f (fun C vs S k => ar4 (Y C k) vs S) := by
  intro C hC vs S k e
  refine callX_ok hC hf ?_
  rw [p]
  rw [ar4_eq] at e
  split at e
  · rw [← q] at e; exact e
  · exact e.elim
noncomputable def ar5 (y : AV → AV → AV → AV → AV → St → Prop) (vs : List AV) (S : St) : Prop := lc vs fun a0 r => lc r fun a1 r => lc r fun a2 r => lc r fun a3 r => lc r fun a4 r => ln r (y a0 a1 a2 a3 a4 S)
theorem ar5_eq (y : AV → AV → AV → AV → AV → St → Prop) (vs : List AV) (S : St) : ar5 y vs S = match vs with | [a0, a1, a2, a3, a4] => y a0 a1 a2 a3 a4 S | _ => False := by rcases vs with _ | ⟨a0, _ | ⟨a1, _ | ⟨a2, _ | ⟨a3, _ | ⟨a4, _ | ⟨a5, r⟩⟩⟩⟩⟩⟩ <;> rfl
theorem fn5 {F : Nat → Option AFn} {f : Nat} {fn : AFn} (hf : F f = some fn) {Y : CS → KS → AV → AV → AV → AV → AV → St → Prop} {Zl : CS → Env → Env → St → KS → Prop} (p : ∀ C l t S k, wpx C fn.body l t S (finX fn.res k) nX (finX fn.res k) = Zl C l t S k) (q : (fun (C : CS) (k : KS) (a0 a1 a2 a3 a4 : AV) (S : St) => Zl C (initE [a0, a1, a2, a3, a4] 0) Env.nil S k) = Y := by kernel_rfl) : FnOk F f (fun C vs S k => ar5 (Y C k) vs S) := by
  intro C hC vs S k e
  refine callX_ok hC hf ?_
  rw [p]
  rw [ar5_eq] at e
  split at e
  · rw [← q] at e; exact e
  · exact e.elim
noncomputable def ar6 (y : AV → AV → AV → AV → AV → AV → St → Prop) (vs : List AV) (S : St) : Prop := lc vs fun a0 r => lc r fun a1 r => lc r fun a2 r => lc r fun a3 r => lc r fun a4 r => lc r fun a5 r => ln r (y a0 a1 a2 a3 a4 a5 S)
theorem ar6_eq (y : AV → AV → AV → AV → AV → AV → St → Prop) (vs : List AV) (S : St) : ar6 y vs S = match vs with | [a0, a1, a2, a3, a4, a5] => y a0 a1 a2 a3 a4 a5 S | _ => False := by rcases vs with _ | ⟨a0, _ | ⟨a1, _ | ⟨a2, _ | ⟨a3, _ | ⟨a4, _ | ⟨a5, _ | ⟨a6, r⟩⟩⟩⟩⟩⟩⟩ <;> rfl
theorem fn6 {F : Nat → Option AFn} {f : Nat} {fn : AFn} (hf : F f = some fn) {Y : CS → KS → AV → AV → AV → AV → AV → AV → St → Prop} {Zl : CS → Env → Env → St → KS → Prop} (p : ∀ C l t S k, wpx C fn.body l t S (finX fn.res k) nX (finX fn.res k) = Zl C l t S k) (q : (fun (C : CS) (k : KS) (a0 a1 a2 a3 a4 a5 : AV) (S : St) => Zl C (initE [a0, a1, a2, a3, a4, a5] 0) Env.nil S k) = Y := by kernel_rfl) : FnOk F f (fun C vs S k => ar6 (Y C k) vs S) := by
  intro C hC vs S k e
  refine callX_ok hC hf ?_
  rw [p]
  rw [ar6_eq] at e
  split at e
  · rw [← q] at e; exact e
  · exact e.elim
noncomputable def ar7 (y : AV → AV → AV → AV → AV → AV → AV → St → Prop) (vs : List AV) (S : St) : Prop := lc vs fun a0 r => lc r fun a1 r => lc r fun a2 r => lc r fun a3 r => lc r fun a4 r => lc r fun a5 r => lc r fun a6 r => ln r (y a0 a1 a2 a3 a4 a5 a6 S)
theorem ar7_eq (y : AV → AV → AV → AV → AV → AV → AV → St → Prop) (vs : List AV) (S : St) : ar7 y vs S = match vs with | [a0, a1, a2, a3, a4, a5, a6] => y a0 a1 a2 a3 a4 a5 a6 S | _ => False := by rcases vs with _ | ⟨a0, _ | ⟨a1, _ | ⟨a2, _ | ⟨a3, _ | ⟨a4, _ | ⟨a5, _ | ⟨a6, _ | ⟨a7, r⟩⟩⟩⟩⟩⟩⟩⟩ <;> rfl
theorem fn7 {F : Nat → Option AFn} {f : Nat} {fn : AFn} (hf : F f = some fn) {Y : CS → KS → AV → AV → AV → AV → AV → AV → AV → St → Prop} {Zl : CS → Env → Env → St → KS → Prop} (p : ∀ C l t S k, wpx C fn.body l t S (finX fn.res k) nX (finX fn.res k) = Zl C l t S k) (q : (fun (C : CS) (k : KS) (a0 a1 a2 a3 a4 a5 a6 : AV) (S : St) => Zl C (initE [a0, a1, a2, a3, a4, a5, a6] 0) Env.nil S k) = Y := by kernel_rfl) : FnOk F f (fun C vs S k => ar7 (Y C k) vs S) := by
  intro C hC vs S k e
  refine callX_ok hC hf ?_
  rw [p]
  rw [ar7_eq] at e
  split at e
  · rw [← q] at e; exact e
  · exact e.elim
noncomputable def ar8 (y : AV → AV → AV → AV → AV → AV → AV → AV → St → Prop) (vs : List AV) (S : St) : Prop := lc vs fun a0 r => lc r fun a1 r => lc r fun a2 r => lc r fun a3 r => lc r fun a4 r => lc r fun a5 r => lc r fun a6 r => lc r fun a7 r => ln r (y a0 a1 a2 a3 a4 a5 a6 a7 S)
theorem ar8_eq (y : AV → AV → AV → AV → AV → AV → AV → AV → St → Prop) (vs : List AV) (S : St) : ar8 y vs S = match vs with | [a0, a1, a2, a3, a4, a5, a6, a7] => y a0 a1 a2 a3 a4 a5 a6 a7 S | _ => False := by rcases vs with _ | ⟨a0, _ | ⟨a1, _ | ⟨a2, _ | ⟨a3, _ | ⟨a4, _ | ⟨a5, _ | ⟨a6, _ | ⟨a7, _ | ⟨a8, r⟩⟩⟩⟩⟩⟩⟩⟩⟩ <;> rfl
theorem fn8 {F : Nat → Option AFn} {f : Nat} {fn : AFn} (hf : F f = some fn) {Y : CS → KS → AV → AV → AV → AV → AV → AV → AV → AV → St → Prop} {Zl : CS → Env → Env → St → KS → Prop} (p : ∀ C l t S k, wpx C fn.body l t S (finX fn.res k) nX (finX fn.res k) = Zl C l t S k) (q : (fun (C : CS) (k : KS) (a0 a1 a2 a3 a4 a5 a6 a7 : AV) (S : St) => Zl C (initE [a0, a1, a2, a3, a4, a5, a6, a7] 0) Env.nil S k) = Y := by kernel_rfl) : FnOk F f (fun C vs S k => ar8 (Y C k) vs S) := by
  intro C hC vs S k e
  refine callX_ok hC hf ?_
  rw [p]
  rw [ar8_eq] at e
  split at e
  · rw [← q] at e; exact e
  · exact e.elim
noncomputable def ar9 (y : AV → AV → AV → AV → AV → AV → AV → AV → AV → St → Prop) (vs : List AV) (S : St) : Prop := lc vs fun a0 r => lc r fun a1 r => lc r fun a2 r => lc r fun a3 r => lc r fun a4 r => lc r fun a5 r => lc r fun a6 r => lc r fun a7 r => lc r fun a8 r => ln r (y a0 a1 a2 a3 a4 a5 a6 a7 a8 S)
theorem ar9_eq (y : AV → AV → AV → AV → AV → AV → AV → AV → AV → St → Prop) (vs : List AV) (S : St) : ar9 y vs S = match vs with | [a0, a1, a2, a3, a4, a5, a6, a7, a8] => y a0 a1 a2 a3 a4 a5 a6 a7 a8 S | _ => False := by rcases vs with _ | ⟨a0, _ | ⟨a1, _ | ⟨a2, _ | ⟨a3, _ | ⟨a4, _ | ⟨a5, _ | ⟨a6, _ | ⟨a7, _ | ⟨a8, _ | ⟨a9, r⟩⟩⟩⟩⟩⟩⟩⟩⟩⟩ <;> rfl
theorem fn9 {F : Nat → Option AFn} {f : Nat} {fn : AFn} (hf : F f = some fn) {Y : CS → KS → AV → AV → AV → AV → AV → AV → AV → AV → AV → St → Prop} {Zl : CS → Env → Env → St → KS → Prop} (p : ∀ C l t S k, wpx C fn.body l t S (finX fn.res k) nX (finX fn.res k) = Zl C l t S k) (q : (fun (C : CS) (k : KS) (a0 a1 a2 a3 a4 a5 a6 a7 a8 : AV) (S : St) => Zl C (initE [a0, a1, a2, a3, a4, a5, a6, a7, a8] 0) Env.nil S k) = Y := by kernel_rfl) : FnOk F f (fun C vs S k => ar9 (Y C k) vs S) := by
  intro C hC vs S k e
  refine callX_ok hC hf ?_
  rw [p]
  rw [ar9_eq] at e
  split at e
  · rw [← q] at e; exact e
  · exact e.elim
/-- which function a number is: a tree -/
inductive ZT where
  | no
  | leaf (n : Nat) (z : CS → List AV → St → KS → Prop)
  | node (p : Nat) (l r : ZT)
def zNo (C : CS) (vs : List AV) (S : St) (k : KS) : Prop := False
noncomputable def ZT.look : ZT → Nat → CS → List AV → St → KS → Prop := @ZT.rec (fun _ => Nat → CS → List AV → St → KS → Prop) (fun _ => zNo) (fun n z f => Bool.rec (motive := fun _ => CS → List AV → St → KS → Prop) zNo z (Nat.beq f n)) (fun p _ _ l r f => Bool.rec (motive := fun _ => CS → List AV → St → KS → Prop) (r f) (l f) (Nat.ble (Nat.succ f) p))
theorem zNo_ok {F : Nat → Option AFn} (f : Nat) : FnOk F f zNo := fun _ _ _ _ _ e => e.elim
theorem ztL {F : Nat → Option AFn} {f n : Nat} {z : CS → List AV → St → KS → Prop} (h : FnOk F n z) : FnOk F f (ZT.look (.leaf n z) f) := by
  show FnOk F f (Bool.rec (motive := fun _ => CS → List AV → St → KS → Prop) zNo z (Nat.beq f n))
  cases e : Nat.beq f n with
  | false => exact zNo_ok f
  | true =>
    rw [beq_nat, decide_eq_true_eq] at e
    rw [e]; exact h
theorem ztN {F : Nat → Option AFn} {f p : Nat} {l r : ZT} (h1 : FnOk F f (ZT.look l f)) (h2 : FnOk F f (ZT.look r f)) : FnOk F f (ZT.look (.node p l r) f) := by
  show FnOk F f (Bool.rec (motive := fun _ => CS → List AV → St → KS → Prop) (ZT.look r f) (ZT.look l f) (Nat.ble (Nat.succ f) p))
  cases Nat.ble (Nat.succ f) p
  · exact h2
  · exact h1
/-- a function that is known to answer true -/
theorem kTrue_ok {F : Nat → Option AFn} {f : Nat} (h : F f = some kTrue) : FnOk F f (fun C vs S k => ar0 (fun S => k (.b true) S) vs S) := fn0 h (Y := fun C k S => k (.b true) S) (Zl := fun C l t S k => k (.b true) S) fun C l t S k => by kernel_rfl
theorem knownX {P : Program} {F : Nat → Option AFn} (hm : P.follows .mixedOrders = true) (hF : TblOk P F) {ps f : Nat} {g : Func} {fn : AFn} (hg : P.funcs[f]? = some g) (hc : compFn P ps g = some fn) (hf : F f = some fn)
    (h : ∃ n v S', acall F n f [] S0 = some (v, S') ∧ v = .b true) : KnownTrue P f := by
  obtain ⟨n, v, S', h1, rfl⟩ := h
  refine known (n := n) hm hF hg hc ?_
  simp only [acall_def, callOf, hf] at h1
  have e : initT [] = ⟨[], []⟩ := rfl
  rw [e] at h1
  split at h1
  · rename_i T' S2 he
    rw [Option.map_eq_some_iff] at h1
    obtain ⟨u, hu, h2⟩ := h1
    cases h2
    simp only [he, hu]
  · rename_i T' S2 he
    rw [Option.map_eq_some_iff] at h1
    obtain ⟨u, hu, h2⟩ := h1
    cases h2
    simp only [he, hu]
  · cases h1
end Go.AM

/- A table of the program's functions, off the program itself. -/
set_option linter.unusedVariables false
namespace Go.AM
/-- what compFn makes of a function's code -/
def fnOf (o : Option AFn) : AFn := match o with | some f => f | none => ⟨.ret, []⟩
/-- a program's functions, each with the variables that live on (as bits) -/
def bitsOf (l : List (Nat × Nat)) (f : Nat) : Option Nat := match l with | [] => none | (a, b) :: r => bif Nat.beq a f then some b else bitsOf r f
def tblOf (P : Program) (l : List (Nat × Nat)) (f : Nat) : Option AFn := match bitsOf l f, P.funcs[f]? with | some b, some g => compFn P b g | _, _ => none
theorem tblOf_ok (P : Program) (l : List (Nat × Nat)) : TblOk P (tblOf P l) := by
  intro f fn h
  unfold tblOf at h
  split at h
  · rename_i b g _ hg; exact .inl ⟨b, g, hg, h⟩
  · cases h
theorem tblK_ok {P : Program} {t : Nat → Option AFn} (h : TblOk P t) {a : Nat} (ka : KnownTrue P a) : TblOk P (fun f => bif Nat.beq f a then some kTrue else t f) := by
  intro f fn e
  cases hc : Nat.beq f a with
  | true =>
    simp only [hc, cond_true] at e
    cases e
    rw [beq_nat, decide_eq_true_eq] at hc
    subst hc
    exact .inr ⟨rfl, ka⟩
  | false =>
    simp only [hc, cond_false] at e
    exact h f fn e
end Go.AM

/- Logical memory: the rules as rewriting laws. -/
set_option linter.unusedVariables false
set_option linter.unusedSimpArgs false
namespace Go.AM

theorem by_def {α : Type} {a b : α} (h : a = b) : a = b := h
/-! ### only what stands first is looked at -/
def mark {α : Type} (x : α) : α := if 0 = 0 then x else x
@[simp] theorem mark_eq {α : Type} (x : α) : mark x = x := by simp [mark]
@[congr] theorem wpOp_congr {F o vs vs' L k} (h : mark vs = vs') : wpOp F o vs L k = wpOp F o vs' L k := by rw [← h, mark_eq]
@[congr] theorem gdOp_congr {F v v' w o vs L k} (h : mark v = v') : gdOp F v w o vs L k = gdOp F v' w o vs L k := by rw [← h, mark_eq]
@[congr] theorem condW_congr {v v' X Y} (h : mark v = v') : condW v X Y = condW v' X Y := by rw [← h, mark_eq]
@[congr] theorem retL_congr {r r' L k} (h : mark r = r') : retL r L k = retL r' L k := by rw [← h, mark_eq]
@[congr] theorem newL_congr {f vs vs' L k} (h : mark vs = vs') : newL f vs L k = newL f vs' L k := by rw [← h, mark_eq]
@[congr] theorem CallL_congr {F f vs vs' L Q} (h : mark vs = vs') : CallL F f vs L Q = CallL F f vs' L Q := by rw [← h, mark_eq]
@[congr] theorem stL_congr {sz L k vs vs'} (h : mark vs = vs') : stL sz L k vs = stL sz L k vs' := by rw [← h, mark_eq]
@[congr] theorem msetW_congr {L k vs vs'} (h : mark vs = vs') : msetW L k vs = msetW L k vs' := by rw [← h, mark_eq]
@[congr] theorem mdelW_congr {L k vs vs'} (h : mark vs = vs') : mdelW L k vs = mdelW L k vs' := by rw [← h, mark_eq]
@[congr] theorem appW_congr {s b L k vs vs'} (h : mark vs = vs') : appW s b L k vs = appW s b L k vs' := by rw [← h, mark_eq]
@[congr] theorem clrW_congr {z L k vs vs'} (h : mark vs = vs') : clrW z L k vs = clrW z L k vs' := by rw [← h, mark_eq]
@[congr] theorem cpyW_congr {s L k vs vs'} (h : mark vs = vs') : cpyW s L k vs = cpyW s L k vs' := by rw [← h, mark_eq]

@[simp] theorem Env.put_apply (l : Env) (n : Nat) (v : AV) (m : Nat) : (l.put n v) m = if n = m then v else l m := by
  unfold Env.put; rw [beq_nat]; by_cases h : n = m <;> simp [h]

/-! ### code -/
section
variable (F : Nat → Option AFn)
theorem gdOp_bool (x w : Bool) (o vs L k) : gdOp F (.b x) w o vs L k = ((x = w → wpOp F o vs L k) ∧ (x = (!w) → k (.tup []) L)) := by_def rfl
@[simp] theorem gdOp_same (w : Bool) (o vs L k) : gdOp F (.b w) w o vs L k = wpOp F o vs L k := by simp [gdOp_bool]
@[simp] theorem gdOp_tf (o vs L k) : gdOp F (.b true) false o vs L k = k (.tup []) L := by simp [gdOp_bool]
@[simp] theorem gdOp_ft (o vs L k) : gdOp F (.b false) true o vs L k = k (.tup []) L := by simp [gdOp_bool]
@[simp] theorem gdOp_dt (p : Prop) [Decidable p] (o vs L k) : gdOp F (.b (decide p)) true o vs L k = ((p → wpOp F o vs L k) ∧ (¬p → k (.tup []) L)) := by simp [gdOp_bool]
@[simp] theorem gdOp_df (p : Prop) [Decidable p] (o vs L k) : gdOp F (.b (decide p)) false o vs L k = ((¬p → wpOp F o vs L k) ∧ (p → k (.tup []) L)) := by simp [gdOp_bool]
@[simp] theorem gdOp_tup (l w o vs L k) : gdOp F (.tup l) w o vs L k = k (.tup []) L := by_def rfl
theorem condW_bool (x : Bool) (X Y : Prop) : condW (.b x) X Y = ((x = true → X) ∧ (x = false → Y)) := by_def rfl
@[simp] theorem condW_t (X Y : Prop) : condW (.b true) X Y = X := by simp [condW_bool]
@[simp] theorem condW_f (X Y : Prop) : condW (.b false) X Y = Y := by simp [condW_bool]
@[simp] theorem condW_d (p : Prop) [Decidable p] (X Y : Prop) : condW (.b (decide p)) X Y = ((p → X) ∧ (¬p → Y)) := by simp [condW_bool]

@[simp] theorem condW_nd (p : Prop) [Decidable p] (X Y : Prop) : condW (.b (!decide p)) X Y = ((¬p → X) ∧ (p → Y)) := by simp [condW_bool]
@[simp] theorem gdOp_ndt (p : Prop) [Decidable p] (o vs L k) : gdOp F (.b (!decide p)) true o vs L k = ((¬p → wpOp F o vs L k) ∧ (p → k (.tup []) L)) := by simp [gdOp_bool]
@[simp] theorem gdOp_ndf (p : Prop) [Decidable p] (o vs L k) : gdOp F (.b (!decide p)) false o vs L k = ((p → wpOp F o vs L k) ∧ (¬p → k (.tup []) L)) := by simp [gdOp_bool]

/-! ### operations -/
variable (L : Lg) (k : AV → Lg → Prop)
@[simp] theorem wp_mv (x : AV) : wpOp F .mv [x] L k = k x L := by_def rfl
theorem wp_pick (c : Bool) (x y : AV) : wpOp F .pick [.b c, x, y] L k = k (bif c then x else y) L := by_def rfl
@[simp] theorem wp_pick_t (x y : AV) : wpOp F .pick [.b true, x, y] L k = k x L := by_def rfl
@[simp] theorem wp_pick_f (x y : AV) : wpOp F .pick [.b false, x, y] L k = k y L := by_def rfl
@[simp] theorem wp_pick_and (c d : Bool) : wpOp F .pick [.b c, .b d, .b false] L k = k (.b (c && d)) L := by rw [wp_pick]; cases c <;> rfl
@[simp] theorem wp_pick_or (c d : Bool) : wpOp F .pick [.b c, .b true, .b d] L k = k (.b (c || d)) L := by rw [wp_pick]; cases c <;> rfl
@[simp] theorem wp_build (z ps vs) : wpOp F (.build z ps) vs L k = retL ((fillP z ps vs).map .agg) L k := by_def rfl
@[simp] theorem retL_some (v) : retL (some v) L k = k v L := by_def rfl
@[simp] theorem wp_nilchk_p (a) : wpOp F .nilchk [.p (some a)] L k = k (.p (some a)) L := by_def rfl
@[simp] theorem wp_nilchk_f (f a b) : wpOp F .nilchk [.fn f a b] L k = k (.fn f a b) L := by_def rfl
@[simp] theorem wp_add (a b : Int) (j) : wpOp F (.bin .add) [.i j a, .i j b] L k = k (.i j (wr j (a + b))) L := by
  have : kEq j j = true := by cases j <;> rfl
  simp [wpOp, semRL, semR, rBin, isSh, this, binI]
@[simp] theorem wp_sub (a b : Int) (j) : wpOp F (.bin .sub) [.i j a, .i j b] L k = k (.i j (wr j (a - b))) L := by
  have : kEq j j = true := by cases j <;> rfl
  simp [wpOp, semRL, semR, rBin, isSh, this, binI]
@[simp] theorem wp_mul (a b : Int) (j) : wpOp F (.bin .mul) [.i j a, .i j b] L k = k (.i j (wr j (a * b))) L := by
  have : kEq j j = true := by cases j <;> rfl
  simp [wpOp, semRL, semR, rBin, isSh, this, binI]
theorem beq_dec (a b : Int) : (a == b) = decide (a = b) := by rw [Bool.eq_iff_iff]; simp
theorem wp_quo (a b : Int) (j) (h : b ≠ 0) : wpOp F (.bin .quo) [.i j a, .i j b] L k = k (.i j (wr j (a.tdiv b))) L := by
  have : kEq j j = true := by cases j <;> rfl
  simp [wpOp, semRL, semR, rBin, isSh, this, binI, iEq_eq, beq_dec, h]
theorem wp_rem (a b : Int) (j) (h : b ≠ 0) : wpOp F (.bin .rem) [.i j a, .i j b] L k = k (.i j (a.tmod b)) L := by
  have : kEq j j = true := by cases j <;> rfl
  simp [wpOp, semRL, semR, rBin, isSh, this, binI, iEq_eq, beq_dec, h]
@[simp] theorem wp_eql (a b : Int) (j) : wpOp F (.bin .eql) [.i j a, .i j b] L k = k (.b (decide (a = b))) L := by
  have : kEq j j = true := by cases j <;> rfl
  simp [wpOp, semRL, semR, rBin, isSh, this, binI, iEq_eq, beq_dec]
@[simp] theorem wp_neq (a b : Int) (j) : wpOp F (.bin .neq) [.i j a, .i j b] L k = k (.b (decide (a ≠ b))) L := by
  have : kEq j j = true := by cases j <;> rfl
  simp [wpOp, semRL, semR, rBin, isSh, this, binI, iEq_eq, beq_dec]
@[simp] theorem wp_lss (a b : Int) (j) : wpOp F (.bin .lss) [.i j a, .i j b] L k = k (.b (decide (a < b))) L := by
  have : kEq j j = true := by cases j <;> rfl
  simp [wpOp, semRL, semR, rBin, isSh, this, binI, iLt_eq]
@[simp] theorem wp_leq (a b : Int) (j) : wpOp F (.bin .leq) [.i j a, .i j b] L k = k (.b (decide (a ≤ b))) L := by
  have : kEq j j = true := by cases j <;> rfl
  simp [wpOp, semRL, semR, rBin, isSh, this, binI, iLt_eq, ← Int.not_lt]
@[simp] theorem wp_gtr (a b : Int) (j) : wpOp F (.bin .gtr) [.i j a, .i j b] L k = k (.b (decide (b < a))) L := by
  have : kEq j j = true := by cases j <;> rfl
  simp [wpOp, semRL, semR, rBin, isSh, this, binI, iLt_eq]
@[simp] theorem wp_geq (a b : Int) (j) : wpOp F (.bin .geq) [.i j a, .i j b] L k = k (.b (decide (b ≤ a))) L := by
  have : kEq j j = true := by cases j <;> rfl
  simp [wpOp, semRL, semR, rBin, isSh, this, binI, iLt_eq, ← Int.not_lt]
theorem wp_binO (o a b j) (ho : isSh o = false) : wpOp F (.bin o) [.i j a, .i j b] L k = retL (binI o j a b) L k := by
  have : kEq j j = true := by cases j <;> rfl
  simp [wpOp, semRL, semR, rBin, ho, this]
theorem wp_sh (o a b i j) (ho : isSh o = true) : wpOp F (.bin o) [.i i a, .i j b] L k = retL (shI o i a b) L k := by
  simp [wpOp, semRL, semR, rBin, ho]
@[simp] theorem wp_sbin (o x y) : wpOp F (.sbin o) [.s x, .s y] L k = retL (binS o x y) L k := by_def rfl
@[simp] theorem wp_eqb (ng : Bool) (x y : Bool) : wpOp F (.eq ng .bool) [.b x, .b y] L k = k (.b ((x == y) != ng)) L := by_def rfl
theorem wp_eqp (ng : Bool) (x y) : wpOp F (.eq ng .ptr) [.p x, .p y] L k = retL ((eqPL L x y).map fun r => .b (r != ng)) L k := by_def rfl
@[simp] theorem wp_eqp_nn (ng : Bool) : wpOp F (.eq ng .ptr) [.p none, .p none] L k = k (.b (!ng)) L := by cases ng <;> rfl
@[simp] theorem wp_eqp_sn (ng : Bool) (a) : wpOp F (.eq ng .ptr) [.p (some a), .p none] L k = k (.b ng) L := by cases ng <;> rfl
@[simp] theorem wp_eqp_ns (ng : Bool) (a) : wpOp F (.eq ng .ptr) [.p none, .p (some a)] L k = k (.b ng) L := by cases ng <;> rfl
@[simp] theorem wp_eqsl_n (ng : Bool) (a b c) : wpOp F (.eq ng .slnil) [.sl none a b c, .sl none 0 0 0] L k = k (.b (!ng)) L := by cases ng <;> rfl
@[simp] theorem wp_eqsl_s (ng : Bool) (r a b c) : wpOp F (.eq ng .slnil) [.sl (some r) a b c, .sl none 0 0 0] L k = k (.b ng) L := by cases ng <;> rfl
@[simp] theorem wp_eqm_n (ng : Bool) : wpOp F (.eq ng .mapnil) [.m none, .m none] L k = k (.b (!ng)) L := by cases ng <;> rfl
@[simp] theorem wp_eqm_s (ng : Bool) (r) : wpOp F (.eq ng .mapnil) [.m (some r), .m none] L k = k (.b ng) L := by cases ng <;> rfl
theorem wp_eqagg (ng : Bool) (fs x y) : wpOp F (.eq ng (.agg fs)) [.agg x, .agg y] L k = retL ((eqAt x y fs).map fun r => .b (r != ng)) L k := by_def rfl
@[simp] theorem wp_not (x : Bool) : wpOp F (.un .not) [.b x] L k = k (.b (!x)) L := by_def rfl
@[simp] theorem wp_neg (n : Int) (j) : wpOp F (.un .neg) [.i j n] L k = k (.i j (wr j (0 - n))) L := by_def rfl
@[simp] theorem wp_cvtI (n : Int) (i j) : wpOp F (.cvtI j) [.i i n] L k = k (.i j (wr j n)) L := by_def rfl
@[simp] theorem wp_cvtS (x) : wpOp F .cvtS [.s x] L k = k (.s x) L := by_def rfl
@[simp] theorem wp_mkif (t x) : wpOp F (.mkif t) [x] L k = k (.ifc t x) L := by_def rfl
@[simp] theorem wp_mkfn (f n vs) : wpOp F (.mkfn f n) vs L k = k (.fn f (vs.take n) (vs.drop n)) L := by_def rfl
@[simp] theorem wp_slc (s lo hi mx vs) : wpOp F (.slc s lo hi mx) vs L k = retL (slcV s lo hi mx vs) L k := by_def rfl
@[simp] theorem wp_slcS (lo hi vs) : wpOp F (.slcS lo hi) vs L k = retL (slcSV lo hi vs) L k := by_def rfl
@[simp] theorem wp_fad (off n o) : wpOp F (.fad off) [.p (some (n, o))] L k = k (.p (some (n, o + off))) L := by_def rfl
@[simp] theorem wp_fld (off sz l) : wpOp F (.fld off sz) [.agg l] L k = retL (look l off sz) L k := by_def rfl
theorem rIad_eq (s n o len c e : Nat) (i) (x : Int) (h0 : 0 ≤ x) (h1 : x < len) (h : PM AB) : rIad s h [.sl (some (n, o)) len c e, .i i x] = some (.p (some (n, o + x.toNat * s))) := by
  obtain ⟨m, rfl⟩ := Int.eq_ofNat_of_zero_le h0
  have : Nat.blt m len = true := by rw [blt_nat]; simp; omega
  show (bif Nat.blt m len then _ else _) = _
  rw [this]; rfl
theorem wp_iad (s n o len c e : Nat) (i) (x : Int) (h0 : 0 ≤ x) (h1 : x < len) : wpOp F (.iad s) [.sl (some (n, o)) len c e, .i i x] L k = k (.p (some (n, o + x.toNat * s))) L := by
  simp [wpOp, semRL, semR, rIad_eq s n o len c e i x h0 h1]
theorem wp_iadA (len s n o : Nat) (i) (x : Int) (h0 : 0 ≤ x) (h1 : x < len) : wpOp F (.iadA len s) [.p (some (n, o)), .i i x] L k = k (.p (some (n, o + x.toNat * s))) L := by
  obtain ⟨m, rfl⟩ := Int.eq_ofNat_of_zero_le h0
  have : Nat.blt m len = true := by rw [blt_nat]; simp; omega
  show retL (bif Nat.blt m len then _ else _) L k = _
  rw [this]; rfl
theorem wp_ixS (x : List UInt8) (i) (n : Int) (h0 : 0 ≤ n) (h1 : n < x.length) : wpOp F .ixS [.s x, .i i n] L k = k (.i .u8 (x[n.toNat]'(by omega)).toNat) L := by
  obtain ⟨m, rfl⟩ := Int.eq_ofNat_of_zero_le h0
  show retL ((x[m]?).map _) L k = _
  rw [List.getElem?_eq_getElem (by simpa using h1)]; rfl
@[simp] theorem wp_ext (n l) : wpOp F (.ext n) [.tup l] L k = retL l[n]? L k := by_def rfl
@[simp] theorem wp_lenSl (a n c e) : wpOp F .lenSl [.sl a n c e] L k = k (.i .i64 n) L := by_def rfl
@[simp] theorem wp_lenS (x) : wpOp F .lenS [.s x] L k = k (.i .i64 x.length) L := by_def rfl
@[simp] theorem wp_lenC (n x) : wpOp F (.lenC n) [x] L k = k (.i .i64 n) L := by_def rfl
@[simp] theorem wp_min2 (a b : Int) (j) : wpOp F .min [.i j a, .i j b] L k = k (.i j (min a b)) L := by
  have : kEq j j = true := by cases j <;> rfl
  simp only [wpOp, semRL, semR, rMin, minL, this, cond_true, retL, iLt_eq]
  congr 2
  by_cases h : b < a
  · simp [h]; omega
  · simp [h]; omega
@[simp] theorem wp_max2 (a b : Int) (j) : wpOp F .max [.i j a, .i j b] L k = k (.i j (max a b)) L := by
  have : kEq j j = true := by cases j <;> rfl
  simp only [wpOp, semRL, semR, rMax, minL, this, cond_true, retL, iLt_eq]
  congr 2
  by_cases h : a < b
  · simp [h]; omega
  · simp [h]; omega
@[simp] theorem wp_max3 (a b c : Int) (j) : wpOp F .max [.i j a, .i j b, .i j c] L k = k (.i j (max (max a b) c)) L := by
  have : kEq j j = true := by cases j <;> rfl
  simp only [wpOp, semRL, semR, rMax, minL, this, cond_true, retL, iLt_eq]
  congr 2
  by_cases h : a < b
  · simp only [h, decide_true, cond_true]
    by_cases h2 : b < c
    · simp [h2]; omega
    · simp [h2]; omega
  · simp only [h, decide_false, cond_false]
    by_cases h2 : a < c
    · simp [h2]; omega
    · simp [h2]; omega
theorem wp_cvtB (vs) : wpOp F .cvtB vs L k = retL (rCvtBL L vs) L k := by_def rfl
@[simp] theorem wp_ld (sz a) : wpOp F (.ld sz) [.p (some a)] L k = retL (rdL L a sz) L k := by_def rfl
@[simp] theorem wp_lkup (z ok vs) : wpOp F (.lkup z ok) vs L k = retL (rLkupL z ok L vs) L k := by_def rfl
@[simp] theorem wp_mlen (vs) : wpOp F .mlen vs L k = retL (rMlenL L vs) L k := by_def rfl
@[simp] theorem wp_alloc (z) : wpOp F (.alloc z) [] L k = ∀ b, L b = none → k (.p (some (b, 0))) (L.put b (.raw (.cells z))) := by_def rfl
@[simp] theorem wp_bslice (z len size ps vs) : wpOp F (.bslice z len size ps) vs L k = newL (aBslice z len size ps) vs L k := by_def rfl
@[simp] theorem wp_box (v) : wpOp F .box [v] L k = newL aBox [v] L k := by_def rfl
@[simp] theorem wp_mkmap : wpOp F .mkmap [] L k = ∀ b, L b = none → k (.m (some b)) (L.put b (.raw (.map []))) := by_def rfl
theorem wp_mksl (z bytes i j) (l c : Nat) (h : l ≤ c) (h2 : c * bytes ≤ 70368744177664) : wpOp F (.mksl z bytes) [.i i l, .i j c] L k = ∀ b, L b = none → k (.sl (some (b, 0)) l c 0) (L.put b (.raw (.cells (reps z c)))) := by
  have e : ∀ b, aMksl z bytes b [.i i l, .i j c] = some (.cells (reps z c), .sl (some (b, 0)) l c 0) := by
    intro b
    show (bif Nat.ble l c && Nat.ble (c * bytes) 70368744177664 then _ else _) = _
    simp [ble_nat, h, h2]
  simp [wpOp, newL, e]
@[simp] theorem wp_st (sz a v) : wpOp F (.st sz) [.p (some a), v] L k = stL sz L k [.p (some a), v] := by_def rfl
@[simp] theorem wp_mset (vs) : wpOp F .mset vs L k = msetW L k vs := by_def rfl
@[simp] theorem wp_mdel (vs) : wpOp F .mdel vs L k = mdelW L k vs := by_def rfl
@[simp] theorem wp_app (s b vs) : wpOp F (.app s b) vs L k = appW s b L k vs := by_def rfl
@[simp] theorem wp_clr (z vs) : wpOp F (.clr z) vs L k = clrW z L k vs := by_def rfl
@[simp] theorem wp_cpy (s vs) : wpOp F (.cpy s) vs L k = cpyW s L k vs := by_def rfl
@[simp] theorem wp_call (f vs) : wpOp F (.call f) vs L k = CallL F f vs L k := by_def rfl
@[simp] theorem wp_callv (f fst cap vs) : wpOp F .callv (.fn f fst cap :: vs) L k = CallL F f (fst ++ vs ++ cap) L k := by_def rfl
end

@[simp] theorem fin1_some (v : AV) (Q : AV → Lg → Prop) (L : Lg) : fin1 (some v) Q L = ∃ L', Sees L L' ∧ Q v L' := by_def rfl

/-! ### cells -/
@[simp] theorem splice_nil (c : List AV) (n : Nat) : splice c n [] = c := by simp [splice]
@[simp] theorem cellsOf_b (x) : (AV.b x).cellsOf = some [.b x] := by_def rfl
@[simp] theorem cellsOf_i (j x) : (AV.i j x).cellsOf = some [.i j x] := by_def rfl
@[simp] theorem cellsOf_s (x) : (AV.s x).cellsOf = some [.s x] := by_def rfl
@[simp] theorem cellsOf_p (x) : (AV.p x).cellsOf = some [.p x] := by_def rfl
@[simp] theorem cellsOf_m (x) : (AV.m x).cellsOf = some [.m x] := by_def rfl
@[simp] theorem cellsOf_sl (a b c d) : (AV.sl a b c d).cellsOf = some [.sl a b c d] := by_def rfl
@[simp] theorem cellsOf_fn (a b c) : (AV.fn a b c).cellsOf = some [.fn a b c] := by_def rfl
@[simp] theorem cellsOf_ifc (a b) : (AV.ifc a b).cellsOf = some [.ifc a b] := by_def rfl
@[simp] theorem cellsOf_nili : (AV.nili).cellsOf = some [.nili] := by_def rfl
@[simp] theorem cellsOf_nilf : (AV.nilf).cellsOf = some [.nilf] := by_def rfl
theorem cellsOf_agg (l : List AV) (h : l.all AV.one = true) : (AV.agg l).cellsOf = some l := by simp [AV.cellsOf, h]
@[simp] theorem one_b (x) : (AV.b x).one = true := by_def rfl
@[simp] theorem one_i (j x) : (AV.i j x).one = true := by_def rfl
@[simp] theorem one_s (x) : (AV.s x).one = true := by_def rfl
@[simp] theorem one_p (x) : (AV.p x).one = true := by_def rfl
@[simp] theorem one_m (x) : (AV.m x).one = true := by_def rfl
@[simp] theorem one_sl (a b c d) : (AV.sl a b c d).one = true := by_def rfl
@[simp] theorem one_fn (a b c) : (AV.fn a b c).one = true := by_def rfl
/-! ### for what is printed -/
abbrev TF := Nat → Option AFn
abbrev TN := Nat → Nat
abbrev TQ := AV → Lg → Prop
abbrev TK := Env → Lg → Prop
def nE : Nat → Kn := fun _ _ _ _ => False
section
variable {F : TF} {l t : Env} {L : Lg} {k : Kn} {ke : Nat → Kn} {kr : Kn} {Z : Prop}
theorem wpS {a b : ACode} {G : Kn} (h : ∀ l t L, wp F b l t L k ke kr = G l t L) (e : wp F a l t L G ke kr = Z) : wp F (.seq a b) l t L k ke kr = Z := by
  rw [← e, wpq_seq]
  exact congrArg (fun X : Kn => wp F a l t L X ke kr) (funext fun l => funext fun t => funext fun L => h l t L)
theorem wpC {c : Opd} {x y : ACode} {X Y : Prop} (hx : wp F x l t L k ke kr = X) (hy : wp F y l t L k ke kr = Y) (e : condW (evO l t c) X Y = Z) : wp F (.cond c x y) l t L k ke kr = Z := by
  rw [← e, wpq_cond, hx, hy]
theorem wpB {i : Nat} {c : ACode} (h : wp F c l t L k (fun j l t L => bif Nat.beq j i then k l t L else ke j l t L) kr = Z) : wp F (.block i c) l t L k ke kr = Z := h
theorem wpL {c : ACode} {B : Env → Env → Lg → TK → Prop} (h : ∀ l t L (k : TK), wp F c l t L (fun l _ L => k l L) ke kr = B l t L k) (e : loopW B l L = Z) : wp F (.loop c) l t L k ke kr = Z := by
  rw [← e, wpq_loop]
  exact congrArg (fun B => loopW B l L) (funext fun l => funext fun t => funext fun L => funext fun k => h l t L k)
end
end Go.AM

/- Logical memory: what is hidden is opened and shut; reading and writing known cells. -/
set_option linter.unusedVariables false
set_option linter.unusedSimpArgs false
namespace Go.AM

/-! ### two blocks, and many -/
def Lg.two (r b : Nat) (c d : LC) : Lg := fun m => if m = r then some c else if m = b then some d else none
theorem over_two (L : Lg) {r b : Nat} (h : b ≠ r) (c d : LC) : (Lg.two r b c d).over L = (L.put b d).put r c := by
  funext m
  unfold Lg.over Lg.two Lg.put
  by_cases h1 : m = r
  · simp [h1]
  · by_cases h2 : m = b
    · subst h2; simp [h1]
    · simp [h1, h2]
theorem over_del (M L : Lg) {r : Nat} (h : M r ≠ none) : M.over (L.del r) = M.over L := by
  funext m
  unfold Lg.over Lg.del
  by_cases h1 : m = r
  · subst h1
    cases h2 : M m with
    | none => exact absurd h2 h
    | some c => rfl
  · simp [h1]
/-- What is hidden at a name is opened ahead of a call. -/
theorem CallL.opens {F : Nat → Option AFn} {f : Nat} {vs : List AV} {L : Lg} {Q : AV → Lg → Prop} {r : Nat} {P : Hp → Prop} (e : L r = some (.abs P))
    (h : ∀ hm, P hm → ∃ M : Lg, Sat M hm ∧ M r ≠ none ∧ ((∀ b c, M b = some c → b ≠ r → L b = none) → CallL F f vs (M.over L) Q)) : CallL F f vs L Q := by
  apply CallL.unfold e
  intro hm hP
  obtain ⟨M, hs, hr, hc⟩ := h hm hP
  refine ⟨M, hs, fun hf => ?_⟩
  rw [over_del M L hr]
  exact hc hf
theorem Sees.shut {L M : Lg} {r : Nat} {P : Hp → Prop} (hf : ∀ b c, M b = some c → b ≠ r → L b = none) (hr : (∃ cs, M r = some (.raw (.cells cs))) ∨ ∃ Q, M r = some (.abs Q)) (hP : ∀ h, Sat M h → P h) : Sees (M.over L) (L.put r (.abs P)) := by
  have h1 := Sees.fold (L := M.over L) (M := M) (r := r) (P := P) (fun b c hb => by simp [Lg.over, hb]) hr hP
  have h2 : ((M.over L).minus M).put r (.abs P) = L.put r (.abs P) := by
    funext m
    unfold Lg.put
    by_cases hm : m = r
    · simp [hm]
    · simp only [hm, if_false]
      cases h3 : M m with
      | none => simp [Lg.over, Lg.minus, h3]
      | some c => simp only [Lg.minus, h3]; exact (hf m c h3 hm).symm
  rw [h2] at h1
  exact h1
/-- What may be seen at names of a kind becomes one thing; what else has come is let go. -/
theorem Sees.shutAt {L Lf : Lg} {r : Nat} {P : Hp → Prop} (ids : Nat → Prop) (hr : ids r) (h1 : ∀ b c, ¬ ids b → L b = some c → Lf b = some c) (h2 : ∀ b, ids b → b ≠ r → L b = none)
    (h3 : (∃ cs, Lf r = some (.raw (.cells cs))) ∨ ∃ Q, Lf r = some (.abs Q)) (hP : ∀ (M : Lg) h, (∀ b, ids b → M b = Lf b) → (∀ b, ¬ ids b → M b = none) → Sat M h → P h) : Sees Lf (L.put r (.abs P)) := by
  classical
  let M : Lg := fun b => if ids b then Lf b else none
  have hM : ∀ b, ids b → M b = Lf b := fun b hb => by simp [M, hb]
  have hN : ∀ b, ¬ ids b → M b = none := fun b hb => by simp [M, hb]
  have e1 : Sees Lf (M.over L) := by
    apply Sees.drop
    intro b c hb
    unfold Lg.over at hb
    by_cases hi : ids b
    · rw [hM b hi] at hb
      cases h4 : Lf b with
      | some d => rw [h4] at hb; exact hb
      | none =>
        rw [h4] at hb
        by_cases hbr : b = r
        · subst hbr; rcases h3 with ⟨cs, h3⟩ | ⟨Q, h3⟩ <;> rw [h3] at h4 <;> cases h4
        · rw [h2 b hi hbr] at hb; cases hb
    · rw [hN b hi] at hb
      exact h1 b c hi hb
  refine e1.trans (Sees.shut ?_ ?_ fun h hs => hP M h hM hN hs)
  · intro b c hb hbr
    by_cases hi : ids b
    · exact h2 b hi hbr
    · rw [hN b hi] at hb; cases hb
  · rw [hM r hr]; exact h3
theorem CallL.open2 {F : Nat → Option AFn} {f : Nat} {vs : List AV} {L : Lg} {Q : AV → Lg → Prop} {r : Nat} {P : Hp → Prop} (e : L r = some (.abs P))
    (h : ∀ hm, P hm → ∃ b c d, b ≠ r ∧ Sat (Lg.two r b c d) hm ∧ (L b = none → CallL F f vs ((L.put b d).put r c) Q)) : CallL F f vs L Q := by
  apply CallL.opens e
  intro hm hP
  obtain ⟨b, c, d, hb, hs, hc⟩ := h hm hP
  refine ⟨Lg.two r b c d, hs, by simp [Lg.two], fun hf => ?_⟩
  rw [over_two L hb]
  exact hc (hf b d (by simp [Lg.two, hb]) hb)
theorem Sees.shut2 {L : Lg} {r b : Nat} {cs : List AV} {d : LC} {P : Hp → Prop} (hb : b ≠ r) (hf : L b = none) (hP : ∀ h, Sat (Lg.two r b (.raw (.cells cs)) d) h → P h) : Sees ((L.put b d).put r (.raw (.cells cs))) (L.put r (.abs P)) := by
  rw [← over_two L hb]
  refine Sees.shut ?_ (.inl ⟨cs, by simp [Lg.two]⟩) hP
  intro b' c' h1 h2
  unfold Lg.two at h1
  simp only [h2, if_false] at h1
  split at h1
  · rename_i h3; subst h3; exact hf
  · cases h1

theorem Lg.put3 (L : Lg) {n m : Nat} (h : n ≠ m) (c d e : LC) : ((L.put n c).put m d).put n e = (L.put n e).put m d := by
  rw [Lg.put_comm _ (Ne.symm h), Lg.put_put]
/-! ### the same -/
@[simp] theorem kEq_self (j : IntKind) : kEq j j = true := by cases j <;> rfl
theorem beq_self (n : Nat) : Nat.beq n n = true := by rw [beq_nat]; simp
@[simp] theorem sameV_i (j : IntKind) (x : Int) : sameV (.i j x) (.i j x) = true := by simp [sameV, same1, iEq_eq]
@[simp] theorem sameV_b (x : Bool) : sameV (.b x) (.b x) = true := by simp [sameV, same1]
@[simp] theorem sameV_p (x : Option (Nat × Nat)) : sameV (.p x) (.p x) = true := by cases x <;> simp [sameV, same1, beq_self]
@[simp] theorem sameV_m (x : Option Nat) : sameV (.m x) (.m x) = true := by cases x <;> simp [sameV, same1, beq_self]
@[simp] theorem sameV_sl (a : Option (Nat × Nat)) (n c e : Nat) : sameV (.sl a n c e) (.sl a n c e) = true := by cases a <;> simp [sameV, same1, beq_self]
/-! ### cells -/
theorem splice_one (c : List AV) (o : Nat) (v : AV) (h : o < c.length) : splice c o [v] = c.set o v := by
  unfold splice
  rw [List.set_eq_take_append_cons_drop]
  simp [h]
theorem rdL_cell {L : Lg} {b o : Nat} {c : List AV} (h : L b = some (.raw (.cells c))) : rdL L (b, o) none = c[o]? := by
  simp [rdL, h, AB.read, look]
theorem rdL_cells {L : Lg} {b o n : Nat} {c : List AV} (h : L b = some (.raw (.cells c))) (hn : o + n ≤ c.length) : rdL L (b, o) (some n) = some (.agg ((c.drop o).take n)) := by
  simp [rdL, h, AB.read, look, cut, ble_nat, hn]
theorem rdL_ro {L : Lg} {b o : Nat} {c : List AV} (h : L b = some (.raw (.ro c))) : rdL L (b, o) none = c[o]? := by
  simp [rdL, h, AB.read, look]
theorem rdL_ros {L : Lg} {b o n : Nat} {c : List AV} (h : L b = some (.raw (.ro c))) (hn : o + n ≤ c.length) : rdL L (b, o) (some n) = some (.agg ((c.drop o).take n)) := by
  simp [rdL, h, AB.read, look, cut, ble_nat, hn]
theorem stL_cell {L : Lg} {b o : Nat} {c : List AV} {v : AV} {k : AV → Lg → Prop} (h : L b = some (.raw (.cells c))) (ho : o < c.length) (hv : v.cellsOf = some [v]) : stL 1 L k [.p (some (b, o)), v] = k .bad (L.put b (.raw (.cells (c.set o v)))) := by
  have h1 : v.one = true := by
    have := cellsOf_one hv
    simpa using this
  have h2 : o + 1 ≤ c.length := ho
  simp [stL, hv, wrL, h, h1, splice_one c o v ho, h2]
theorem stL_cells {L : Lg} {b o n : Nat} {c l : List AV} {k : AV → Lg → Prop} (h : L b = some (.raw (.cells c))) (hl : l.all AV.one = true) (hn : l.length = n) (ho : o + n ≤ c.length) : stL n L k [.p (some (b, o)), .agg l] = k .bad (L.put b (.raw (.cells (splice c o l)))) := by
  subst hn
  have hl' : ∀ x, x ∈ l → x.one = true := List.all_eq_true.1 hl
  simp only [stL, cellsOf_agg l hl, if_true, wrL, h, ho, hl, and_self]
/-- a box: a block of its own -/
theorem box_one (F : Nat → Option AFn) (v : AV) (L : Lg) (k : AV → Lg → Prop) (hv : v.cellsOf = some [v]) : wpOp F .box [v] L k = ∀ b, L b = none → k (.p (some (b, 0))) (L.put b (.raw (.cells [v]))) := by
  simp [newL, aBox, hv]
theorem box_agg (F : Nat → Option AFn) (l : List AV) (L : Lg) (k : AV → Lg → Prop) (hl : l.all AV.one = true) : wpOp F .box [.agg l] L k = ∀ b, L b = none → k (.p (some (b, 0))) (L.put b (.raw (.cells l))) := by
  simp [newL, aBox, cellsOf_agg l hl]
theorem cellsOf_agg' (l : List AV) : (AV.agg l).cellsOf = if l.all AV.one = true then some l else none := by
  simp only [AV.cellsOf]
  cases h : l.all AV.one <;> simp
theorem newL_box (v : AV) (L : Lg) (k : AV → Lg → Prop) {l : List AV} (hv : v.cellsOf = some l) : newL aBox [v] L k = ∀ b, L b = none → k (.p (some (b, 0))) (L.put b (.raw (.cells l))) := by
  simp [newL, aBox, hv]
theorem newL_box_agg (l : List AV) (L : Lg) (k : AV → Lg → Prop) (h : l.all AV.one = true) : newL aBox [.agg l] L k = ∀ b, L b = none → k (.p (some (b, 0))) (L.put b (.raw (.cells l))) := newL_box _ L k (cellsOf_agg l h)
@[simp] theorem newL_box_agg2 (x y : AV) (L : Lg) (k : AV → Lg → Prop) (h1 : x.one = true) (h2 : y.one = true) : newL aBox [.agg [x, y]] L k = ∀ b, L b = none → k (.p (some (b, 0))) (L.put b (.raw (.cells [x, y]))) := newL_box_agg _ L k (by simp [h1, h2])
@[simp] theorem newL_box_agg3 (x y z : AV) (L : Lg) (k : AV → Lg → Prop) (h1 : x.one = true) (h2 : y.one = true) (h3 : z.one = true) : newL aBox [.agg [x, y, z]] L k = ∀ b, L b = none → k (.p (some (b, 0))) (L.put b (.raw (.cells [x, y, z]))) := newL_box_agg _ L k (by simp [h1, h2, h3])
@[simp] theorem newL_box_agg5 (x y z u v : AV) (L : Lg) (k : AV → Lg → Prop) (h1 : x.one = true) (h2 : y.one = true) (h3 : z.one = true) (h4 : u.one = true) (h5 : v.one = true) : newL aBox [.agg [x, y, z, u, v]] L k = ∀ b, L b = none → k (.p (some (b, 0))) (L.put b (.raw (.cells [x, y, z, u, v]))) := newL_box_agg _ L k (by simp [h1, h2, h3, h4, h5])
@[simp] theorem newL_box_i (j n) (L : Lg) (k : AV → Lg → Prop) : newL aBox [.i j n] L k = ∀ b, L b = none → k (.p (some (b, 0))) (L.put b (.raw (.cells [.i j n]))) := newL_box _ L k rfl
@[simp] theorem newL_box_b (n) (L : Lg) (k : AV → Lg → Prop) : newL aBox [.b n] L k = ∀ b, L b = none → k (.p (some (b, 0))) (L.put b (.raw (.cells [.b n]))) := newL_box _ L k rfl
@[simp] theorem newL_box_p (n) (L : Lg) (k : AV → Lg → Prop) : newL aBox [.p n] L k = ∀ b, L b = none → k (.p (some (b, 0))) (L.put b (.raw (.cells [.p n]))) := newL_box _ L k rfl
@[simp] theorem newL_box_sl (a b c d) (L : Lg) (k : AV → Lg → Prop) : newL aBox [.sl a b c d] L k = ∀ r, L r = none → k (.p (some (r, 0))) (L.put r (.raw (.cells [.sl a b c d]))) := newL_box _ L k rfl
theorem newL_bslice {z : List AV} {len size : Nat} {ps : List Nat} {vs c : List AV} (L : Lg) (k : AV → Lg → Prop) (h : fillP (reps z len) (ps.map fun i => (i * size, size)) vs = some c) (h1 : c.all AV.one = true) :
    newL (aBslice z len size ps) vs L k = ∀ b, L b = none → k (.sl (some (b, 0)) len len 0) (L.put b (.raw (.cells c))) := by
  simp [newL, aBslice, h, h1]
theorem reps_one' (v : AV) : ∀ n, reps [v] n = List.replicate n v
  | 0 => rfl
  | n + 1 => by simp [reps, reps_one' v n, List.replicate_succ]

theorem loopW_intro {B : Env → Env → Lg → (Env → Lg → Prop) → Prop} {l : Env} {L : Lg} (I : Nat → Env → Lg → Prop) (n : Nat) (h0 : I n l L) (h : ∀ n l t L, I n l L → B l t L (fun l L => ∃ m, m < n ∧ I m l L)) : loopW B l L := ⟨I, ⟨n, h0⟩, h⟩
@[simp] theorem initE_cons (v : AV) (r : List AV) (i : Nat) : initE (v :: r) i = (initE r (i + 1)).put i v := rfl
@[simp] theorem initE_nil (i n : Nat) : initE [] i n = .bad := rfl
@[simp] theorem evO_c (l t : Env) (v : AV) : evO l t (.c v) = v := rfl
theorem res_cell_tmp (L : Lg) {b o n : Nat} {c : List AV} (v : AV) (h : L b = some (.raw (.cells c))) (hn : o + n ≤ c.length) : resVL Env.nil Env.nil L [.cell (.c (.p (some (b, o)))) (some n), .tmp (.c v)] = some (.tup [.agg ((c.drop o).take n), v]) := by
  simp [resVL, resLL, resOneL, rdL_cells h hn]
/-! ### a slice of one's own, that is appended to -/
def OwnSl (L : Lg) (v : AV) (cs : List AV) (n size : Nat) : Prop :=
  (n = 0 ∧ cs = [] ∧ v = .sl none 0 0 0) ∨ ∃ b, 0 < n ∧ v = .sl (some (b, 0)) n n size ∧ L b = some (.raw (.cells cs)) ∧ cs.length = n * size
/-- the block of a slice of one's own -/
def slB : AV → Option Nat
  | .sl (some (b, _)) _ _ _ => some b
  | _ => none
def Lg.delO (L : Lg) : Option Nat → Lg
  | none => L
  | some b => L.del b
/-- a slice that has come: nothing, or a block that was not there -/
def FreshSl (L : Lg) (v : AV) (cs : List AV) (n size : Nat) (L' : Lg) : Prop :=
  (n = 0 ∧ cs = [] ∧ v = .sl none 0 0 0 ∧ L' = L) ∨ ∃ b ex, L b = none ∧ 0 < n ∧ v = .sl (some (b, 0)) n n ex ∧ cs.length = n * size ∧ L' = L.put b (.raw (.cells cs))
/-- L' has all that L has -/
def Ext2 (L L' : Lg) : Prop := ∀ b c, L b = some c → L' b = some c
theorem Ext2.refl (L : Lg) : Ext2 L L := fun _ _ h => h
theorem Ext2.trans {L M K : Lg} (h : Ext2 L M) (k : Ext2 M K) : Ext2 L K := fun b c e => k b c (h b c e)
theorem Ext2.put {L M : Lg} (h : Ext2 L M) {b : Nat} (hb : L b = none) (c : LC) : Ext2 L (M.put b c) := fun d e hd => by
  have : d ≠ b := by rintro rfl; rw [hb] at hd; cases hd
  rw [Lg.put_ne _ _ _ this]; exact h d e hd
theorem Ext2.del {L M : Lg} (h : Ext2 L M) {b : Nat} (hb : L b = none) : Ext2 L (M.del b) := fun d e hd => by
  have : d ≠ b := by rintro rfl; rw [hb] at hd; cases hd
  rw [Lg.del_apply, if_neg this]; exact h d e hd
theorem Ext2.delO {L M : Lg} (h : Ext2 L M) {o : Option Nat} (hb : ∀ b, o = some b → L b = none) : Ext2 L (M.delO o) := by
  cases o with
  | none => exact h
  | some b => exact h.del (hb b rfl)
theorem Ext2.none {L M : Lg} (h : Ext2 L M) {b : Nat} (hb : M b = none) : L b = none := by
  cases e : L b with
  | none => rfl
  | some c => rw [h b c e] at hb; cases hb
theorem Ext2.sees {L M : Lg} (h : Ext2 L M) : Sees M L := Sees.drop h
theorem OwnSl.app {L : Lg} {v : AV} {cs : List AV} {n size bytes : Nat} (h : OwnSl L v cs n size) (hsz : 0 < size) {src : AV} {new : List AV} {m c e : Nat} {a : Option (Nat × Nat)} (hs : src = .sl a m c e) (hm : 0 < m) (hr : rdCellsL L a (m * size) = some new) (hn : new.length = m * size) (h1 : new.all AV.one = true) (hb : (n + m) * bytes ≤ 70368744177664)
    {k : AV → Lg → Prop} (hk : ∀ b, L b = none → k (.sl (some (b, 0)) (n + m) (n + m) size) ((L.delO (slB v)).put b (.raw (.cells (cs ++ new))))) : appW size bytes L k [v, src] := by
  subst hs
  rcases h with ⟨rfl, rfl, rfl⟩ | ⟨b, h0, rfl, hL, hl⟩
  · simp only [appW, hr, appL, h1, true_and]
    have h2 : ¬ (0 + m ≤ 0) := by omega
    simp only [h2, if_false, hb, true_and, Nat.zero_mul, rdCellsL, goneL, if_true, List.nil_append]
    exact hk
  · simp only [appW, hr, appL, h1, true_and]
    have h2 : ¬ (n + m ≤ n) := by omega
    have h3 : rdCellsL L (some (b, 0)) (n * size) = some cs := by
      simp only [rdCellsL, hL, AB.read, cut, ble_nat, Nat.zero_add, hl, Nat.le_refl, decide_true, cond_true, List.drop_zero]
      rw [← hl, List.take_length]
    have h4 : ¬ size = 0 := by omega
    simp only [h2, if_false, hb, true_and, h3, goneL, h4, if_true, hL]
    exact hk
theorem OwnSl.of_app {L : Lg} {v : AV} {cs new : List AV} {n m size b : Nat} (h : OwnSl L v cs n size) (hm : 0 < m) (hn : new.length = m * size) : OwnSl ((L.delO (slB v)).put b (.raw (.cells (cs ++ new)))) (.sl (some (b, 0)) (n + m) (n + m) size) (cs ++ new) (n + m) size := by
  refine .inr ⟨b, by omega, rfl, Lg.put_same _ _ _, ?_⟩
  rcases h with ⟨rfl, rfl, rfl⟩ | ⟨b, h0, rfl, hL, hl⟩
  · simp [hn]
  · simp [hl, hn, Nat.add_mul]
theorem appW_grow {L L' : Lg} {size bytes len cap ex m c e : Nat} {a b : Option (Nat × Nat)} {new old : List AV} {k : AV → Lg → Prop} (hr : rdCellsL L b (m * size) = some new) (h1 : new.all AV.one = true) (hlt : ¬ len + m ≤ cap)
    (hb : (len + m) * bytes ≤ 70368744177664) (ho : rdCellsL L a (len * size) = some old) (hg : goneL L a ex size = some L') (hk : ∀ b, L b = none → k (.sl (some (b, 0)) (len + m) (len + m) size) (L'.put b (.raw (.cells (old ++ new))))) :
    appW size bytes L k [.sl a len cap ex, .sl b m c e] := by
  simp only [appW, hr, appL, h1, true_and, hlt, if_false, hb, ho, hg]
  exact hk
theorem appW_room {L L' : Lg} {size bytes len cap ex m c e r o : Nat} {b : Option (Nat × Nat)} {new : List AV} {k : AV → Lg → Prop} (hr : rdCellsL L b (m * size) = some new) (h1 : new.all AV.one = true) (hle : len + m ≤ cap) (hm : m ≠ 0)
    (hw : wrL L (r, o + len * size) new = some L') (hk : k (.sl (some (r, o)) (len + m) cap ex) L') : appW size bytes L k [.sl (some (r, o)) len cap ex, .sl b m c e] := by
  simp only [appW, hr, appL, h1, true_and, hle, if_true, hm, if_false, hw]
  exact hk
end Go.AM

/- a row's arguments: slices that are read only. -/
set_option linter.unusedVariables false
namespace Go.AM
open Go.RowKit

/-- what stands for the arguments' memory -/
structure AR (W : World) (S : St) (β : Bt) (L : Lg) : Prop where
  mod : Mod S L
  rel : Rel β W.heap.size S.h W
  wf : S.wf
  free : ∀ k, S.nx ≤ k → β k = none

def Bt.put (β : Bt) (n : Nat) (x : Nat × Nat × Nat) : Bt := fun m => if m = n then some x else β m
theorem AR.ext {W : World} {S : St} {β : Bt} {L : Lg} (h : AR W S β L) (x : Nat × Nat × Nat) : Ext β (Bt.put β S.nx x) := by
  intro n y e
  unfold Bt.put
  split
  · rename_i h9; subst h9; rw [h.free _ (Nat.le_refl _)] at e; cases e
  · exact e
theorem AR.slice {W : World} {S : St} {β : Bt} {L : Lg} (h : AR W S β L) {b off : Nat} {c : List AV} {cur t fr} (hb : W.heap[b]? = some (.cells cur t fr)) (hc : CellsR β c off cur) :
    AR W ⟨S.h.set S.nx (some (.ro c)), S.nx + 1⟩ (Bt.put β S.nx (b, off, 0)) (L.put S.nx (.raw (.ro c))) := by
  have he := h.ext (b, off, 0)
  have hlt : b < W.heap.size := (Array.getElem?_eq_some_iff.1 hb).1
  refine ⟨h.mod.new _, ⟨?_, ?_, ?_, h.rel.le, h.rel.gl.mono he fun _ _ => rfl⟩, ?_, ?_⟩
  · intro n bl b' o z hg hn
    rw [PM.get_set] at hg
    unfold Bt.put at hn
    split at hg
    · rename_i h9
      rw [if_pos h9] at hn
      cases hg; cases hn
      exact ⟨cur, t, fr, hb, hc.mono he⟩
    · rename_i h9
      rw [if_neg h9] at hn
      exact (h.rel.blk n bl b' o z hg hn).mono he
  · intro n m bl bm b' x y hg hm ho hn hm2
    rw [PM.get_set] at hg hm
    unfold Bt.put at hn hm2
    split at hg
    · cases hg; simp [AB.own] at ho
    · rename_i h9
      rw [if_neg h9] at hn
      have hbase := (h.rel.blk n bl b' x.1 x.2 hg hn).le ho
      split at hm
      · rename_i h8
        rw [if_pos h8] at hm2
        simp only [Option.some.injEq, Prod.mk.injEq] at hm2
        have := hm2.1
        have h3 := h.rel.lt n b' x hn
        have h4 := h.rel.le
        omega
      · rename_i h8
        rw [if_neg h8] at hm2
        exact h.rel.inj n m bl bm b' x y hg hm ho hn hm2
  · intro n b' x hn
    unfold Bt.put at hn
    split at hn
    · cases hn; exact hlt
    · exact h.rel.lt n b' x hn
  · intro n bl hg
    rw [PM.get_set] at hg
    split at hg
    · rename_i h9; subst h9; exact Nat.lt_succ_self _
    · exact Nat.lt_succ_of_lt (h.wf n bl hg)
  · intro k hk
    have h9 : k ≠ S.nx := by have : S.nx + 1 ≤ k := hk; omega
    unfold Bt.put
    rw [if_neg h9]
    exact h.free k (by have : S.nx + 1 ≤ k := hk; omega)
/-- a call that answers true, at a row's arguments -/
theorem AR.calls {W : World} {S : St} {β : Bt} {L : Lg} (h : AR W S β L) {P : Program} {F : Nat → Option AFn} (hm : P.follows .mixedOrders = true) (hF : TblOk P F) {f : Nat} {vs : List AV} {as : Array Value} (hv : VRs β vs as.toList)
    (hc : CallL F f vs L fun v _ => v = .b true) : Calls P f as W fun e w' => e = .returned (.bool true) ∧ Below W.heap.size W w' := by
  obtain ⟨n, v, S', h1, L', h2, rfl⟩ := hc S h.mod
  exact calls_true hm hF h1 h.wf hv h.rel (fun k h3 _ => h.free k h3)
/-- a slice's stand-in -/
def ArgSl (L : Lg) (v : AV) (cs : List AV) (n size : Nat) : Prop := cs.length = n * size ∧ ((n = 0 ∧ v = .sl none 0 0 0) ∨ ∃ b cap, v = .sl (some (b, 0)) n cap 0 ∧ L b = some (.raw (.ro cs)))
theorem ArgSl.len {F : Nat → Option AFn} {L : Lg} {a : AV} {cs : List AV} {n size : Nat} (h : ArgSl L a cs n size) (M : Lg) (k : AV → Lg → Prop) : wpOp F .lenSl [a] M k = k (.i .i64 n) M := by
  obtain ⟨_, ⟨rfl, rfl⟩ | ⟨b, cap, rfl, _⟩⟩ := h
  · simp
  · simp
theorem ArgSl.get {L : Lg} {a : AV} {cs : List AV} {n size : Nat} (h : ArgSl L a cs n size) {i : Nat} (hi : i < n) : ∃ b cap, a = .sl (some (b, 0)) n cap 0 ∧ L b = some (.raw (.ro cs)) := by
  obtain ⟨_, ⟨rfl, rfl⟩ | ⟨b, cap, rfl, e⟩⟩ := h
  · omega
  · exact ⟨b, cap, rfl, e⟩
theorem ArgSl.ext {L L' : Lg} {v : AV} {cs : List AV} {n size : Nat} (h : ArgSl L v cs n size) (e : Ext2 L L') : ArgSl L' v cs n size := by
  obtain ⟨h1, h2 | ⟨b, cap, h2, h3⟩⟩ := h
  · exact ⟨h1, .inl h2⟩
  · exact ⟨h1, .inr ⟨b, cap, h2, e b _ h3⟩⟩
def icl (l : List Int) : List AV := l.map fun n => .i .i64 n
/-- a slice of numbers among the arguments -/
theorem AR.ints {H : Type} {enc : TypeId × Value → H} {P : Program} {W : World} {S : St} {β : Bt} {L : Lg} (h : AR W S β L) {t e : TypeId} {v : Value} {d : DataW H} {ps : List MemPlace} (ht : P.underlying t = some (.slice e)) (he : P.underlying e = some (.int .i64)) (hc : P.cellsOf e = 1)
    {base : Nat} (hval : Value.okWide P W .any base t v) (hd : DataW.Trod enc P W 0 (fun _ => true) true t v d ps) :
    ∃ (l : List Int) (S' : St) (β' : Bt) (L' : Lg) (a : AV), AR W S' β' L' ∧ Ext β β' ∧ Ext2 L L' ∧ VR β' a v ∧ ArgSl L' a (icl l) l.length 1 := by
  obtain ⟨a0, len, cap, rfl⟩ := Go.WideShapes.okWide_slice ht hval
  obtain ⟨fuel, hf⟩ := hd
  have hf : DataW.trod enc P W 0 (fun _ => true) true fuel t [.slice a0 len cap] = some (d, ps) := hf
  rcases Go.ChangeShapes.open_ints ht he hc hf with ⟨h0, _⟩ | ⟨a, len', cap', zs, h0, hb, hl, hm, hz, _, hcell, hw⟩
  · cases h0
    exact ⟨[], S, β, L, _, h, Ext.refl β, Ext2.refl L, .sln, by simp [icl], .inl ⟨rfl, rfl⟩⟩
  · cases h0
    have hok : Cell.ok P W .any base t (.slice (some a) len cap) := by
      simp only [Value.okWide, ht, Cell.okWide] at hval
      exact hval
    simp only [Cell.ok, ht] at hok
    obtain ⟨_, _, _, hsp, row, cells, hsh, _⟩ := hok
    obtain ⟨ab, aoff, asp⟩ := a
    simp only at hsp
    subst hsp
    have hsh' : ∃ cur t fr, W.heap[ab]? = some (.cells cur t fr) := by
      unfold World.shape? at hsh
      split at hsh
      · rename_i cur el fr hh; exact ⟨_, _, _, hh⟩
      · cases hsh
    obtain ⟨cur, tt, fr, hh⟩ := hsh'
    have hzl : zs.length = cap := by simpa using hz
    have hcr : CellsR β (icl (zs.take len)) aoff cur := by
      intro i x hx
      unfold icl at hx
      rw [List.getElem?_map] at hx
      simp only [Option.map_eq_some_iff] at hx
      obtain ⟨n, hn, rfl⟩ := hx
      have hi : i < zs.length := by
        have := (List.getElem?_eq_some_iff.1 hn).1
        simp at this; omega
      have := hcell i hi
      refine ⟨.int .i64 n, ?_, .i _ _⟩
      rw [Go.WideShapes.add_plain] at this
      simp only [World.cell?, hh, Option.isSome_none, Bool.false_eq_true, if_false] at this
      rw [this]
      have h5 : zs[i]? = some n := by
        rw [List.getElem?_take] at hn
        split at hn
        · exact hn
        · cases hn
      simp [List.getD, h5]
    have hlen : (zs.take len).length = len := by simp; omega
    refine ⟨zs.take len, _, _, _, .sl (some (S.nx, 0)) len cap 0, h.slice hh hcr, h.ext _, ?_, ?_, ?_⟩
    · exact (Ext2.refl L).put (h.mod.fresh (Nat.le_refl _)) _
    · exact .sl (b := ab) (o := aoff) (z := 0) (by simp [Bt.put]) hl (Nat.le_refl _) (fun _ => rfl) (fun h9 => absurd rfl h9) (.inr (by simp))
    · refine ⟨by simp [icl], .inr ⟨S.nx, cap, by rw [hlen], Lg.put_same _ _ _⟩⟩
end Go.AM

/- The strict machine at numbers that are not known: what each quick operation is. -/
set_option linter.unusedVariables false
namespace Go.AM
section
variable {S : St} {k : KS} {a b : Int}
theorem bAdd_i : bAdd (.i .i64 a) (.i .i64 b) S k = k (.i .i64 (wr .i64 (a + b))) S := addK_eq .i64 a b _
theorem bSub_i : bSub (.i .i64 a) (.i .i64 b) S k = k (.i .i64 (wr .i64 (a - b))) S := subK_eq .i64 a b _
theorem bLt_i : bLt (.i .i64 a) (.i .i64 b) S k = bR (k (.b true) S) (k (.b false) S) (iLt a b) := by rw [← ltR_eq]; rfl
theorem bGt_i : bGt (.i .i64 a) (.i .i64 b) S k = bR (k (.b true) S) (k (.b false) S) (iLt b a) := by rw [← ltR_eq]; rfl
theorem bLe_i : bLe (.i .i64 a) (.i .i64 b) S k = bR (k (.b false) S) (k (.b true) S) (iLt b a) := by rw [← ltR_eq]; rfl
theorem bGe_i : bGe (.i .i64 a) (.i .i64 b) S k = bR (k (.b false) S) (k (.b true) S) (iLt a b) := by rw [← ltR_eq]; rfl
theorem bR_t {X Y : Prop} : bR X Y true = X := rfl
theorem bR_f {X Y : Prop} : bR X Y false = Y := rfl
theorem gdO_tt {f : KS → Prop} : gdO (.b true) true f S k = f k := rfl
theorem gdO_tf {f : KS → Prop} : gdO (.b true) false f S k = k (.tup []) S := rfl
theorem gdO_ft {f : KS → Prop} : gdO (.b false) true f S k = k (.tup []) S := rfl
theorem gdO_ff {f : KS → Prop} : gdO (.b false) false f S k = f k := rfl
theorem sMv_1 {x : AV} : sMv [x] S k = k x S := rfl
theorem bPick_t {x y : AV} : bPick (.b true) x y S k = k x S := rfl
theorem bPick_f {x y : AV} : bPick (.b false) x y S k = k y S := rfl
theorem condX_t {X Y : Prop} : condX (.b true) X Y = X := rfl
theorem condX_f {X Y : Prop} : condX (.b false) X Y = Y := rfl
theorem lt_t (h : a < b) : iLt a b = true := by rw [iLt_eq]; simpa using h
theorem lt_f (h : b ≤ a) : iLt a b = false := by rw [iLt_eq]; simp; omega
end
/-- the rest, not below nought -/
def rdN (n a : Int) : Int := ((a.tmod n) + n).tmod n
theorem tmN {n : Int} (hn : 0 < n) (a : Int) : -(n - 1) ≤ a.tmod n ∧ a.tmod n ≤ n - 1 := by
  have h1 := Int.tmod_lt_of_pos a hn
  have h2 := Int.lt_tmod_of_pos a hn
  omega
theorem rdN_pos {n : Int} (hn : 0 < n) (a : Int) : 0 ≤ rdN n a ∧ rdN n a ≤ n - 1 := by
  have h := tmN hn a
  have h1 := tmN hn (a.tmod n + n)
  have h2 := Int.tmod_nonneg (a := a.tmod n + n) n (by omega)
  unfold rdN; omega
theorem rdN_id {n : Int} (hn : 0 < n) {b : Int} (h0 : 0 ≤ b) (h1 : b ≤ n - 1) : rdN n b = b := by
  unfold rdN
  rw [Int.tmod_eq_of_lt h0 (by omega), Int.tmod_eq_emod_of_nonneg (by omega), Int.add_emod_right, Int.emod_eq_of_lt h0 (by omega)]
theorem rdN_rdN {n : Int} (hn : 0 < n) (a : Int) : rdN n (rdN n a) = rdN n a := rdN_id hn (rdN_pos hn a).1 (rdN_pos hn a).2
theorem rem_i {n : Int} (hn : 0 < n) (h : PM AB) (a : Int) : semR (.bin .rem) h [.i .i64 a, .i .i64 n] = some (.i .i64 (a.tmod n)) := by
  have e : iEq n 0 = false := by rw [iEq_eq]; simp; omega
  simp [semR, rBin, isSh, kEq, binI, e]
theorem round_i {n : Int} (hn : 0 < n) (hn2 : n ≤ 1000000) (a : Int) (S : St) (k : KS) :
    (sR (.bin .rem) [.i .i64 a, .i .i64 n] S fun v1 S1 => bAdd v1 (.i .i64 n) S1 fun v2 S2 => sR (.bin .rem) [v2, .i .i64 n] S2 fun v3 S3 => k v3 S3) = k (.i .i64 (rdN n a)) S := by
  have h := tmN hn a
  simp only [sR_eq, rem_i hn, bAdd_i]
  rw [wr_id (by omega) (by omega)]
  rfl
theorem of {P : Prop} (h : P = (AV.b true = AV.b true)) : P := h.mpr rfl
end Go.AM
