/- More fuel, the same answer; small laws for evaluating the abstract machine at open values. -/
import Derived.Test.YtjmnmaaipcbmnaaGreatAmR
set_option linter.unusedVariables false
set_option linter.unusedSimpArgs false
namespace Go.AM

def Sub (c c' : Cll) : Prop := ∀ f vs S r, c f vs S = some r → c' f vs S = some r
theorem semE_sub {c c' : Cll} (h : Sub c c') {o : AOp} {S : St} {vs : List AV} {r : AV × St} (hs : semE o c S vs = some r) : semE o c' S vs = some r := by
  cases o <;> simp only [semE] at hs ⊢ <;> try exact hs
  case call f => exact h _ _ _ _ hs
  case callv =>
    obtain ⟨f, fst, cap, us, rfl, hs⟩ := eCallv_some hs
    exact h _ _ _ _ hs
theorem semOp_sub {c c' : Cll} (h : Sub c c') {o : AOp} {S : St} {vs : List AV} {r : AV × St} (hs : semOp o c S vs = some r) : semOp o c' S vs = some r := by
  cases hcl : o.cl <;> simp only [semOp, hcl] at hs ⊢
  · exact hs
  · exact hs
  · exact semE_sub h hs
theorem step1_sub {c c' : Cll} (h : Sub c c') {o : Op1} {T : Tm} {S : St} {r : Tm × St} (hs : step1 c o T S = some r) : step1 c' o T S = some r := by
  unfold step1 at hs ⊢
  split at hs
  · split at hs
    · rename_i he
      rw [semOp_sub h he]
      exact hs
    · cases hs
  · exact hs
  · cases hs
theorem runOps_sub {c c' : Cll} (h : Sub c c') : ∀ {l : List Op1} {T : Tm} {S : St} {r : Tm × St}, runOps c l T S = some r → runOps c' l T S = some r
  | [], _, _, _, hs => hs
  | o :: l, T, S, r, hs => by
    rw [runOps_cons] at hs ⊢
    split at hs
    · rename_i he
      rw [step1_sub h he]
      exact runOps_sub h hs
    · cases hs
theorem trace_sub {c c' : Cll} (h : Sub c c') : ∀ {l : List Op1} {T : Tm} {S : St} {r : List (Tm × St)}, trace c l T S = some r → trace c' l T S = some r
  | [], _, _, _, hs => hs
  | o :: l, T, S, r, hs => by
    unfold trace at hs ⊢
    split at hs
    · rename_i he
      rw [step1_sub h he]
      rw [Option.map_eq_some_iff] at hs ⊢
      obtain ⟨u, hu, hr⟩ := hs
      exact ⟨u, trace_sub h hu, hr⟩
    · cases hs
def SubE (E E' : Ec) : Prop := ∀ c T S r, E c T S = some r → E' c T S = some r
theorem callOf_sub {F : Nat → Option AFn} {E E' : Ec} (h : SubE E E') : Sub (callOf F E) (callOf F E') := by
  intro f vs S r hs
  unfold callOf at hs ⊢
  split at hs
  · cases hs
  · rename_i fn _
    split at hs
    · rename_i he; simp only [h _ _ _ _ he]; exact hs
    · rename_i he; simp only [h _ _ _ _ he]; exact hs
    · cases hs
theorem exec1_sub {F : Nat → Option AFn} {E E' : Ec} (h : SubE E E') : SubE (exec1 F E) (exec1 F E') := by
  have hc := callOf_sub (F := F) h
  intro c T S r hs
  cases c with
  | skip => exact hs
  | reg ops =>
    simp only [exec1, xReg] at hs ⊢
    split at hs
    · rename_i he; rw [runOps_sub hc he]; exact hs
    · cases hs
  | regD ops chk =>
    simp only [exec1, xRegD] at hs ⊢
    split at hs
    · rename_i he; rw [trace_sub hc he]; exact hs
    · cases hs
  | seq a b =>
    simp only [exec1, xSeq] at hs ⊢
    split at hs
    · rename_i he; rw [h _ _ _ _ he]; exact h _ _ _ _ hs
    · rename_i hne
      rw [h _ _ _ _ hs]
      split
      · rename_i e; cases e; exact absurd hs (hne _ _)
      · rfl
  | cond c x y =>
    simp only [exec1, xCond] at hs ⊢
    split at hs
    · exact h _ _ _ _ hs
    · exact h _ _ _ _ hs
    · cases hs
  | block id c =>
    simp only [exec1, xBlock] at hs ⊢
    split at hs
    · rename_i he; rw [h _ _ _ _ he]; exact hs
    · rename_i hne
      rw [h _ _ _ _ hs]
      split
      · rename_i e; cases e; exact absurd hs (hne _ _ _)
      · rfl
  | loop c =>
    simp only [exec1, xLoop] at hs ⊢
    split at hs
    · rename_i he; rw [h _ _ _ _ he]; exact h _ _ _ _ hs
    · rename_i hne
      rw [h _ _ _ _ hs]
      split
      · rename_i e; cases e; exact absurd hs (hne _ _)
      · rfl
  | exit id => exact hs
  | ret => exact hs
theorem exec_sub (F : Nat → Option AFn) : ∀ n, SubE (exec F n) (exec F (n + 1))
  | 0 => fun _ _ _ _ h => by cases h
  | n + 1 => exec1_sub (exec_sub F n)
theorem exec_le {F : Nat → Option AFn} {n m : Nat} (h : n ≤ m) : SubE (exec F n) (exec F m) := by
  induction m with
  | zero => have : n = 0 := by omega
            subst this; exact fun _ _ _ _ h => h
  | succ m ih =>
    by_cases e : n = m + 1
    · subst e; exact fun _ _ _ _ h => h
    · exact fun c T S r hs => exec_sub F m c T S r (ih (by omega) c T S r hs)
theorem acall_le {F : Nat → Option AFn} {n m : Nat} (h : n ≤ m) {f : Nat} {vs : List AV} {S : St} {r : AV × St} (hs : acall F n f vs S = some r) : acall F m f vs S = some r := callOf_sub (exec_le h) f vs S r hs

/-- A call that answers true, of a function that is called by the judge's world: what the row asks. -/
theorem calls_true {P : Program} {F : Nat → Option AFn} (hm : P.follows .mixedOrders = true) (hF : TblOk P F) {n f : Nat} {vs : List AV} {as : Array Value} {S S' : St} {w : World} {β : Bt} (h : acall F n f vs S = some (.b true, S'))
    (hwf : S.wf) (hv : VRs β vs as.toList) (hR : Rel β w.heap.size S.h w) (hfree : Free β S.nx S'.nx) :
    Calls P f as w fun e w' => e = .returned (.bool true) ∧ RowKit.Below w.heap.size w w' := by
  refine ((acall_sound hm hF n f vs S _ S' h).2 β w as hwf hv hR hfree).mono ?_
  rintro e w' ⟨γ, v', rfl, h1, h2⟩
  cases h1
  exact ⟨rfl, h2.bel⟩
/-- Nothing in memory. -/
theorem rel_nil (w : World) : Rel (fun _ => none) w.heap.size .nil w := by
  refine ⟨?_, ?_, ?_, Nat.le_refl _⟩
  · intro n bl b o z h; cases h
  · intro n m bl bm b x y h; cases h
  · intro n b x h; cases h
theorem wf_nil (n : Nat) : St.wf ⟨.nil, n⟩ := fun m bl h => by cases h
theorem calls_true0 {P : Program} {F : Nat → Option AFn} (hm : P.follows .mixedOrders = true) (hF : TblOk P F) {n f : Nat} {vs : List AV} {as : Array Value} {S' : St} {w : World} (h : acall F n f vs ⟨.nil, 0⟩ = some (.b true, S')) (hv : VRs (fun _ => none) vs as.toList) :
    Calls P f as w fun e w' => e = .returned (.bool true) ∧ RowKit.Below w.heap.size w w' :=
  calls_true hm hF h (wf_nil 0) hv (rel_nil w) (fun _ _ _ => rfl)

/-- what a function's end makes of its body's -/
noncomputable def finish (r : List ResV) : Option (Ex × Tm × St) → Option (AV × St)
  | some (.norm, T', S') => (resV T' S'.h r).map fun v => (v, S')
  | some (.ret, T', S') => (resV T' S'.h r).map fun v => (v, S')
  | _ => none
theorem callOf_fn {F : Nat → Option AFn} {E : Ec} {f : Nat} {fn : AFn} (h : F f = some fn) (vs : List AV) (S : St) : callOf F E f vs S = finish fn.res (E fn.body (initT vs) S) := by
  simp only [callOf, h]
  generalize E fn.body (initT vs) S = r
  cases r with
  | none => rfl
  | some r => obtain ⟨x, T, S⟩ := r; cases x <;> rfl
def isT : Option (AV × St) → Bool
  | some (.b true, _) => true
  | _ => false
theorem isT_spec {o : Option (AV × St)} (h : isT o = true) : ∃ S, o = some (.b true, S) := by
  unfold isT at h
  split at h
  · exact ⟨_, rfl⟩
  · cases h
theorem wr_id {n : Int} (h1 : -9223372036854775808 ≤ n) (h2 : n < 9223372036854775808) : wr .i64 n = n := by
  have : fits n = true := by
    cases n with
    | ofNat m => simp only [fits, blt_nat]; exact decide_eq_true (Int.ofNat_lt.1 h2)
    | negSucc m => simp only [fits, blt_nat]; exact decide_eq_true (by omega)
  simp only [wr, this, cond_true]
theorem exec_succ (F : Nat → Option AFn) (n : Nat) (c : ACode) : exec F (n + 1) c = exec1 F (exec F n) c := rfl
theorem acall_def (F : Nat → Option AFn) (n : Nat) : acall F n = callOf F (exec F n) := rfl
end Go.AM
