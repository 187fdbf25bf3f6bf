/- The open machine: the abstract machine at numbers that are not known. Where a number decides, it goes on both ways, with what is then known. Numbers, what is known of them, and each operation. -/
import Derived.Test.YtjmnmaaipcbmnaaGreatAmS
set_option linter.unusedVariables false
set_option linter.unusedSimpArgs false
namespace Go.AM

/-! ### numbers that are not known -/
def opI (o : BinOp) (k : IntKind) (x y : Int) : Int :=
  match (bif isSh o then shI o k x y else binI o k x y) with
  | some (.i _ n) => n
  | _ => 0
mutual
def At.ev (ρ : Nat → Int) : At → Int
  | .v n => ρ n
  | .op o k a b => opI o k (Ln.ev ρ a) (Ln.ev ρ b)
  | .wr k a => AM.wr k (Ln.ev ρ a)
def Ln.ev (ρ : Nat → Int) : Ln → Int
  | .c n => n
  | .t m a r => m * At.ev ρ a + Ln.ev ρ r
end
theorem bopEq_eq {o p : BinOp} (h : bopEq o p = true) : o = p := by cases o <;> cases p <;> first | rfl | cases h
mutual
theorem At.beq_eq : ∀ {a b : At}, At.beq a b = true → a = b
  | .v n, .v m, h => by rw [At.beq, beq_nat, decide_eq_true_eq] at h; rw [h]
  | .op o k a b, .op p j c d, h => by
    rw [At.beq, Bool.and_eq_true, Bool.and_eq_true, Bool.and_eq_true] at h
    rw [bopEq_eq h.1.1.1, kEq_iff.1 h.1.1.2, Ln.beq_eq h.1.2, Ln.beq_eq h.2]
  | .wr k a, .wr j b, h => by
    rw [At.beq, Bool.and_eq_true] at h
    rw [kEq_iff.1 h.1, Ln.beq_eq h.2]
  | .v _, .op _ _ _ _, h => by simp [At.beq] at h
  | .v _, .wr _ _, h => by simp [At.beq] at h
  | .op _ _ _ _, .v _, h => by simp [At.beq] at h
  | .op _ _ _ _, .wr _ _, h => by simp [At.beq] at h
  | .wr _ _, .v _, h => by simp [At.beq] at h
  | .wr _ _, .op _ _ _ _, h => by simp [At.beq] at h
theorem Ln.beq_eq : ∀ {a b : Ln}, Ln.beq a b = true → a = b
  | .c n, .c m, h => by rw [Ln.beq, iEq_eq, beq_iff_eq] at h; rw [h]
  | .t m a r, .t n b s, h => by
    rw [Ln.beq, Bool.and_eq_true, Bool.and_eq_true, iEq_eq, beq_iff_eq] at h
    rw [h.1.1, At.beq_eq h.1.2, Ln.beq_eq h.2]
  | .c _, .t _ _ _, h => by simp [Ln.beq] at h
  | .t _ _ _, .c _, h => by simp [Ln.beq] at h
end

def Ln.ins (m : Int) (a : At) : Ln → Ln
  | .c n => .t m a (.c n)
  | .t n b r => bif At.beq a b then (bif iEq (m + n) 0 then r else .t (m + n) b r) else .t n b (Ln.ins m a r)
def Ln.addc (k : Int) : Ln → Ln
  | .c n => .c (n + k)
  | .t m a r => .t m a (Ln.addc k r)
def Ln.add : Ln → Ln → Ln
  | .c n, r => r.addc n
  | .t m a x, r => Ln.ins m a (Ln.add x r)
def Ln.scale (k : Int) : Ln → Ln
  | .c n => .c (k * n)
  | .t m a r => .t (k * m) a (Ln.scale k r)
def Ln.neg (a : Ln) : Ln := a.scale (-1)
def Ln.sub (a b : Ln) : Ln := a.add b.neg
section
variable (ρ : Nat → Int)
theorem Ln.ev_ins (m : Int) (a : At) : ∀ r : Ln, (Ln.ins m a r).ev ρ = m * a.ev ρ + r.ev ρ
  | .c n => by simp [Ln.ins, Ln.ev]
  | .t n b r => by
    simp only [Ln.ins]
    cases hab : At.beq a b
    · simp only [cond_false, Ln.ev, Ln.ev_ins m a r]; omega
    · have e := At.beq_eq hab
      subst e
      cases hz : iEq (m + n) 0
      · simp only [cond_true, cond_false, Ln.ev]
        rw [Int.add_mul]; omega
      · simp only [cond_true, Ln.ev]
        rw [iEq_eq, beq_iff_eq] at hz
        have : m * a.ev ρ + n * a.ev ρ = 0 := by rw [← Int.add_mul, hz, Int.zero_mul]
        omega
theorem Ln.ev_addc (k : Int) : ∀ r : Ln, (r.addc k).ev ρ = r.ev ρ + k
  | .c n => by simp [Ln.addc, Ln.ev]
  | .t m a r => by simp only [Ln.addc, Ln.ev, Ln.ev_addc k r]; omega
theorem Ln.ev_add : ∀ a b : Ln, (a.add b).ev ρ = a.ev ρ + b.ev ρ
  | .c n, b => by simp only [Ln.add, Ln.ev, Ln.ev_addc]; omega
  | .t m a x, b => by simp only [Ln.add, Ln.ev, Ln.ev_ins, Ln.ev_add x b]; omega
theorem Ln.ev_scale (k : Int) : ∀ a : Ln, (a.scale k).ev ρ = k * a.ev ρ
  | .c n => by simp [Ln.scale, Ln.ev]
  | .t m a r => by simp only [Ln.scale, Ln.ev, Ln.ev_scale k r]; rw [Int.mul_add, Int.mul_assoc]
theorem Ln.ev_neg (a : Ln) : a.neg.ev ρ = - a.ev ρ := by rw [Ln.neg, Ln.ev_scale]; omega
theorem Ln.ev_sub (a b : Ln) : (a.sub b).ev ρ = a.ev ρ - b.ev ρ := by rw [Ln.sub, Ln.ev_add, Ln.ev_neg]; omega
end

/-! ### what is known: sums that are not below nought -/
abbrev Log := List Ln
def Holds (ρ : Nat → Int) (L : Log) : Prop := ∀ l ∈ L, 0 ≤ l.ev ρ
theorem Holds.cons {ρ : Nat → Int} {L : Log} {l : Ln} (h : 0 ≤ l.ev ρ) (k : Holds ρ L) : Holds ρ (l :: L) := fun x hx => by
  rcases List.mem_cons.1 hx with rfl | hx
  · exact h
  · exact k x hx
def Ln.coef (a : At) : Ln → Int
  | .c _ => 0
  | .t m b r => bif At.beq a b then m else Ln.coef a r
/-- can what is known not be, for f? -/
def refF : Nat → Log → Ln → Bool
  | 0, _, f => match f with
    | .c n => iLt n 0
    | .t _ _ _ => false
  | d + 1, L, f => match f with
    | .c n => iLt n 0
    | .t m a r => L.any fun g =>
      match m, Ln.coef a g with
      | .ofNat (.succ x), .negSucc y => refF d L ((Ln.scale (.ofNat (.succ y)) (.t m a r)).add (Ln.scale (.ofNat (.succ x)) g))
      | .negSucc x, .ofNat (.succ y) => refF d L ((Ln.scale (.ofNat (.succ y)) (.t m a r)).add (Ln.scale (.ofNat (.succ x)) g))
      | _, _ => false
theorem refF_sound {ρ : Nat → Int} : ∀ (d : Nat) {L : Log} {f : Ln}, Holds ρ L → refF d L f = true → 0 ≤ f.ev ρ → False
  | 0, L, f, hL, h, hf => by
    cases f with
    | c n => simp only [refF, iLt_eq, decide_eq_true_eq] at h; simp only [Ln.ev] at hf; omega
    | t m a r => cases h
  | d + 1, L, f, hL, h, hf => by
    cases f with
    | c n => simp only [refF, iLt_eq, decide_eq_true_eq] at h; simp only [Ln.ev] at hf; omega
    | t m a r =>
      simp only [refF, List.any_eq_true] at h
      obtain ⟨g, hg, h⟩ := h
      have hg0 := hL g hg
      have pos : ∀ (x y : Nat), 0 ≤ ((Ln.scale (.ofNat (.succ y)) (.t m a r)).add (Ln.scale (.ofNat (.succ x)) g)).ev ρ := by
        intro x y
        rw [Ln.ev_add, Ln.ev_scale, Ln.ev_scale]
        have h1 := Int.mul_nonneg (Int.natCast_nonneg (Nat.succ y)) hf
        have h2 := Int.mul_nonneg (Int.natCast_nonneg (Nat.succ x)) hg0
        exact Int.add_nonneg h1 h2
      split at h
      · exact refF_sound d hL h (pos _ _)
      · exact refF_sound d hL h (pos _ _)
      · cases h
/-- can it not be that all of these hold, too? -/
def absurdL (L : Log) (new : List Ln) : Bool := new.any (refF 4 (new ++ L))
theorem absurdL_sound {ρ : Nat → Int} {L : Log} {new : List Ln} (hL : Holds ρ L) (h : absurdL L new = true) : ¬ Holds ρ new := by
  intro hn
  unfold absurdL at h
  rw [List.any_eq_true] at h
  obtain ⟨f, hf, h⟩ := h
  exact refF_sound 4 (fun l hl => (List.mem_append.1 hl).elim (hn l) (hL l)) h (hn f hf)
/-- is it sure that f is not below nought? -/
def sure (L : Log) (f : Ln) : Bool := absurdL L [f.neg.addc (-1)]
theorem sure_sound {ρ : Nat → Int} {L : Log} {f : Ln} (hL : Holds ρ L) (h : sure L f = true) : 0 ≤ f.ev ρ := by
  rcases Int.lt_or_le (f.ev ρ) 0 with h1 | h1
  · refine absurd (fun l hl => ?_) (absurdL_sound hL h)
    rw [List.mem_singleton] at hl
    subst hl
    rw [Ln.ev_addc, Ln.ev_neg]
    omega
  · exact h1

/-- a < b? all answers that can be -/
def dLt (a b : Ln) (L : Log) : List (Bool × Log) :=
  match a.sub b with
  | .c n => [(iLt n 0, L)]
  | d =>
    bif absurdL L [d.neg.addc (-1)] then [(false, L)]
    else bif absurdL L [d] then [(true, L)]
    else [(true, d.neg.addc (-1) :: L), (false, d :: L)]
theorem dLt_sound {ρ : Nat → Int} {a b : Ln} {L : Log} (hL : Holds ρ L) : ∃ L', (decide (a.ev ρ < b.ev ρ), L') ∈ dLt a b L ∧ Holds ρ L' := by
  have hd := Ln.ev_sub ρ a b
  unfold dLt
  split
  · rename_i n he
    rw [he] at hd
    simp only [Ln.ev] at hd
    refine ⟨L, ?_, hL⟩
    rw [iLt_eq, List.mem_singleton]
    congr 1
    rw [decide_eq_decide]
    omega
  · generalize a.sub b = d at hd
    have hn : (d.neg.addc (-1)).ev ρ = -(a.ev ρ - b.ev ρ) - 1 := by rw [Ln.ev_addc, Ln.ev_neg, hd]; omega
    cases h1 : absurdL L [d.neg.addc (-1)]
    · cases h2 : absurdL L [d]
      · simp only [cond_false]
        by_cases hlt : a.ev ρ < b.ev ρ
        · exact ⟨_, by rw [decide_eq_true hlt]; exact List.mem_cons_self, Holds.cons (by rw [hn]; omega) hL⟩
        · exact ⟨_, by rw [decide_eq_false hlt]; exact List.mem_cons_of_mem _ List.mem_cons_self, Holds.cons (by rw [hd]; omega) hL⟩
      · simp only [cond_false, cond_true]
        have := absurdL_sound hL h2
        refine ⟨L, ?_, hL⟩
        have hlt : a.ev ρ < b.ev ρ := by
          rcases Int.lt_or_le (a.ev ρ) (b.ev ρ) with h | h
          · exact h
          · exact absurd (fun l hl => by rw [List.mem_singleton] at hl; subst hl; rw [hd]; omega) this
        rw [decide_eq_true hlt]; exact List.mem_cons_self
    · simp only [cond_true]
      have := absurdL_sound hL h1
      refine ⟨L, ?_, hL⟩
      have hlt : ¬ a.ev ρ < b.ev ρ := fun h => this (fun l hl => by rw [List.mem_singleton] at hl; subst hl; rw [hn]; omega)
      rw [decide_eq_false hlt]; exact List.mem_cons_self
/-- a = b? all answers that can be -/
def dEq (a b : Ln) (L : Log) : List (Bool × Log) :=
  match a.sub b with
  | .c n => [(iEq n 0, L)]
  | d =>
    bif absurdL L [d, d.neg] then [(false, L)]
    else
      (bif absurdL L [d.addc (-1)] then [] else [(false, d.addc (-1) :: L)]) ++
      ((bif absurdL L [d.neg.addc (-1)] then [] else [(false, d.neg.addc (-1) :: L)]) ++ [(true, d :: d.neg :: L)])
theorem dEq_sound {ρ : Nat → Int} {a b : Ln} {L : Log} (hL : Holds ρ L) : ∃ L', (a.ev ρ == b.ev ρ, L') ∈ dEq a b L ∧ Holds ρ L' := by
  have hd := Ln.ev_sub ρ a b
  unfold dEq
  split
  · rename_i n he
    rw [he] at hd
    simp only [Ln.ev] at hd
    refine ⟨L, ?_, hL⟩
    rw [iEq_eq, List.mem_singleton]
    congr 1
    rw [Bool.eq_iff_iff, beq_iff_eq, beq_iff_eq]
    omega
  · generalize a.sub b = d at hd
    have hn : d.neg.ev ρ = -(a.ev ρ - b.ev ρ) := by rw [Ln.ev_neg, hd]
    have hp1 : (d.addc (-1)).ev ρ = a.ev ρ - b.ev ρ - 1 := by rw [Ln.ev_addc, hd]; omega
    have hn1 : (d.neg.addc (-1)).ev ρ = -(a.ev ρ - b.ev ρ) - 1 := by rw [Ln.ev_addc, hn]; omega
    cases h0 : absurdL L [d, d.neg]
    · simp only [cond_false]
      rcases Int.lt_trichotomy (a.ev ρ) (b.ev ρ) with h | h | h
      · have hb : (a.ev ρ == b.ev ρ) = false := by rw [beq_eq_false_iff_ne]; omega
        have hne : absurdL L [d.neg.addc (-1)] = false := by
          cases h2 : absurdL L [d.neg.addc (-1)]
          · rfl
          · exact absurd (fun l hl => by rw [List.mem_singleton] at hl; subst hl; rw [hn1]; omega) (absurdL_sound hL h2)
        rw [hb, hne]
        exact ⟨_, List.mem_append_right _ (List.mem_append_left _ List.mem_cons_self), Holds.cons (by rw [hn1]; omega) hL⟩
      · have hb : (a.ev ρ == b.ev ρ) = true := by rw [beq_iff_eq]; exact h
        rw [hb]
        exact ⟨_, List.mem_append_right _ (List.mem_append_right _ List.mem_cons_self), Holds.cons (by rw [hd]; omega) (Holds.cons (by rw [hn]; omega) hL)⟩
      · have hb : (a.ev ρ == b.ev ρ) = false := by rw [beq_eq_false_iff_ne]; omega
        have hne : absurdL L [d.addc (-1)] = false := by
          cases h2 : absurdL L [d.addc (-1)]
          · rfl
          · exact absurd (fun l hl => by rw [List.mem_singleton] at hl; subst hl; rw [hp1]; omega) (absurdL_sound hL h2)
        rw [hb, hne]
        exact ⟨_, List.mem_append_left _ List.mem_cons_self, Holds.cons (by rw [hp1]; omega) hL⟩
    · simp only [cond_true]
      refine ⟨L, ?_, hL⟩
      have hb : (a.ev ρ == b.ev ρ) = false := by
        rw [beq_eq_false_iff_ne]
        intro e
        exact absurdL_sound hL h0 (fun l hl => by
          rcases List.mem_cons.1 hl with rfl | hl
          · rw [hd]; omega
          · rw [List.mem_singleton] at hl; subst hl; rw [hn]; omega)
      rw [hb]; exact List.mem_cons_self

/-! ### values -/
def toLn : AV → Option (IntKind × Ln)
  | .i k n => some (k, .c n)
  | .x k e => some (k, e)
  | _ => none
def mkI (k : IntKind) : Ln → AV
  | .c n => .i k n
  | .t m a r => .x k (.t m a r)
def klo : IntKind → Int
  | .i8 => -128 | .i16 => -32768 | .i32 => -2147483648 | .i64 => -9223372036854775808 | .u8 => 0 | .u16 => 0 | .u32 => 0 | .u64 => 0
def khi : IntKind → Int
  | .i8 => 127 | .i16 => 32767 | .i32 => 2147483647 | .i64 => 9223372036854775807 | .u8 => 255 | .u16 => 65535 | .u32 => 4294967295 | .u64 => 18446744073709551615
def fitK (k : IntKind) (L : Log) (e : Ln) : Bool := sure L (e.addc (- klo k)) && sure L (e.neg.addc (khi k))
/-- a number in so many bits -/
def wrX (k : IntKind) (e : Ln) (L : Log) : AV × Log :=
  match e with
  | .c n => (.i k (wr k n), L)
  | e => bif fitK k L e then (mkI k e, L) else
    (.x k (.t 1 (.wr k e) (.c 0)), .t 1 (.wr k e) (.c (- klo k)) :: .t (-1) (.wr k e) (.c (khi k)) :: L)
def opX (o : BinOp) (k : IntKind) (a b : Ln) : AV := .x k (.t 1 (.op o k a b) (.c 0))
def bs (L : List (Bool × Log)) (neg : Bool) : List (AV × Log) := L.map fun p => (.b (p.1 != neg), p.2)
def xBin (o : BinOp) (k : IntKind) (a b : Ln) (L : Log) : Option (List (AV × Log)) :=
  match o with
  | .add => some [wrX k (a.add b) L]
  | .sub => some [wrX k (a.sub b) L]
  | .mul => match a, b with
    | .c n, b => some [wrX k (b.scale n) L]
    | a, .c n => some [wrX k (a.scale n) L]
    | a, b => some [(opX .mul k a b, L)]
  | .quo => match b with
    | .c (.ofNat (.succ n)) => bif sure L a && sure L (a.neg.addc (khi k)) then
        some [(opX .quo k a b, .t 1 (.op .quo k a b) (.c 0) :: Ln.ins (- (.ofNat (.succ n))) (.op .quo k a b) a :: Ln.ins (.ofNat (.succ n)) (.op .quo k a b) (a.neg.addc (.ofNat n)) :: L)]
      else some [(opX .quo k a b, L)]
    | _ => none
  | .rem => match b with
    | .c (.ofNat (.succ n)) => bif sure L a then
        some [(opX .rem k a b, .t 1 (.op .rem k a b) (.c 0) :: .t (-1) (.op .rem k a b) (.c (.ofNat n)) :: L)]
      else some [(opX .rem k a b, .t 1 (.op .rem k a b) (.c (.ofNat n)) :: .t (-1) (.op .rem k a b) (.c (.ofNat n)) :: L)]
    | _ => none
  | .and => some [(opX .and k a b, L)]
  | .or => some [(opX .or k a b, L)]
  | .xor => some [(opX .xor k a b, L)]
  | .andNot => some [(opX .andNot k a b, L)]
  | .eql => some (bs (dEq a b L) false)
  | .neq => some (bs (dEq a b L) true)
  | .lss => some (bs (dLt a b L) false)
  | .leq => some (bs (dLt b a L) true)
  | .gtr => some (bs (dLt b a L) false)
  | .geq => some (bs (dLt a b L) true)
  | .shl | .shr => none
def xShift (o : BinOp) (k : IntKind) (a b : Ln) (L : Log) : Option (List (AV × Log)) :=
  match b with
  | .c (.ofNat n) => match o with
    | .shl | .shr => some [(opX o k a (.c (.ofNat n)), L)]
    | _ => none
  | _ => none
def catO {α β : Type} (f : α → Option (List β)) : List α → Option (List β)
  | [] => some []
  | a :: r => match f a with
    | some x => match catO f r with
      | some y => some (x ++ y)
      | none => none
    | none => none
def xMin (mn : Bool) (k : IntKind) : List AV → Ln → Log → Option (List (AV × Log))
  | [], x, L => some [(mkI k x, L)]
  | y :: rest, x, L => match toLn y with
    | some (j, y) => bif kEq j k then catO (fun p => xMin mn k rest (bif p.1 then y else x) p.2) (bif mn then dLt y x L else dLt x y L) else none
    | none => none
def xEqAt (xs ys : List AV) : List (Nat × Nat) → Log → Option (List (Bool × Log))
  | [], L => some [(true, L)]
  | (f, g) :: fs, L => match xs[f]?, ys[f]? with
    | some x, some y => match eqOne g x y with
      | some true => xEqAt xs ys fs L
      | some false => some [(false, L)]
      | none => bif Nat.beq g 1 then match toLn x, toLn y with
          | some (j, a), some (k, b) => bif kEq j k then catO (fun p => bif p.1 then xEqAt xs ys fs p.2 else some [(false, p.2)]) (dEq a b L) else none
          | _, _ => none
        else none
    | _, _ => none
/-- an operation that changes nothing -/
noncomputable def xR (o : AOp) (h : PM AB) (vs : List AV) (L : Log) : Option (List (AV × Log)) :=
  match semR o h vs with
  | some v => some [(v, L)]
  | none => match o with
    | .bin op => match vs with
      | [p, q] => match toLn p, toLn q with
        | some (k, a), some (j, b) => bif isSh op then xShift op k a b L else bif kEq k j then xBin op k a b L else none
        | _, _ => none
      | _ => none
    | .un .neg => match vs with
      | [.x k e] => some [wrX k ((Ln.c 0).sub e) L]
      | _ => none
    | .cvtI k => match vs with
      | [.x _ e] => some [wrX k e L]
      | _ => none
    | .min => match vs with
      | p :: rest => match toLn p with
        | some (k, a) => xMin true k rest a L
        | none => none
      | [] => none
    | .max => match vs with
      | p :: rest => match toLn p with
        | some (k, a) => xMin false k rest a L
        | none => none
      | [] => none
    | .eq ng (.agg fs) => match vs with
      | [.agg xs, .agg ys] => (xEqAt xs ys fs L).map fun l => bs l ng
      | _ => none
    | _ => none

abbrev XCll := Nat → List AV → St → Log → Option (List (AV × St × Log))
def noCall : Cll := fun _ _ _ => none
/-- the numbers that one that is not known can be, if there are few -/
def spread (k : IntKind) (e : Ln) (L : Log) : Nat → List (AV × Log)
  | 0 => []
  | n + 1 => spread k e L n ++ (bif absurdL L [e.addc (- .ofNat n), e.neg.addc (.ofNat n)] then [] else [(.i k (.ofNat n), e.addc (- .ofNat n) :: e.neg.addc (.ofNat n) :: L)])
def conc : List AV → Log → Option (List (List AV × Log))
  | [], _ => none
  | .x k e :: r, L => bif sure L e && sure L (e.neg.addc 47) then some ((spread k e L 48).map fun p => (p.1 :: r, p.2)) else none
  | v :: r, L => (conc r L).map fun l => l.map fun p => (v :: p.1, p.2)
noncomputable def xOp0 (call : XCll) (o : AOp) (S : St) (vs : List AV) (L : Log) : Option (List (AV × St × Log)) :=
  match o.cl with
  | .R => (xR o S.h vs L).map fun l => l.map fun p => (p.1, S, p.2)
  | .A => (semA o S.nx vs).map fun p => [(p.2, { h := S.h.set S.nx (some p.1), nx := S.nx + 1 }, L)]
  | .E => match o with
    | .call f => call f vs S L
    | .callv => match vs with
      | .fn f fst cap :: us => call f (fst ++ us ++ cap) S L
      | _ => none
    | o => (semE o noCall S vs).map fun p => [(p.1, p.2, L)]
/-- as it is; or number by number -/
noncomputable def xOpN (call : XCll) (o : AOp) (S : St) : Nat → List AV → Log → Option (List (AV × St × Log))
  | 0, vs, L => xOp0 call o S vs L
  | n + 1, vs, L => match xOp0 call o S vs L with
    | some r => some r
    | none => match conc vs L with
      | some l => catO (fun p => xOpN call o S n p.1 p.2) l
      | none => none
noncomputable def xOp (call : XCll) (o : AOp) (S : St) (vs : List AV) (L : Log) : Option (List (AV × St × Log)) :=
  xOpN call o S (bif o.isCall then 0 else 3) vs L
noncomputable def xStep (call : XCll) (o : Op1) (T : Tm) (S : St) (L : Log) : Option (List (Tm × St × Log)) :=
  match wants T o.gd with
  | some true => (xOp call o.op S (evs T o.args) L).map fun l => l.map fun p => (T.put p.1 o.dst, p.2.1, p.2.2)
  | some false => some [(T.put (.tup []) o.dst, S, L)]
  | none => none
noncomputable def xRun (call : XCll) (l : List Op1) : Tm → St → Log → Option (List (Tm × St × Log)) :=
  List.rec (motive := fun _ => Tm → St → Log → Option (List (Tm × St × Log))) (fun T S L => some [(T, S, L)]) (fun o _ ih T S L => match xStep call o T S L with
    | some l => catO (fun p => ih p.1 p.2.1 p.2.2) l
    | none => none) l
theorem xRun_nil (call : XCll) (T : Tm) (S : St) (L : Log) : xRun call [] T S L = some [(T, S, L)] := rfl
theorem xRun_cons (call : XCll) (o : Op1) (r : List Op1) (T : Tm) (S : St) (L : Log) : xRun call (o :: r) T S L = match xStep call o T S L with
    | some l => catO (fun p => xRun call r p.1 p.2.1 p.2.2) l
    | none => none := rfl
noncomputable def xTrace (call : XCll) : List Op1 → Tm → St → Log → Option (List (List (Tm × St) × Log))
  | [], T, S, L => some [([(T, S)], L)]
  | o :: r, T, S, L => match xStep call o T S L with
    | some l => catO (fun p => (xTrace call r p.1 p.2.1 p.2.2).map fun q => q.map fun t => ((T, S) :: t.1, t.2)) l
    | none => none
abbrev XEc := ACode → Tm → St → Log → Option (List (Ex × Tm × St × Log))
noncomputable def xFin (r : List ResV) : Ex × Tm × St × Log → Option (List (AV × St × Log))
  | (.norm, T, S, L) => (resV T S.h r).map fun v => [(v, S, L)]
  | (.ret, T, S, L) => (resV T S.h r).map fun v => [(v, S, L)]
  | _ => none
noncomputable def xCallOf (F : Nat → Option AFn) (E : XEc) : XCll := fun f vs S L =>
  match F f with
  | none => none
  | some fn => match E fn.body (initT vs) S L with
    | some l => catO (xFin fn.res) l
    | none => none
noncomputable def xxReg (call : XCll) (ops : List Op1) (T : Tm) (S : St) (L : Log) : Option (List (Ex × Tm × St × Log)) := (xRun call ops { T with r := [] } S L).map fun l => l.map fun p => (.norm, p)
noncomputable def xxRegD (call : XCll) (ops : List Op1) (chk : List (Nat × Nat)) (T : Tm) (S : St) (L : Log) : Option (List (Ex × Tm × St × Log)) :=
  match xTrace call ops { T with r := [] } S L with
  | some l => catO (fun q => bif chk.all (again ops q.1) then (lastOf q.1).map fun p => [(.norm, p.1, p.2, q.2)] else none) l
  | none => none
noncomputable def xxSeq (E : XEc) (a b : ACode) (T : Tm) (S : St) (L : Log) : Option (List (Ex × Tm × St × Log)) :=
  match E a T S L with
  | some l => catO (fun p => match p with
    | (.norm, T', S', L') => E b T' S' L'
    | p => some [p]) l
  | none => none
noncomputable def xxCond (E : XEc) (c : Opd) (x y : ACode) (T : Tm) (S : St) (L : Log) : Option (List (Ex × Tm × St × Log)) :=
  match c.ev T with
  | .b true => E x T S L
  | .b false => E y T S L
  | _ => none
def inBlk (id : Nat) : Ex × Tm × St × Log → Ex × Tm × St × Log
  | (.ex j, r) => bif Nat.beq j id then (.norm, r) else (.ex j, r)
  | p => p
noncomputable def xxBlock (E : XEc) (id : Nat) (c : ACode) (T : Tm) (S : St) (L : Log) : Option (List (Ex × Tm × St × Log)) :=
  (E c T S L).map fun l => l.map (inBlk id)
noncomputable def xxLoop (E : XEc) (c : ACode) (T : Tm) (S : St) (L : Log) : Option (List (Ex × Tm × St × Log)) :=
  match E c T S L with
  | some l => catO (fun p => match p with
    | (.norm, T', S', L') => E (.loop c) T' S' L'
    | p => some [p]) l
  | none => none
noncomputable def xexec1 (F : Nat → Option AFn) (E : XEc) : XEc
  | .skip => fun T S L => some [(.norm, T, S, L)]
  | .reg ops => xxReg (xCallOf F E) ops
  | .regD ops chk => xxRegD (xCallOf F E) ops chk
  | .seq a b => xxSeq E a b
  | .cond c x y => xxCond E c x y
  | .block id c => xxBlock E id c
  | .loop c => xxLoop E c
  | .exit id => fun T S L => some [(.ex id, T, S, L)]
  | .ret => fun T S L => some [(.ret, T, S, L)]
noncomputable def xexec (F : Nat → Option AFn) (n : Nat) : XEc := Nat.rec (motive := fun _ => XEc) (fun _ _ _ _ => none) (fun _ E => xexec1 F E) n
noncomputable def xcall (F : Nat → Option AFn) (n : Nat) : XCll := xCallOf F (xexec F n)
/-- all ways end true -/
def allT : Option (List (AV × St × Log)) → Bool
  | some l => l.all fun p => match p.1 with
    | .b true => true
    | _ => false
  | none => false
end Go.AM
