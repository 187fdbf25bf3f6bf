/- Operations that leave memory as it is: one by one, then all. -/
import Derived.Test.YtjmnmaaipcbmnaaGreatAmE
set_option linter.unusedVariables false
set_option linter.unusedSimpArgs false
namespace Go.AM

theorem vrs1 {β : Bt} {vs : List AV} {x : Value} (h : VRs β vs [x]) : ∃ v, vs = [v] ∧ VR β v x := by
  cases h with | cons h t => cases t; exact ⟨_, rfl, h⟩
theorem vrs2 {β : Bt} {vs : List AV} {x y : Value} (h : VRs β vs [x, y]) : ∃ v u, vs = [v, u] ∧ VR β v x ∧ VR β u y := by
  cases h with | cons h t => obtain ⟨u, rfl, hu⟩ := vrs1 t; exact ⟨_, _, rfl, h, hu⟩
theorem vrs3 {β : Bt} {vs : List AV} {x y z : Value} (h : VRs β vs [x, y, z]) : ∃ v u t, vs = [v, u, t] ∧ VR β v x ∧ VR β u y ∧ VR β t z := by
  cases h with | cons h t => obtain ⟨u, q, rfl, hu, hq⟩ := vrs2 t; exact ⟨_, _, _, rfl, h, hu, hq⟩

section
variable {P : Program} {β : Bt} {B0 : Nat} {h : PM AB} {w : World} (ρ : Operand → Value)

theorem g_pick {vs : List AV} {v : AV} {c a b : Value} (hv : VRs β vs [c, a, b]) (hs : rPick h vs = some v) :
    ∃ v', ((do pure (.value (if ← asBool c then a else b))) : Sem Next).run P w = .ok (.value v') w ∧ VR β v v' := by
  obtain ⟨x, y, z, rfl, hx, hy, hz⟩ := vrs3 hv
  cases x <;> simp only [rPick] at hs <;> first | (cases hs; done) | skip
  cases hx
  rename_i q
  cases q <;> cases hs
  · exact ⟨_, by simp [asBool], hz⟩
  · exact ⟨_, by simp [asBool], hy⟩

theorem g_nil {vs : List AV} {v : AV} {x : Value} (o : Oper) {y : Operand} (ho : o.op = .nilCheck y) (hy : ρ y = x) (hv : VRs β vs [x]) (hs : rNil h vs = some v) :
    ∃ v', (execOp ρ o).run P w = .ok (.value v') w ∧ VR β v v' := by
  obtain ⟨x, rfl, hx⟩ := vrs1 hv
  simp only [execOp, ho, hy]
  cases x <;> simp only [rNil] at hs <;> first | (cases hs; done) | skip
  · rename_i a
    cases a with
    | none => cases hs
    | some a => cases hs; cases hx with | p hb => exact ⟨_, rfl, .p hb⟩
  · cases hs; cases hx with | fn _ h1 h2 => exact ⟨_, rfl, .fn _ h1 h2⟩

theorem eqGuard_int (op : BinOp) (t : TypeId) (x y : Operand) (k : IntKind) (n : Int) (b : Value) : (eqGuard op t x y (.int k n) b).run P w = .ok () w := by
  rw [eqGuard_at_int]; rfl
theorem eqGuard_str (op : BinOp) (t : TypeId) (x y : Operand) (s : ByteArray) (b : Value) : (eqGuard op t x y (.string s) b).run P w = .ok () w := by
  rw [eqGuard_at_string]; rfl
theorem g_bin {vs : List AV} {v : AV} {a b : Value} {op : BinOp} (t : TypeId) (x y : Operand) (hv : VRs β vs [a, b]) (hs : rBin op h vs = some v) :
    ∃ v', ((do eqGuard op t x y a b; binOp op t a b) : Sem Value).run P w = .ok v' w ∧ VR β v v' := by
  obtain ⟨p, q, rfl, hp, hq⟩ := vrs2 hv
  cases p <;> simp only [rBin] at hs <;> first | (cases hs; done) | skip
  cases q <;> simp only [] at hs <;> first | (cases hs; done) | skip
  cases hp; cases hq
  cases hsh : isSh op with
  | true =>
    rw [hsh] at hs
    rename_i k n j m
    obtain ⟨v', h1, h2⟩ := shI_run (P := P) (w := w) (j := j) t hs
    exact ⟨v', by simp [eqGuard_int, h1], h2 β⟩
  | false =>
    rw [hsh] at hs
    rename_i k n j m
    cases hk : kEq k j with
    | false => rw [hk] at hs; cases hs
    | true =>
      rw [hk] at hs
      have := kEq_iff.1 hk
      subst this
      obtain ⟨v', h1, h2⟩ := binI_run (P := P) (w := w) t hsh hs
      exact ⟨v', by simp [eqGuard_int, h1], h2 β⟩
theorem g_sbin {vs : List AV} {v : AV} {a b : Value} {op : BinOp} (t : TypeId) (x y : Operand) (hv : VRs β vs [a, b]) (hs : rSbin op h vs = some v) :
    ∃ v', ((do eqGuard op t x y a b; binOp op t a b) : Sem Value).run P w = .ok v' w ∧ VR β v v' := by
  obtain ⟨p, q, rfl, hp, hq⟩ := vrs2 hv
  cases p <;> simp only [rSbin] at hs <;> first | (cases hs; done) | skip
  cases q <;> simp only [] at hs <;> first | (cases hs; done) | skip
  cases hp; cases hq
  obtain ⟨v', h1, h2⟩ := binS_run (P := P) (w := w) t hs
  exact ⟨v', by simp [eqGuard_str, h1], h2 β⟩
theorem g_eq (hR : Rel β B0 h w) {vs : List AV} {v : AV} {a b : Value} {op : BinOp} (hop : isEq op = true) {t : TypeId} (x y : Operand) {ng : Bool} {k : EqK} (hc : compEq P (isNeq op) t = some (.eq ng k))
    (hv : VRs β vs [a, b]) (hs : rEq ng k h vs = some v) :
    ∃ v', ((do eqGuard op t x y a b; binOp op t a b) : Sem Value).run P w = .ok v' w ∧ VR β v v' := by
  obtain ⟨p, q, rfl, hp, hq⟩ := vrs2 hv
  simp only [rEq] at hs
  cases he : eqV h k p q with
  | none => rw [he] at hs; cases hs
  | some r =>
    rw [he] at hs
    cases hs
    obtain ⟨rfl, h1⟩ := eq_run hR hop x y hc hp hq he
    exact ⟨_, h1, .b _⟩
theorem g_un {vs : List AV} {v : AV} {a : Value} {op : UnOp} (hv : VRs β vs [a]) (hs : rUn op h vs = some v) :
    ∃ v', (Op.unary op a).run P w = .ok v' w ∧ VR β v v' := by
  obtain ⟨p, rfl, hp⟩ := vrs1 hv
  cases p <;> simp only [rUn] at hs <;> first | (cases hs; done) | skip
  · cases op <;> simp only [] at hs <;> first | (cases hs; done) | skip
    cases hs; cases hp
    exact ⟨_, rfl, .b _⟩
  · cases op <;> simp only [] at hs <;> first | (cases hs; done) | skip
    cases hs; cases hp
    rw [wr_eq]
    exact ⟨_, rfl, .i _ _⟩
theorem g_cvtI {vs : List AV} {v : AV} {a : Value} {s d : TypeId} {k k' : IntKind} (hsd : P.underlying s = some (.int k')) (hd : P.underlying d = some (.int k)) (hv : VRs β vs [a]) (hs : rCvtI k h vs = some v) :
    ∃ v', (convert s d a).run P w = .ok v' w ∧ VR β v v' := by
  obtain ⟨p, rfl, hp⟩ := vrs1 hv
  cases p <;> simp only [rCvtI] at hs <;> first | (cases hs; done) | skip
  cases hs; cases hp
  rw [wr_eq]
  refine ⟨_, ?_, .i _ _⟩
  simp only [convert, Sem.run_bind, run_underlying hsd, run_underlying hd, Result.andThen_ok]
  rfl
theorem g_cvtS {vs : List AV} {v : AV} {a : Value} {s d : TypeId} (hsd : P.underlying s = some .string) (hd : P.underlying d = some .string) (hv : VRs β vs [a]) (hs : rCvtS h vs = some v) :
    ∃ v', (convert s d a).run P w = .ok v' w ∧ VR β v v' := by
  obtain ⟨p, rfl, hp⟩ := vrs1 hv
  cases p <;> simp only [rCvtS] at hs <;> first | (cases hs; done) | skip
  cases hs; cases hp
  refine ⟨_, ?_, .s _⟩
  simp only [convert, Sem.run_bind, run_underlying hsd, run_underlying hd, Result.andThen_ok]
  rfl

theorem idx_VR {v : AV} {v' : Value} {n : Nat} (hv : VR β v v') (h : idx v = some n) : ∃ k, v' = .int k (n : Int) := by
  cases v <;> simp only [idx] at h <;> first | (cases h; done) | skip
  rename_i k m
  cases m with
  | ofNat m => cases h; cases hv; exact ⟨k, rfl⟩
  | negSucc m => cases h
theorem bound_run (k : IntKind) (i y : Nat) (code : BoundsCode) (h : i ≤ y) : (Instr.sliceBound (.int k (i : Int)) y code).run P w = .ok i w := by
  have := run_sliceBound (P := P) (w := w) k (i : Int) y code (by omega) (by omega)
  simpa using this
/-- the operands of a slice expression -/
theorem optIdx_spec {x : Option Operand} {r : List AV} {rest : List Value} {d n : Nat} {r' : List AV} (hv : VRs β r ((x.toList.map ρ) ++ rest)) (h : optIdx x.isSome r d = some (n, r')) :
    VRs β r' rest ∧ ((x = none ∧ n = d) ∨ ∃ y k, x = some y ∧ ρ y = .int k (n : Int)) := by
  cases x with
  | none => simp only [Option.isSome_none, optIdx, Option.some.injEq, Prod.mk.injEq] at h; obtain ⟨rfl, rfl⟩ := h; exact ⟨by simpa using hv, .inl ⟨rfl, rfl⟩⟩
  | some y =>
    cases hv with
    | cons hv0 t =>
      simp only [Option.isSome_some, optIdx] at h
      cases hi : idx _ with
      | none => rw [hi] at h; cases h
      | some m =>
        rw [hi] at h
        cases h
        obtain ⟨k, hk⟩ := idx_VR hv0 hi
        exact ⟨by simpa using t, .inr ⟨y, k, rfl, hk⟩⟩
theorem g_slc {t e : TypeId} {size : Nat} (ht : P.underlying t = some (.slice e)) (hsz : tsize P e = some size) {x : Operand} {lo hi mx : Option Operand} (hmx : mx.isSome = true → hi.isSome = true) {vs : List AV} {v : AV}
    (hv : VRs β vs (ρ x :: ((lo.toList.map ρ) ++ ((hi.toList.map ρ) ++ ((mx.toList.map ρ) ++ []))))) (hs : rSlc size lo.isSome hi.isSome mx.isSome h vs = some v) :
    ∃ v', (Instr.sliceAt t (ρ x) (lo.map ρ) (hi.map ρ) (mx.map ρ)).run P w = .ok v' w ∧ VR β v v' := by
  cases hv with
  | cons hx hv =>
    rename_i a vs
    simp only [rSlc] at hs
    cases a <;> simp only [slcV] at hs <;> first | (cases hs; done) | skip
    rename_i A len cap ex
    cases h1 : optIdx lo.isSome vs 0 with
    | none => rw [h1] at hs; cases hs
    | some p =>
      obtain ⟨l, r1⟩ := p
      rw [h1] at hs
      simp only at hs
      obtain ⟨hv1, hl⟩ := optIdx_spec ρ hv h1
      cases h2 : optIdx hi.isSome r1 len with
      | none => rw [h2] at hs; cases hs
      | some p =>
        obtain ⟨hh, r2⟩ := p
        rw [h2] at hs
        simp only at hs
        obtain ⟨hv2, hhi⟩ := optIdx_spec ρ hv1 h2
        cases h3 : optIdx mx.isSome r2 cap with
        | none => rw [h3] at hs; cases hs
        | some p =>
          obtain ⟨m, r3⟩ := p
          rw [h3] at hs
          obtain ⟨hv3, hm⟩ := optIdx_spec ρ hv2 h3
          cases hv3
          simp only at hs
          cases hb : (Nat.ble l hh && Nat.ble hh m && Nat.ble m cap && (Nat.beq ex 0 || Nat.beq ex size)) with
          | false => rw [hb] at hs; cases hs
          | true =>
            rw [hb] at hs
            simp only [Bool.and_eq_true, Bool.or_eq_true, ble_nat, beq_nat, decide_eq_true_eq] at hb
            obtain ⟨⟨⟨hb1, hb2⟩, hb3⟩, hb4⟩ := hb
            simp only [cond_true, Option.some.injEq] at hs
            subst hs
            obtain ⟨A', c', hxe⟩ : ∃ A' c', ρ x = .slice A' len c' := by
              generalize ρ x = X at hx
              cases hx with
              | sln => exact ⟨_, _, rfl⟩
              | sl => exact ⟨_, _, rfl⟩
            rw [hxe] at hx ⊢
            have hcc : cap ≤ c' := by
              cases hx with
              | sln => omega
              | sl _ _ hc => exact hc
            -- the bounds, in the model
            have hbs : ∃ m', (Instr.sliceBounds true len c' (lo.map ρ) (hi.map ρ) (mx.map ρ)).run P w = .ok (l, hh, m') w ∧ hh ≤ m' ∧ (mx = none → m' = c') ∧ (mx ≠ none → m' = m) := by
              rcases hm with ⟨rfl, rfl⟩ | ⟨ym, km, rfl, hym⟩
              · refine ⟨c', ?_, by omega, fun _ => rfl, fun hn => absurd rfl hn⟩
                rcases hhi with ⟨rfl, rfl⟩ | ⟨yh, kh, rfl, hyh⟩
                · rcases hl with ⟨rfl, rfl⟩ | ⟨yl, kl, rfl, hyl⟩
                  · simp [Instr.sliceBounds]
                  · simp [Instr.sliceBounds, hyl, bound_run kl l _ _ hb1]
                · have hh1 : hh ≤ c' := by omega
                  rcases hl with ⟨rfl, rfl⟩ | ⟨yl, kl, rfl, hyl⟩
                  · simp [Instr.sliceBounds, hyh, bound_run kh hh _ _ hh1]
                  · simp [Instr.sliceBounds, hyh, hyl, bound_run kh hh _ _ hh1, bound_run kl l _ _ hb1]
              · rcases hhi with ⟨rfl, rfl⟩ | ⟨yh, kh, rfl, hyh⟩
                · simp at hmx
                · refine ⟨m, ?_, hb2, (fun hn => by cases hn), fun _ => rfl⟩
                  have hm1 : m ≤ c' := by omega
                  rcases hl with ⟨rfl, rfl⟩ | ⟨yl, kl, rfl, hyl⟩
                  · simp [Instr.sliceBounds, hym, hyh, bound_run km m _ _ hm1, bound_run kh hh _ _ hb2]
                  · simp [Instr.sliceBounds, hym, hyh, hyl, bound_run km m _ _ hm1, bound_run kh hh _ _ hb2, bound_run kl l _ _ hb1]
            obtain ⟨m', hbs, hm1, hm2, hm3⟩ := hbs
            refine ⟨.slice (if m' = l then A' else A'.map (·.add (l * size))) (hh - l) (m' - l), ?_, ?_⟩
            · simp only [Instr.sliceAt, Instr.slice, Sem.run_bind, run_underlying ht, Result.andThen_ok, hbs, sizeOf_run hsz, Sem.run_pure]
            · cases hx with
              | sln =>
                have : m = 0 := by omega
                subst this
                have hh0 : hh = 0 := by omega
                have hl0 : l = 0 := by omega
                subst hh0; subst hl0
                have hm0 : m' = 0 := by
                  cases hmn : mx with
                  | none => rw [hm2 hmn]
                  | some y => exact hm3 (by rw [hmn]; simp)
                subst hm0
                simp only [if_true, Option.map_none]
                cases mx.isSome <;> exact .sln
              | sl hb hl' hc he hz ha =>
                rename_i n k b o z off
                simp only [Option.map_some]
                have hsm : m - l ≤ m' - l := by
                  cases hmn : mx with
                  | none => rw [hm2 hmn]; omega
                  | some y => rw [hm3 (by rw [hmn]; simp)]; omega
                have hoff : m' - l = 0 ∨ off = o + k := by
                  rcases ha with ha | ha
                  · left
                    have : m' ≤ c' := by
                      cases hmn : mx with
                      | none => rw [hm2 hmn]; omega
                      | some y => rw [hm3 (by rw [hmn]; simp)]; omega
                    omega
                  · exact .inr ha
                have hex : (bif mx.isSome then 0 else ex) = 0 → m' - l = m - l := by
                  cases hmn : mx with
                  | none =>
                    simp only [Option.isSome_none, cond_false]
                    intro h0
                    have hmc : m = cap := by
                      rcases hm with ⟨_, h⟩ | ⟨y, _, h, _⟩
                      · exact h
                      · rw [hmn] at h; cases h
                    rw [hm2 hmn, he h0, hmc]
                  | some y => intro _; rw [hm3 (by rw [hmn]; simp)]
                have hez : (bif mx.isSome then 0 else ex) ≠ 0 → k + l * size + (m' - l) * (bif mx.isSome then 0 else ex) ≤ z := by
                  cases hmn : mx with
                  | none =>
                    simp only [Option.isSome_none, cond_false]
                    intro h0
                    have he2 : ex = size := by rcases hb4 with h | h <;> first | exact absurd h h0 | exact h
                    have hz1 := hz h0
                    have hm' := hm2 hmn
                    rw [he2] at hz1 ⊢
                    have : l * size + (m' - l) * size = c' * size := by
                      rw [← Nat.add_mul]
                      congr 1
                      omega
                    omega
                  | some y => intro h0; simp at h0
                by_cases hml : m' = l
                · rw [if_pos hml]
                  exact .sl hb (by omega) hsm hex hez (.inl (by omega))
                · rw [if_neg hml]
                  simp only [add_at]
                  refine .sl hb (by omega) hsm hex hez (.inr ?_)
                  rcases hoff with h0 | h0
                  · omega
                  · rw [h0]; omega
end
end Go.AM
