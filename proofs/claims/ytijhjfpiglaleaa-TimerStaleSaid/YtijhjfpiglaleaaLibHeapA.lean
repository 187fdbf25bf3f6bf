/- heap: items, the order, what is ahead. -/
import Derived.Test.YtijhjfpiglaleaaLibMap
set_option linter.unusedVariables false
set_option linter.unusedSimpArgs false
namespace Go.AM
variable {N : Nat → Nat} {F : Nat → Option AFn}

/-- an item -/
structure It where
  id : Int
  w : Int
  s : Int
  deriving DecidableEq
def It.cells (x : It) : List AV := [.i .i64 x.id, .i .i64 x.w, .i .i64 x.s]
def It.av (x : It) : AV := .agg x.cells
def It.zero : It := ⟨0, 0, 0⟩
def icells : List It → List AV
  | [] => []
  | x :: r => x.cells ++ icells r
theorem icells_append : ∀ (A B : List It), icells (A ++ B) = icells A ++ icells B
  | [], _ => rfl
  | w :: A, B => by simp [icells, icells_append A B]
theorem icells_length : ∀ (A : List It), (icells A).length = A.length * 3
  | [] => rfl
  | w :: A => by simp [icells, icells_length A, It.cells]; omega
theorem icells_at : ∀ (ws : List It) (i : Nat) (w : It) (sp : List AV), ws[i]? = some w → ((icells ws ++ sp).drop (i * 3)).take 3 = w.cells ∧ i * 3 + 3 ≤ (icells ws ++ sp).length
  | [], i, w, sp, h => by simp at h
  | a :: r, 0, w, sp, h => by simp at h; subst h; simp [icells, It.cells]
  | a :: r, i + 1, w, sp, h => by
    have := icells_at r i w sp (by simpa using h)
    have e : (i + 1) * 3 = i * 3 + 1 + 1 + 1 := by omega
    rw [e]
    simp only [icells, It.cells, List.cons_append, List.nil_append, List.drop_succ_cons, List.length_cons]
    exact ⟨this.1, by omega⟩
theorem splice_cons (a : AV) (c : List AV) (n : Nat) (vs : List AV) : splice (a :: c) (n + 1) vs = a :: splice c n vs := by
  have : n + 1 + vs.length = (n + vs.length) + 1 := by omega
  simp [splice, this]
theorem icells_set : ∀ (ws : List It) (i : Nat) (w : It) (sp : List AV), i < ws.length → splice (icells ws ++ sp) (i * 3) w.cells = icells (ws.set i w) ++ sp
  | [], i, w, sp, h => by simp at h
  | a :: r, 0, w, sp, h => by simp [splice, icells, It.cells]
  | a :: r, i + 1, w, sp, h => by
    have e : (i + 1) * 3 = i * 3 + 1 + 1 + 1 := by omega
    rw [e, List.set_cons_succ]
    simp only [icells, It.cells, List.cons_append, List.nil_append]
    rw [splice_cons, splice_cons, splice_cons]
    have := icells_set r i w sp (by simpa using h)
    simp only [It.cells] at this
    rw [this]
def It.lt (a b : It) : Prop := a.w < b.w ∨ (a.w = b.w ∧ a.s < b.s)
instance (a b : It) : Decidable (a.lt b) := by unfold It.lt; exact inferInstance
theorem It.lt_irrefl (a : It) : ¬ a.lt a := by unfold It.lt; omega
theorem It.lt_asymm {a b : It} (h : a.lt b) : ¬ b.lt a := by unfold It.lt at *; omega
theorem It.lt_trans {a b c : It} (h : a.lt b) (k : b.lt c) : a.lt c := by unfold It.lt at *; omega
theorem It.ge_trans {a b c : It} (h : ¬ a.lt b) (k : ¬ b.lt c) : ¬ a.lt c := by unfold It.lt at *; omega
theorem It.lt_of_lt_of_ge {a b c : It} (h : a.lt b) (k : ¬ c.lt b) : a.lt c := by unfold It.lt at *; omega
def cmpZ (x y : Int) : Int := if x < y then -1 else if y < x then 1 else 0
def It.cmp (a b : It) : Int := if cmpZ a.w b.w ≠ 0 then cmpZ a.w b.w else cmpZ a.s b.s
theorem It.cmp_neg (a b : It) : a.cmp b < 0 ↔ a.lt b := by unfold It.cmp It.lt cmpZ; split <;> split <;> (try split) <;> (try split) <;> omega
section
variable {L : Lg}
theorem compare_spec (h : H_cmp_Compare_int N F) (x y : Int) : CallL F (N k_cmp_Compare_int) [.i .i64 x, .i .i64 y] L fun v L' => v = .i .i64 (cmpZ x y) ∧ L' = L := by
  apply r_cmp_Compare_int h.code
  unfold D_cmp_Compare_int_1
  have nan : ∀ (z : Int) (L : Lg), CallL F (N k_cmp_isNaN_int) [.i .i64 z] L fun v L' => v = .b false ∧ L' = L := by
    intro z L
    apply r_cmp_isNaN_int h.cmp_isNaN_int.code
    simp [D_cmp_isNaN_int_1]
  refine (nan x L).mono ?_
  rintro _ _ ⟨rfl, rfl⟩
  refine (nan y _).mono ?_
  rintro _ _ ⟨rfl, rfl⟩
  by_cases h1 : x < y
  · simp [h1, cmpZ]
  · by_cases h2 : y < x <;> simp [h1, h2, cmpZ]
theorem or_spec (h : H_cmp_Or_int N F) {b : Nat} {x y : Int} {cp ex : Nat} (hL : L b = some (.raw (.cells [.i .i64 x, .i .i64 y]))) : CallL F (N k_cmp_Or_int) [.sl (some (b, 0)) 2 cp ex] L fun v L' => v = .i .i64 (if x ≠ 0 then x else y) ∧ L' = L := by
  apply r_cmp_Or_int h.code
  unfold D_cmp_Or_int_1 D_cmp_Or_int_2 D_cmp_Or_int_5
  simp [D_cmp_Or_int_7]
  refine loopW_intro (fun n l' L' => ∃ i : Nat, i ≤ 2 ∧ n = 2 - i ∧ (0 < i → x = 0) ∧ (1 < i → y = 0) ∧ L' = L ∧ l' 3 = .i .i64 0 ∧ l' 6 = .sl (some (b, 0)) 2 cp ex ∧ l' 7 = .i .i64 2 ∧ l' 8 = .i .i64 i)
    2 ⟨0, by omega, by omega, by omega, by omega, rfl, by simp, by simp, by simp, by simp⟩ ?_
  rintro n l' t L' ⟨i, hi, hn, h0, h1, rfl, l3, l6, l7, l8⟩
  unfold D_cmp_Or_int_8
  rw [l3, l6, l7, l8]
  obtain rfl | rfl | rfl : i = 0 ∨ i = 1 ∨ i = 2 := by omega
  · by_cases hx : x = 0
    · simp [wp_iad _ _ _ 1 b 0 2 cp ex .i64 0 (by omega) (by omega), rdL, AB.read, look, hL, hx]
      refine ⟨1, by omega, 1, by omega, by omega, ?_⟩
      simp [hx, l3, l6, l7, wr_id]
    · simp [wp_iad _ _ _ 1 b 0 2 cp ex .i64 0 (by omega) (by omega), rdL, AB.read, look, hL, hx]
  · have hx := h0 (by omega)
    have e : ((1 : Nat) : Int) = 1 := rfl
    rw [e]
    by_cases hy : y = 0
    · simp [wp_iad _ _ _ 1 b 0 2 cp ex .i64 1 (by omega) (by omega), rdL, AB.read, look, hL, hx, hy]
      refine ⟨0, by omega, 2, by omega, by omega, ?_⟩
      simp [hx, hy, l3, l6, l7, wr_id]
    · simp [wp_iad _ _ _ 1 b 0 2 cp ex .i64 1 (by omega) (by omega), rdL, AB.read, look, hL, hx, hy]
  · have hx := h0 (by omega)
    have hy := h1 (by omega)
    simp [D_cmp_Or_int_4, hx, hy]
theorem ahead_spec (h : H_heap_ahead N F) (x y : It) : CallL F (N k_heap_ahead) [x.av, y.av] L fun v L' => v = .i .i64 (x.cmp y) ∧ L' = L := by
  apply r_heap_ahead h.code
  unfold D_heap_ahead_1 It.av
  simp
  rw [newL_box_agg _ _ _ (by simp [It.cells])]
  intro b1 h1
  simp
  rw [newL_box_agg _ _ _ (by simp [It.cells])]
  intro b2 h2
  have n1 : b2 ≠ b1 := by rintro rfl; simp at h2
  rw [Lg.put_ne _ _ _ n1] at h2
  simp [rdL, AB.read, look, Lg.put_apply, n1, Ne.symm n1, It.cells]
  refine (compare_spec h.cmp_Compare_int _ _).mono ?_
  rintro _ _ ⟨rfl, rfl⟩
  simp [rdL, AB.read, look, Lg.put_apply, n1, Ne.symm n1, It.cells]
  refine (compare_spec h.cmp_Compare_int _ _).mono ?_
  rintro _ _ ⟨rfl, rfl⟩
  simp
  rw [newL_bslice (c := [.i .i64 (cmpZ x.w y.w), .i .i64 (cmpZ x.s y.s)]) _ _ (by simp [reps, fillP, splice, ble_nat, beq_nat]) (by simp)]
  intro b3 h3
  refine (or_spec h.cmp_Or_int (Lg.put_same _ _ _)).mono ?_
  rintro _ _ ⟨rfl, rfl⟩
  have n2 : b3 ≠ b2 := by rintro rfl; simp at h3
  have n3 : b3 ≠ b1 := by rintro rfl; simp [Lg.put_apply, Ne.symm n1] at h3
  rw [Lg.put_ne _ _ _ n2, Lg.put_ne _ _ _ n3] at h3
  simp [againV, semRL, rLdL, rdL, AB.read, look, Lg.put_apply, n1, Ne.symm n1, n2, Ne.symm n2, n3, Ne.symm n3, It.cells]
  refine ⟨Sees.drop ?_, ?_⟩
  · intro c d hd
    have c1 : c ≠ b1 := by rintro rfl; rw [h1] at hd; cases hd
    have c2 : c ≠ b2 := by rintro rfl; rw [h2] at hd; cases hd
    have c3 : c ≠ b3 := by rintro rfl; rw [h3] at hd; cases hd
    simp [Lg.put_apply, c1, c2, c3, hd]
  · unfold It.cmp; by_cases h9 : cmpZ x.w y.w = 0 <;> simp [h9]
end
end Go.AM
