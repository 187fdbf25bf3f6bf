/- maps from whole numbers to whole numbers, as the code's memory holds them. -/
import Derived.Test.YtijhjfpiglaleaaLibChan
set_option linter.unusedVariables false
set_option linter.unusedSimpArgs false
namespace Go.AM

def enc (ks : List (Int × Int)) : List (AV × AV) := ks.map fun x => (.i .i64 x.1, .i .i64 x.2)
def look1 (k : Int) : List (Int × Int) → Option Int
  | [] => none
  | (a, v) :: r => if a = k then some v else look1 k r
def set1 (k v : Int) : List (Int × Int) → List (Int × Int)
  | [] => [(k, v)]
  | (a, u) :: r => if a = k then (a, v) :: r else (a, u) :: set1 k v r
def del1 (k : Int) : List (Int × Int) → List (Int × Int)
  | [] => []
  | (a, u) :: r => if a = k then r else (a, u) :: del1 k r
theorem look1_cons (k a v : Int) (r : List (Int × Int)) : look1 k ((a, v) :: r) = if a = k then some v else look1 k r := rfl
theorem set1_cons (k v a u : Int) (r : List (Int × Int)) : set1 k v ((a, u) :: r) = if a = k then (a, v) :: r else (a, u) :: set1 k v r := rfl
theorem del1_cons (k a u : Int) (r : List (Int × Int)) : del1 k ((a, u) :: r) = if a = k then r else (a, u) :: del1 k r := rfl
theorem kEq64 : kEq .i64 .i64 = true := rfl
theorem iEq_dec (a b : Int) : iEq a b = decide (a = b) := by rw [iEq_eq, beq_dec]
theorem mfind_enc (k : Int) : ∀ ks, mfind .i64 k (enc ks) = some ((look1 k ks).map (.i .i64 ·))
  | [] => rfl
  | (a, v) :: r => by
    show (bif kEq .i64 .i64 then (bif iEq k a then some (some (AV.i .i64 v)) else mfind .i64 k (enc r)) else none) = _
    rw [kEq64, cond_true, mfind_enc k r, iEq_dec]
    rw [look1_cons]
    by_cases h : a = k
    · simp [h]
    · simp [h, Ne.symm h]
theorem msetL_enc (k v : Int) : ∀ ks, msetL .i64 k (.i .i64 v) (enc ks) = some (enc (set1 k v ks))
  | [] => rfl
  | (a, u) :: r => by
    show (bif kEq .i64 .i64 then (bif iEq k a then some ((AV.i .i64 a, AV.i .i64 v) :: enc r) else (msetL .i64 k (.i .i64 v) (enc r)).map ((AV.i .i64 a, AV.i .i64 u) :: ·)) else none) = _
    rw [kEq64, cond_true, msetL_enc k v r, iEq_dec]
    rw [set1_cons]
    by_cases h : a = k
    · simp [h, enc]
    · simp [h, Ne.symm h, enc]
theorem mdelL_enc (k : Int) : ∀ ks, mdelL .i64 k (enc ks) = some (enc (del1 k ks))
  | [] => rfl
  | (a, u) :: r => by
    show (bif kEq .i64 .i64 then (bif iEq k a then some (enc r) else (mdelL .i64 k (enc r)).map ((AV.i .i64 a, AV.i .i64 u) :: ·)) else none) = _
    rw [kEq64, cond_true, mdelL_enc k r, iEq_dec]
    rw [del1_cons]
    by_cases h : a = k
    · simp [h]
    · simp [h, Ne.symm h, enc]
theorem look1_set1 (k v j : Int) : ∀ ks, look1 j (set1 k v ks) = if k = j then some v else look1 j ks
  | [] => by simp [set1, look1]
  | (a, u) :: r => by
    rw [set1_cons]
    by_cases h : a = k
    · subst h; by_cases h2 : a = j <;> simp [look1, h2]
    · simp only [h, if_false, look1, look1_set1 k v j r]
      by_cases h2 : a = j
      · subst h2; simp [Ne.symm h]
      · simp [h2]
theorem look1_none (j : Int) : ∀ (ks : List (Int × Int)), j ∉ ks.map (·.1) → look1 j ks = none
  | [], _ => rfl
  | (a, u) :: r, h => by
    simp at h
    simp [look1, Ne.symm h.1, look1_none j r (by simpa using h.2)]
theorem set1_keys (k v : Int) : ∀ (ks : List (Int × Int)), (set1 k v ks).map (·.1) = if k ∈ ks.map (·.1) then ks.map (·.1) else ks.map (·.1) ++ [k]
  | [] => rfl
  | (a, u) :: r => by
    rw [set1_cons]
    by_cases h : a = k
    · simp [h]
    · simp only [h, if_false, List.map_cons, set1_keys k v r, List.mem_cons, Ne.symm h, false_or]
      split <;> simp
theorem del1_sub (k : Int) : ∀ (ks : List (Int × Int)), (del1 k ks).map (·.1) |>.Sublist (ks.map (·.1))
  | [] => List.Sublist.refl _
  | (a, u) :: r => by
    rw [del1_cons]
    by_cases h : a = k
    · simp [h]
    · simp only [h, if_false, List.map_cons]; exact (del1_sub k r).cons_cons _
theorem look1_del1 (k j : Int) : ∀ (ks : List (Int × Int)), (ks.map (·.1)).Nodup → look1 j (del1 k ks) = if k = j then none else look1 j ks
  | [], _ => by simp [del1, look1]
  | (a, u) :: r, h => by
    simp only [List.map_cons, List.nodup_cons] at h
    rw [del1_cons]
    by_cases h1 : a = k
    · subst h1
      by_cases h2 : a = j
      · subst h2; simp [look1_none a r h.1]
      · simp [look1, h2]
    · simp only [h1, if_false, look1, look1_del1 k j r h.2]
      by_cases h2 : a = j
      · subst h2; simp [Ne.symm h1]
      · simp [h2]
/-- a map's entries, and what they say -/
def MapI (es : List (AV × AV)) (f : Int → Option Int) : Prop := ∃ ks, es = enc ks ∧ (ks.map (·.1)).Nodup ∧ ∀ k, look1 k ks = f k
def updI (f : Int → Option Int) (k : Int) (v : Option Int) : Int → Option Int := fun j => if k = j then v else f j
theorem mapI_nil : MapI [] fun _ => none := ⟨[], rfl, by simp, fun _ => rfl⟩
theorem MapI.find {es : List (AV × AV)} {f : Int → Option Int} (h : MapI es f) (k : Int) : mfind .i64 k es = some ((f k).map (.i .i64 ·)) := by
  obtain ⟨ks, rfl, _, h2⟩ := h; rw [mfind_enc, h2]
theorem MapI.set {es : List (AV × AV)} {f : Int → Option Int} (h : MapI es f) (k v : Int) : ∃ es', msetL .i64 k (.i .i64 v) es = some es' ∧ MapI es' (updI f k (some v)) := by
  obtain ⟨ks, rfl, h1, h2⟩ := h
  refine ⟨_, msetL_enc k v ks, set1 k v ks, rfl, ?_, fun j => by rw [look1_set1, h2]; rfl⟩
  rw [set1_keys]
  split
  · exact h1
  · rename_i h3
    rw [List.nodup_append]
    exact ⟨h1, by simp, fun a ha b hb hab => by simp at hb; subst hb; subst hab; exact h3 ha⟩
theorem MapI.del {es : List (AV × AV)} {f : Int → Option Int} (h : MapI es f) (k : Int) : ∃ es', mdelL .i64 k es = some es' ∧ MapI es' (updI f k none) := by
  obtain ⟨ks, rfl, h1, h2⟩ := h
  exact ⟨_, mdelL_enc k ks, del1 k ks, rfl, (del1_sub k ks).nodup h1, fun j => by rw [look1_del1 k j ks h1, h2]; rfl⟩
end Go.AM
