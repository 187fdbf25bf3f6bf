/- ring: what its functions do. -/
import Derived.Test.YtijhjfpiglaleaaLibClock
import Derived.Test.YtijhjfpiglaleaaLgE
set_option linter.unusedVariables false
set_option linter.unusedSimpArgs false
namespace Go.AM
variable {N : Nat → Nat} {F : Nat → Option AFn}

def ints (zs : List Int) : List AV := zs.map (.i .i64 ·)
@[simp] theorem ints_length (zs : List Int) : (ints zs).length = zs.length := by simp [ints]
@[simp] theorem ints_get (zs : List Int) (i : Nat) : (ints zs)[i]? = (zs[i]?).map (.i .i64 ·) := by simp [ints]
theorem ints_set (zs : List Int) (i : Nat) (v : Int) : (ints zs).set i (.i .i64 v) = ints (zs.set i v) := by simp [ints, List.map_set]
theorem ints_append (a b : List Int) : ints a ++ ints b = ints (a ++ b) := by simp [ints]
theorem ints_one (zs : List Int) : (ints zs).all AV.one = true := by simp [ints]

/-- a ring's values, and its room -/
def RingP (r : Nat) (xs : List Int) (cap : Nat) (h : Hp) : Prop := ∃ (b fr : Nat) (zs : List Int), b ≠ r ∧ zs.length = cap ∧ xs.length ≤ cap ∧ cap ≤ 64 ∧ fr ≤ cap ∧ (0 < cap → fr < cap) ∧ (∀ i, i < xs.length → zs[(fr + i) % cap]? = xs[i]?) ∧
  Sat (Lg.two r b (.raw (.cells [.sl (some (b, 0)) cap cap 0, .i .i64 fr, .i .i64 xs.length])) (.raw (.cells (ints zs)))) h

section
variable {L : Lg} {r cap : Nat} {xs : List Int}
theorem ringLen_raw (h : H_ring_Ring_Len N F) {a b : AV} {n : Int} (e : L r = some (.raw (.cells [a, b, .i .i64 n]))) : CallL F (N k_ring_Ring_Len) [.p (some (r, 0))] L fun w L' => w = .i .i64 n ∧ L' = L := by
  apply r_ring_Ring_Len h.code
  simp [D_ring_Ring_Len_1, rdL, AB.read, look, e]
theorem ringLen_spec (h : H_ring_Ring_Len N F) (e : L r = some (.abs (RingP r xs cap))) : CallL F (N k_ring_Ring_Len) [.p (some (r, 0))] L fun w L' => w = .i .i64 xs.length ∧ L' = L := by
  apply CallL.open2 e
  rintro hm ⟨b, fr, zs, hne, h1, h2, h3, h4, h5, h6, hs⟩
  refine ⟨b, _, _, hne, hs, fun hb => ?_⟩
  refine (ringLen_raw h (Lg.put_same _ _ _)).sees ?_
  rintro _ _ ⟨rfl, rfl⟩
  refine ⟨L, ?_, rfl, rfl⟩
  have := Sees.shut2 (P := RingP r xs cap) hne hb (fun h hs => ⟨b, fr, zs, hne, h1, h2, h3, h4, h5, h6, hs⟩)
  rwa [Lg.put_self L r _ e] at this
theorem ringSize_spec (h : H_ring_Ring_Size N F) (e : L r = some (.abs (RingP r xs cap))) : CallL F (N k_ring_Ring_Size) [.p (some (r, 0))] L fun w L' => w = .i .i64 cap ∧ L' = L := by
  apply CallL.open2 e
  rintro hm ⟨b, fr, zs, hne, h1, h2, h3, h4, h5, h6, hs⟩
  refine ⟨b, _, _, hne, hs, fun hb => ?_⟩
  apply r_ring_Ring_Size h.code
  simp [D_ring_Ring_Size_1, rdL, AB.read, look]
  have := Sees.shut2 (P := RingP r xs cap) hne hb (fun h hs => ⟨b, fr, zs, hne, h1, h2, h3, h4, h5, h6, hs⟩)
  rwa [Lg.put_self L r _ e] at this
theorem ringPush_spec (h : H_ring_Ring_Push N F) (e : L r = some (.abs (RingP r xs cap))) (v : Int) : CallL F (N k_ring_Ring_Push) [.p (some (r, 0)), .i .i64 v] L fun w L' =>
    if xs.length = cap then w = .b false ∧ L' = L else w = .b true ∧ L' = L.put r (.abs (RingP r (xs ++ [v]) cap)) := by
  apply CallL.open2 e
  rintro hm ⟨b, fr, zs, hne, h1, h2, h3, h4, h5, h6, hs⟩
  refine ⟨b, _, _, hne, hs, fun hb => ?_⟩
  apply r_ring_Ring_Push h.code
  unfold D_ring_Ring_Push_1 D_ring_Ring_Push_2
  by_cases hf : xs.length = cap
  · simp [rdL, AB.read, look, hf]
    have := Sees.shut2 (P := RingP r xs cap) hne hb (fun h hs => ⟨b, fr, zs, hne, h1, h2, h3, h4, h5, h6, hs⟩)
    rwa [Lg.put_self L r _ e, hf] at this
  · have hi : ¬ ((xs.length : Int) = cap) := by omega
    have hc : (cap : Int) ≠ 0 := by omega
    have e1 : wr .i64 ((fr : Int) + xs.length) = (fr : Int) + xs.length := wr_id (by omega) (by omega)
    obtain ⟨m, hm'⟩ : ∃ m, m = (fr + xs.length) % cap := ⟨_, rfl⟩
    have e2 : ((fr : Int) + xs.length).tmod cap = (m : Int) := by rw [hm', ← Int.natCast_add, Int.ofNat_tmod]
    obtain ⟨n1, hn1⟩ : ∃ n1, n1 = xs.length + 1 := ⟨_, rfl⟩
    have e3 : wr .i64 ((xs.length : Int) + 1) = (n1 : Int) := by rw [wr_id (by omega) (by omega)]; omega
    have hlt : m < cap := by rw [hm']; exact Nat.mod_lt _ (by omega)
    have e5 : (m : Int) < cap := by omega
    have e6 : m + 1 ≤ cap := hlt
    simp [rdL, AB.read, look, hf, hi, D_ring_Ring_Push_3, e1, e2, wp_rem _ _ _ _ _ _ hc, wp_iad _ _ _ 1 b 0 cap cap 0 .i64 (m : Int) (Int.natCast_nonneg _) e5,
      stL, wrL, splice_one, ints_set, Lg.put_apply, hne, Ne.symm hne, h1, hlt, e3, e6, Lg.put3 _ hne]
    apply Sees.shut2 hne hb
    intro h hs
    refine ⟨b, fr, zs.set m v, hne, by simpa using h1, by simp; omega, h3, h4, h5, ?_, by simpa [hn1] using hs⟩
    intro i hi'
    rw [List.length_append, List.length_singleton] at hi'
    rw [List.getElem?_set, List.getElem?_append]
    by_cases h7 : i < xs.length
    · have : m ≠ (fr + i) % cap := by
        rw [hm']; intro h8
        have h9 : (fr + xs.length) % cap = (fr + i) % cap := h8
        have := Nat.mod_lt (fr + i) (show 0 < cap by omega)
        have a1 := Nat.div_add_mod (fr + xs.length) cap
        have a2 := Nat.div_add_mod (fr + i) cap
        have a3 : (fr + i) / cap ≤ (fr + xs.length) / cap := Nat.div_le_div_right (by omega)
        rcases Nat.lt_or_ge ((fr + i) / cap) ((fr + xs.length) / cap) with a4 | a4
        · have a5 := Nat.mul_le_mul_left cap (show (fr + i) / cap + 1 ≤ (fr + xs.length) / cap from a4)
          rw [Nat.mul_add] at a5
          omega
        · have : (fr + i) / cap = (fr + xs.length) / cap := by omega
          rw [this] at a2
          omega
      simp only [this, if_false, h7, if_true]
      exact h6 i h7
    · have : i = xs.length := by omega
      subst this
      simp [hm']
      rw [← hm']
      simp [h1, hlt]
theorem ringPop_spec (h : H_ring_Ring_Pop N F) (e : L r = some (.abs (RingP r xs cap))) : CallL F (N k_ring_Ring_Pop) [.p (some (r, 0))] L fun w L' => match (generalizing := false) xs with
    | [] => w = .tup [.i .i64 0, .b false] ∧ L' = L
    | x :: ys => w = .tup [.i .i64 x, .b true] ∧ L' = L.put r (.abs (RingP r ys cap)) := by
  apply CallL.open2 e
  rintro hm ⟨b, fr, zs, hne, h1, h2, h3, h4, h5, h6, hs⟩
  refine ⟨b, _, _, hne, hs, fun hb => ?_⟩
  apply r_ring_Ring_Pop h.code
  unfold D_ring_Ring_Pop_1 D_ring_Ring_Pop_2
  cases xs with
  | nil =>
    simp [rdL, AB.read, look]
    have := Sees.shut2 (P := RingP r [] cap) hne hb (fun h hs => ⟨b, fr, zs, hne, h1, h2, h3, h4, h5, h6, hs⟩)
    rwa [Lg.put_self L r _ e] at this
  | cons x ys =>
    have hi : ¬ (((x :: ys).length : Int) = 0) := by simp; omega
    have hl : (x :: ys).length = ys.length + 1 := rfl
    have hc : (cap : Int) ≠ 0 := by omega
    have hfr := h5 (by omega)
    obtain ⟨n0, hn0⟩ : ∃ n0, n0 = (x :: ys).length := ⟨_, rfl⟩
    rw [← hn0] at hi hs ⊢
    have hx : zs[fr]? = some x := by
      have := h6 0 (by simp)
      rw [Nat.add_zero, Nat.mod_eq_of_lt hfr] at this
      simpa using this
    have e1 : wr .i64 ((fr : Int) + 1) = (fr : Int) + 1 := wr_id (by omega) (by omega)
    obtain ⟨m, hm'⟩ : ∃ m, m = (fr + 1) % cap := ⟨_, rfl⟩
    have e2 : ((fr : Int) + 1).tmod cap = (m : Int) := by rw [hm', ← Int.natCast_succ, Int.ofNat_tmod]
    have hi2 : n0 ≠ 0 := by omega
    have e3 : wr .i64 ((n0 : Int) - 1) = (ys.length : Int) := by rw [wr_id (by omega) (by omega)]; omega
    have hlt : m < cap := by rw [hm']; exact Nat.mod_lt _ (by omega)
    have e5 : (fr : Int) < cap := by omega
    simp [rdL, AB.read, look, hi, D_ring_Ring_Pop_3, e1, e2, wp_rem _ _ _ _ _ _ hc, wp_iad _ _ _ 1 b 0 cap cap 0 .i64 (fr : Int) (Int.natCast_nonneg _) e5,
      stL, wrL, splice_one, ints_set, Lg.put_apply, hne, h1, hlt, e3, hx, hi2]
    apply Sees.shut2 hne hb
    intro h hs
    refine ⟨b, m, zs, hne, h1, by omega, h3, by omega, fun _ => hlt, ?_, hs⟩
    intro i hi'
    have := h6 (i + 1) (by omega)
    rw [List.getElem?_cons_succ] at this
    rw [← this, hm']
    congr 1
    rw [Nat.mod_add_mod]
    congr 1; omega
theorem ringClear_spec (h : H_ring_Ring_Clear N F) (e : L r = some (.abs (RingP r xs cap))) : CallL F (N k_ring_Ring_Clear) [.p (some (r, 0))] L fun w L' => w = .i .i64 xs.length ∧ L' = L.put r (.abs (RingP r [] cap)) := by
  apply CallL.open2 e
  rintro hm ⟨b, fr, zs, hne, h1, h2, h3, h4, h5, h6, hs⟩
  refine ⟨b, _, _, hne, hs, fun hb => ?_⟩
  apply r_ring_Ring_Clear h.code
  unfold D_ring_Ring_Clear_1
  have key : Sees ((L.put b (.raw (.cells (ints zs)))).put r (.raw (.cells [.sl (some (b, 0)) cap cap 0, .i .i64 fr, .i .i64 (0 : Nat)]))) (L.put r (.abs (RingP r [] cap))) :=
    Sees.shut2 hne hb (fun h hs => ⟨b, fr, zs, hne, h1, by simp, h3, h4, h5, by simp, hs⟩)
  refine (ringLen_raw (r := r) h.ring_Ring_Len (Lg.put_same _ _ _)).mono ?_
  rintro _ _ ⟨rfl, rfl⟩
  by_cases h0 : xs.length = 0
  · have h0' : ((0 : Nat) : Int) = 0 := rfl
    rw [h0] at hs ⊢
    simpa [h0'] using key
  · have hp : (0 : Int) < xs.length := by omega
    have hp2 : 0 < xs.length := by omega
    simpa [hp, hp2, rdL, AB.read, look, stL, wrL, splice_one] using key
theorem ringNew_spec (h : H_ring_New N F) (n : Nat) (hn : n ≤ 64) : CallL F (N k_ring_New) [.i .i64 n] L fun w L' => ∃ r, L r = none ∧ w = .tup [.p (some (r, 0)), .i .i64 0] ∧ L' = L.put r (.abs (RingP r [] n)) := by
  apply r_ring_New h.code
  have h1 : ¬ ((n : Int) < 0) := by omega
  have h2 : ¬ ((64 : Int) < n) := by omega
  have h2' : ¬ (64 < n) := by omega
  simp [D_ring_New_1, h1, h2, h2', wp_mksl F _ _ [.i .i64 0] 8 .i64 .i64 n n (Nat.le_refl n) (by omega)]
  intro b hb
  simp [fillP, splice, Nat.ble]
  · intro r hr
    have hrb : r ≠ b := by rintro rfl; simp at hr
    rw [Lg.put_ne _ _ _ hrb] at hr
    refine ⟨L.put r (.abs (RingP r [] n)), ?_, r, hr, rfl, rfl⟩
    refine Sees.shut2 (Ne.symm hrb) hb ?_
    intro h hs
    refine ⟨b, 0, List.replicate n 0, Ne.symm hrb, by simp, by simp, hn, by omega, fun h => h, by simp, ?_⟩
    have : ints (List.replicate n 0) = reps [.i .i64 0] n := by simp [ints, reps_one']
    rw [this]
    exact hs
end
end Go.AM
