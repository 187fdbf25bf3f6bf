/- Logical memory: its laws. -/
import Derived.Test.YtijhjfpiglaleaaLgA
set_option linter.unusedVariables false
set_option linter.unusedSimpArgs false
namespace Go.AM

@[simp] theorem Lg.put_same (L : Lg) (n : Nat) (c : LC) : (L.put n c) n = some c := by simp [Lg.put]
theorem Lg.put_ne (L : Lg) (n : Nat) (c : LC) {m : Nat} (h : m ≠ n) : (L.put n c) m = L m := by simp [Lg.put, h]
theorem Lg.put_apply (L : Lg) (n : Nat) (c : LC) (m : Nat) : (L.put n c) m = if m = n then some c else L m := rfl
theorem Lg.del_apply (L : Lg) (n : Nat) (m : Nat) : (L.del n) m = if m = n then none else L m := rfl
@[simp] theorem Lg.put_put (L : Lg) (n : Nat) (c d : LC) : (L.put n c).put n d = L.put n d := by
  funext m; simp only [Lg.put]; split <;> rfl
theorem Lg.put_comm (L : Lg) {n m : Nat} (h : n ≠ m) (c d : LC) : (L.put n c).put m d = (L.put m d).put n c := by
  funext k; simp only [Lg.put]; split <;> split <;> simp_all
@[simp] theorem Lg.put_self (L : Lg) (n : Nat) (c : LC) (h : L n = some c) : L.put n c = L := by
  funext m; simp only [Lg.put]; split <;> simp_all
@[simp] theorem Lg.del_put (L : Lg) (n : Nat) (c : LC) (h : L n = none) : (L.put n c).del n = L := by
  funext m; simp only [Lg.put, Lg.del]; split <;> simp_all
theorem Lg.del_of_none (L : Lg) (n : Nat) (h : L n = none) : L.del n = L := by
  funext m; simp only [Lg.del]; split <;> simp_all
theorem Lg.del_put_ne (L : Lg) {n m : Nat} (h : n ≠ m) (c : LC) : (L.put n c).del m = (L.del m).put n c := by
  funext k; simp only [Lg.put, Lg.del]; split <;> split <;> simp_all

theorem partOk.root {c : LC} {r : Nat} {p : Hp} (h : partOk (some c) r p) : ∃ x, p r = some x := by
  cases c with
  | raw x => exact ⟨x, h.1⟩
  | abs P => obtain ⟨_, cs, h⟩ := h; exact ⟨_, h⟩

theorem Parts.sat {L : Lg} {p : Nat → Hp} (hp : Parts L p) : ∃ h, Sat L h ∧ ∀ b x, h b = some x ↔ ∃ r, p r b = some x := by
  classical
  have hx : ∀ b, ∃ v : Option AB, ∀ x, v = some x ↔ ∃ r, p r b = some x := by
    intro b
    by_cases h : ∃ r x, p r b = some x
    · obtain ⟨r, x, h⟩ := h
      refine ⟨some x, fun y => Iff.intro (fun (e : some x = some y) => by cases e; exact ⟨r, h⟩) ?_⟩
      rintro ⟨s, hs⟩
      by_cases e : r = s
      · subst e; rw [← h]; exact hs
      · rcases hp.2 r s b e with h1 | h1 <;> simp_all
    · refine ⟨none, fun y => Iff.intro (fun e => by cases e) ?_⟩
      rintro ⟨s, hs⟩
      exact absurd ⟨s, y, hs⟩ h
  obtain ⟨h, hh⟩ := Classical.axiomOfChoice hx
  exact ⟨h, ⟨p, hp, hh⟩, hh⟩
theorem mod_iff {S : St} {L : Lg} : Mod S L ↔ ∃ p, Parts L p ∧ ∀ r b x, p r b = some x → S.h.get b = some x ∧ b < S.nx := by
  refine ⟨?_, ?_⟩
  · rintro ⟨h, ⟨p, hp, hh⟩, hs⟩
    exact ⟨p, hp, fun r b x e => hs b x ((hh b x).2 ⟨r, e⟩)⟩
  · rintro ⟨p, hp, hs⟩
    obtain ⟨h, h1, h2⟩ := hp.sat
    exact ⟨h, h1, fun b x e => by obtain ⟨r, e⟩ := (h2 b x).1 e; exact hs r b x e⟩

section
variable {S : St} {L : Lg}
theorem Mod.raw (h : Mod S L) {b : Nat} {x : AB} (e : L b = some (.raw x)) : S.h.get b = some x ∧ b < S.nx := by
  obtain ⟨p, hp, hs⟩ := mod_iff.1 h
  have := hp.1 b
  rw [e] at this
  exact hs b b x this.1
theorem Mod.root (h : Mod S L) {b : Nat} {c : LC} (e : L b = some c) : (∃ x, S.h.get b = some x) ∧ b < S.nx := by
  obtain ⟨p, hp, hs⟩ := mod_iff.1 h
  have := hp.1 b
  rw [e] at this
  obtain ⟨x, hx⟩ := this.root
  exact ⟨⟨x, (hs b b x hx).1⟩, (hs b b x hx).2⟩
theorem Mod.cells (h : Mod S L) {b : Nat} {P : Hp → Prop} (e : L b = some (.abs P)) : ∃ cs, S.h.get b = some (.cells cs) := by
  obtain ⟨p, hp, hs⟩ := mod_iff.1 h
  have := hp.1 b
  rw [e] at this
  obtain ⟨_, cs, hx⟩ := this
  exact ⟨cs, (hs b b _ hx).1⟩
theorem Mod.fresh (h : Mod S L) {b : Nat} (hb : S.nx ≤ b) : L b = none := by
  cases e : L b with
  | none => rfl
  | some c => exact absurd (h.root e).2 (by omega)
theorem Mod.sub (h : Mod S L) {L' : Lg} (e : ∀ b c, L' b = some c → L b = some c) : Mod S L' := by
  obtain ⟨p, hp, hs⟩ := mod_iff.1 h
  refine mod_iff.2 ⟨fun r b => if L' r = none then none else p r b, ⟨?_, ?_⟩, ?_⟩
  · intro r
    cases h1 : L' r with
    | none => intro b; simp [h1]
    | some c => have := hp.1 r; rw [e r c h1] at this; simpa [h1] using this
  · intro r s b hrs
    have := hp.2 r s b hrs
    simp only
    split <;> split <;> simp_all
  · intro r b x hx
    simp only at hx
    split at hx
    · cases hx
    · exact hs r b x hx
theorem Mod.put (h : Mod S L) {b : Nat} {x y : AB} (e : L b = some (.raw x)) : Mod { S with h := S.h.set b (some y) } (L.put b (.raw y)) := by
  obtain ⟨p, hp, hs⟩ := mod_iff.1 h
  have h0 := hp.1 b
  rw [e] at h0
  refine mod_iff.2 ⟨fun r c => if r = b then (if c = b then some y else none) else p r c, ⟨?_, ?_⟩, ?_⟩
  · intro r
    by_cases hr : r = b
    · subst hr
      simp only [Lg.put_same, partOk, if_true]
      exact ⟨trivial, fun c hc => by simp [hc]⟩
    · rw [Lg.put_ne _ _ _ hr]
      simp only [hr, if_false]
      exact hp.1 r
  · intro r s c hrs
    by_cases hr : r = b
    · subst hr
      have hs' : s ≠ r := fun h => hrs h.symm
      simp only [if_true, hs', if_false]
      by_cases hc : c = r
      · subst hc
        have := hp.2 c s c hrs
        rw [h0.1] at this
        simp at this
        exact .inr this
      · left; simp [hc]
    · by_cases hs' : s = b
      · subst hs'
        simp only [if_true, hr, if_false]
        by_cases hc : c = s
        · subst hc
          have := hp.2 r c c hrs
          rw [h0.1] at this
          simp at this
          exact .inl this
        · right; simp [hc]
      · simp only [hr, hs', if_false]; exact hp.2 r s c hrs
  · intro r c z hz
    simp only at hz
    simp only [PM.get_set]
    split at hz
    · split at hz
      · rename_i h2; subst h2; cases hz; exact ⟨by simp, (h.raw e).2⟩
      · cases hz
    · rename_i hr
      have hc : c ≠ b := by
        rintro rfl
        have := hp.2 r c c hr
        rw [h0.1, hz] at this
        simp at this
      simp only [hc, if_false]
      exact hs r c z hz
theorem Mod.gone (h : Mod S L) {b : Nat} {x : AB} (e : L b = some (.raw x)) : Mod { S with h := S.h.set b none } (L.del b) := by
  obtain ⟨p, hp, hs⟩ := mod_iff.1 h
  have h0 := hp.1 b
  rw [e] at h0
  refine mod_iff.2 ⟨fun r c => if r = b then none else p r c, ⟨?_, ?_⟩, ?_⟩
  · intro r
    by_cases hr : r = b
    · subst hr
      simp [Lg.del_apply, partOk]
    · simp only [Lg.del_apply, hr, if_false]
      exact hp.1 r
  · intro r s c hrs
    have := hp.2 r s c hrs
    by_cases hr : r = b <;> by_cases hs' : s = b <;> simp [hr, hs', this] <;> simp_all
  · intro r c z hz
    simp only at hz
    simp only [PM.get_set]
    split at hz
    · cases hz
    · rename_i hr
      have hc : c ≠ b := by
        rintro rfl
        have := hp.2 r c c hr
        rw [h0.1, hz] at this
        simp at this
      simp only [hc, if_false]
      exact hs r c z hz
theorem Mod.new (h : Mod S L) (y : AB) : Mod { h := S.h.set S.nx (some y), nx := S.nx + 1 } (L.put S.nx (.raw y)) := by
  have e := h.fresh (Nat.le_refl S.nx)
  obtain ⟨p, hp, hs⟩ := mod_iff.1 h
  have h0 := hp.1 S.nx
  rw [e] at h0
  refine mod_iff.2 ⟨fun r c => if r = S.nx then (if c = S.nx then some y else none) else p r c, ⟨?_, ?_⟩, ?_⟩
  · intro r
    by_cases hr : r = S.nx
    · subst hr
      simp only [Lg.put_same, partOk, if_true]
      exact ⟨trivial, fun c hc => by simp [hc]⟩
    · rw [Lg.put_ne _ _ _ hr]
      simp only [hr, if_false]
      exact hp.1 r
  · have key : ∀ r, p r S.nx = none := fun r => by
      cases hz : p r S.nx with
      | none => rfl
      | some z => exact absurd (hs r S.nx z hz).2 (by omega)
    intro r s c hrs
    by_cases hr : r = S.nx
    · have hs' : s ≠ S.nx := fun h => hrs (hr.trans h.symm)
      simp only [hr, if_true, hs', if_false]
      by_cases hc : c = S.nx
      · subst hc; exact .inr (key s)
      · left; simp [hc]
    · by_cases hs' : s = S.nx
      · simp only [hs', if_true, hr, if_false]
        by_cases hc : c = S.nx
        · subst hc; exact .inl (key r)
        · right; simp [hc]
      · simp only [hr, hs', if_false]; exact hp.2 r s c hrs
  · intro r c z hz
    simp only at hz
    simp only [PM.get_set]
    split at hz
    · split at hz
      · rename_i h2; subst h2; cases hz; exact ⟨by simp, by omega⟩
      · cases hz
    · have := hs r c z hz
      have hc : c ≠ S.nx := by omega
      simp only [hc, if_false]
      exact ⟨this.1, by omega⟩
end

@[simp] theorem Sees.refl (L : Lg) : Sees L L := fun _ h => h
theorem Sees.trans {L M N : Lg} (h : Sees L M) (k : Sees M N) : Sees L N := fun S m => k S (h S m)
theorem Sees.drop {L L' : Lg} (e : ∀ b c, L' b = some c → L b = some c) : Sees L L' := fun S h => h.sub e

/-- What is hidden: a part of what is known becomes one thing. -/
theorem Sees.fold {L M : Lg} {r : Nat} {P : Hp → Prop} (hM : ∀ b c, M b = some c → L b = some c) (hr : (∃ cs, M r = some (.raw (.cells cs))) ∨ ∃ Q, M r = some (.abs Q)) (hP : ∀ h, Sat M h → P h) :
    Sees L ((L.minus M).put r (.abs P)) := by
  classical
  intro S h
  obtain ⟨p, hp, hs⟩ := mod_iff.1 h
  have hpM : Parts M (fun b d => if M b = none then none else p b d) := by
    refine ⟨?_, ?_⟩
    · intro b
      cases h1 : M b with
      | none => intro c; simp [h1]
      | some c => have := hp.1 b; rw [hM b c h1] at this; simpa [h1] using this
    · intro b c d hbc
      have := hp.2 b c d hbc
      simp only
      split <;> split <;> simp_all
  obtain ⟨hm, hsat, hmi⟩ := hpM.sat
  have hroot : ∃ cs, hm r = some (.cells cs) := by
    have h0 := hp.1 r
    rcases hr with ⟨cs, hr⟩ | ⟨Q, hr⟩
    · rw [hM r _ hr] at h0
      exact ⟨cs, (hmi r _).2 ⟨r, by simpa [hr] using h0.1⟩⟩
    · rw [hM r _ hr] at h0
      obtain ⟨_, cs, h0⟩ := h0
      exact ⟨cs, (hmi r _).2 ⟨r, by simpa [hr] using h0⟩⟩
  have hrM : ∃ c, M r = some c := by rcases hr with ⟨cs, hr⟩ | ⟨Q, hr⟩ <;> exact ⟨_, hr⟩
  refine mod_iff.2 ⟨fun b d => if b = r then hm d else if M b = none then p b d else none, ⟨?_, ?_⟩, ?_⟩
  · intro b
    by_cases hb : b = r
    · subst hb
      simp only [Lg.put_same, if_true]
      exact ⟨hP _ hsat, hroot⟩
    · rw [Lg.put_ne _ _ _ hb]
      simp only [hb, if_false]
      cases h1 : M b with
      | some c =>
        have h2 : L.minus M b = none := by simp [Lg.minus, h1]
        rw [h2]; intro d; simp
      | none =>
        have h2 : L.minus M b = L b := by simp [Lg.minus, h1]
        rw [h2]; simpa [h1] using hp.1 b
  · have key : ∀ b d, M b = none → hm d = none ∨ p b d = none := by
      intro b d hb
      cases h1 : hm d with
      | none => exact .inl rfl
      | some x =>
        obtain ⟨s, hs'⟩ := (hmi d x).1 h1
        right
        have hsb : s ≠ b := by rintro rfl; simp [hb] at hs'
        have := hp.2 s b d hsb
        split at hs'
        · cases hs'
        · rw [hs'] at this; simpa using this
    intro b c d hbc
    by_cases hb : b = r
    · have hc : c ≠ r := fun h => hbc (hb.trans h.symm)
      simp only [hb, if_true, hc, if_false]
      split
      · exact key c d (by assumption)
      · exact .inr rfl
    · by_cases hc : c = r
      · simp only [hb, if_true, hc, if_false]
        split
        · exact (key b d (by assumption)).symm
        · exact .inl rfl
      · simp only [hb, hc, if_false]
        have := hp.2 b c d hbc
        split <;> split <;> simp_all
  · intro b d x hx
    simp only at hx
    split at hx
    · obtain ⟨s, hs'⟩ := (hmi d x).1 hx
      split at hs'
      · cases hs'
      · exact hs s d x hs'
    · split at hx
      · exact hs b d x hx
      · cases hx

/-- What was hidden is there again. -/
theorem Mod.unfold {S : St} {L : Lg} (h : Mod S L) {r : Nat} {P : Hp → Prop} (e : L r = some (.abs P)) :
    ∃ hm, P hm ∧ ∀ M, Sat M hm → Mod S (M.over (L.del r)) ∧ ∀ b c, M b = some c → b ≠ r → L b = none := by
  obtain ⟨p, hp, hs⟩ := mod_iff.1 h
  have h0 := hp.1 r
  rw [e] at h0
  refine ⟨p r, h0.1, fun M hM => ?_⟩
  obtain ⟨q, hq, hqi⟩ := hM
  have hfr : ∀ b c, M b = some c → b ≠ r → L b = none := by
    intro b c hb hbr
    have h1 := hq.1 b
    rw [hb] at h1
    obtain ⟨x, hx⟩ := h1.root
    have h2 := (hqi b x).2 ⟨b, hx⟩
    cases hL : L b with
    | none => rfl
    | some d =>
      have h3 := hp.1 b
      rw [hL] at h3
      obtain ⟨y, hy⟩ := h3.root
      have := hp.2 r b b (fun h => hbr h.symm)
      rw [h2, hy] at this
      simp at this
  refine ⟨mod_iff.2 ⟨fun b d => if M b = none then (if b = r then none else p b d) else q b d, ⟨?_, ?_⟩, ?_⟩, hfr⟩
  · intro b
    cases h1 : M b with
    | some c => simp only [Lg.over, h1]; have := hq.1 b; rw [h1] at this; simpa [h1] using this
    | none =>
      simp only [Lg.over, h1, Lg.del_apply]
      by_cases hb : b = r
      · subst hb; simp [partOk, h1]
      · simpa [hb, h1] using hp.1 b
  · have key : ∀ b c d, M b ≠ none → M c = none → c ≠ r → q b d = none ∨ p c d = none := by
      intro b c d hb hc hcr
      cases h1 : q b d with
      | none => exact .inl rfl
      | some x =>
        have h2 := (hqi d x).2 ⟨b, h1⟩
        have := hp.2 r c d (fun h => hcr h.symm)
        rw [h2] at this
        simpa using this
    intro b c d hbc
    simp only
    by_cases h1 : M b = none
    · by_cases h2 : M c = none
      · simp only [h1, h2, if_true]
        by_cases hb : b = r
        · simp [hb]
        · by_cases hc : c = r
          · simp [hc]
          · simpa [hb, hc] using hp.2 b c d hbc
      · simp only [h1, h2, if_true, if_false]
        by_cases hb : b = r
        · simp [hb]
        · simp only [hb, if_false]; exact (key c b d h2 h1 hb).symm
    · by_cases h2 : M c = none
      · simp only [h1, h2, if_true, if_false]
        by_cases hc : c = r
        · simp [hc]
        · simp only [hc, if_false]; exact key b c d h1 h2 hc
      · simp only [h1, h2, if_false]; exact hq.2 b c d hbc
  · intro b d x hx
    simp only at hx
    split at hx
    · split at hx
      · cases hx
      · exact hs b d x hx
    · exact hs r d x ((hqi d x).2 ⟨b, hx⟩)

theorem mod_nil (n : Nat) : Mod ⟨.nil, n⟩ Lg.nil := by
  refine mod_iff.2 ⟨fun _ _ => none, ⟨fun r b => rfl, fun _ _ _ _ => .inl rfl⟩, fun r b x h => by cases h⟩
end Go.AM
