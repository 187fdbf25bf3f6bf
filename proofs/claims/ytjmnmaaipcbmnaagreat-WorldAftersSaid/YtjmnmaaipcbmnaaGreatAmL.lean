/- Operations that change memory. -/
import Derived.Test.YtjmnmaaipcbmnaaGreatAmK
set_option linter.unusedVariables false
set_option linter.unusedSimpArgs false
namespace Go.AM
open Go.RowKit (Below)

section
variable {P : Program} {β : Bt} {B0 : Nat} {S : St} {w : World} (ρ : Operand → Value)

theorem St_eta (S : St) : ({ S with h := S.h } : St) = S := rfl

theorem e_st (hR : Rel β B0 S.h w) {t : TypeId} {sz : Nat} (hsz : tsize P t = some sz) {vs : List AV} {a x : Value} (hv : VRs β vs [a, x]) {call : Cll} {v : AV} {S' : St} (hs : eSt sz call S vs = some (v, S')) :
    v = .bad ∧ ∃ w', (Instr.storeAt t a x).run P w = .ok () w' ∧ Stp B0 β S w β S' w' := by
  obtain ⟨p, q, rfl, hp, hq⟩ := vrs2 hv
  unfold eSt at hs
  split at hs
  · rename_i ad y he
    cases he
    cases hl : q.cellsOf with
    | none => rw [hl] at hs; cases hs
    | some l =>
      rw [hl] at hs
      simp only [beq_nat] at hs
      by_cases hlen : l.length = sz
      · simp only [hlen, decide_true, cond_true] at hs
        cases hw : wrCells S.h ad l with
        | none => rw [hw] at hs; cases hs
        | some h' =>
          rw [hw] at hs
          cases hs
          obtain ⟨r, k⟩ := ad
          cases hp with
          | p hb =>
            obtain ⟨hc1, hc2⟩ := hq.cells hl
            obtain ⟨w', h1, h2⟩ := wr_cells (P := P) hR hw hb hc1
            refine ⟨rfl, w', ?_, h2⟩
            have hsize : x.cells.size = sz := by have := hc1.length; simp at this; omega
            simp only [Instr.storeAt, Instr.sureAddr, Sem.run_bind, Sem.run_pure, Result.andThen_ok, storeVar, sizeOf_run hsz]
            rw [if_neg (by omega)]
            exact h1
      · simp only [hlen, decide_false, cond_false] at hs; cases hs
  · cases hs

theorem sameBits_int (k : IntKind) (n : Int) : Instr.sameBits 10000 (.int k n) (.int k n) = true := by simp [Instr.sameBits]
theorem putObj_facts {w : World} {b : Nat} {x y : Obj} (hh : w.heap[b]? = some x) : (({ w with heap := w.heap.setIfInBounds b y } : World).heap[b]? = some y) ∧ ∀ k, k ≠ b → ({ w with heap := w.heap.setIfInBounds b y } : World).heap[k]? = w.heap[k]? := by
  have hlt := (Array.getElem?_eq_some_iff.1 hh).1
  refine ⟨by simp [hlt], fun k hk => ?_⟩
  show (w.heap.setIfInBounds b y)[k]? = _
  rw [Array.getElem?_setIfInBounds_ne (by omega)]
theorem setObj_map {b : Nat} {ES : Array MapEntry} {clk : Nat} (y : Obj) (hh : w.heap[b]? = some (.map ES clk)) : (setObj b y).run P w = .ok () { w with heap := w.heap.setIfInBounds b y } := by simp [setObj, Sem.run, hh]
theorem stp_map (hR : Rel β B0 S.h w) {r b z : Nat} {es es' : List (AV × AV)} (hg : S.h.get r = some (.map es)) (hb : β r = some (b, 0, z)) {ES ES' : Array MapEntry} {clk clk' : Nat} (hh : w.heap[b]? = some (.map ES clk)) (hm : MapR β es' ES'.toList) :
    Stp B0 β S w β { S with h := S.h.set r (some (.map es')) } { w with heap := w.heap.setIfInBounds b (.map ES' clk') } := by
  obtain ⟨h1, h2⟩ := putObj_facts (y := .map ES' clk') hh
  have hle := (hR.blk r _ b 0 z hg hb).le rfl
  exact stp_set hR hg rfl rfl hb rfl rfl rfl (by simp) h2 ⟨hle, rfl, ES', clk', h1, hm⟩
theorem e_mset (hR : Rel β B0 S.h w) {t kt e : TypeId} (ht : P.underlying t = some (.map kt e)) (hk : isIntT P kt = true) {vs : List AV} {m k x : Value} (hv : VRs β vs [m, k, x]) {call : Cll} {v : AV} {S' : St} (hs : eMset call S vs = some (v, S')) :
    v = .bad ∧ ∃ w', (Instr.mapUpdate t m k x).run P w = .ok () w' ∧ Stp B0 β S w β S' w' := by
  obtain ⟨p, q, y, rfl, hp, hq, hy⟩ := vrs3 hv
  obtain ⟨kk, hkk⟩ := isIntT_spec hk
  unfold eMset at hs
  split at hs
  · rename_i r kd n u he
    cases he
    split at hs
    · rename_i es hg
      split at hs
      · rename_i es' he'
        cases hs
        cases hq
        cases hp with
        | m hb =>
          obtain ⟨ES, clk, _, hh, hm⟩ := map_at hR hg hb
          have hgo : (getObj _).run P w = .ok (.map ES clk) w := getObj_map hh
          refine ⟨rfl, ?_⟩
          rcases findNow_set kk clk hy 0 hm he' with ⟨h1, h2⟩ | ⟨i, ent, h1, h2, h3, h4⟩
          · have hf := findKey_int (P := P) (w := w) hkk h1
            refine ⟨_, ?_, stp_map (clk' := clk + 1) (ES' := ES.push ⟨.int kd n, x, clk⟩) hR hg hb hh (by simpa using h2)⟩
            simp only [Instr.mapUpdate, Sem.run_bind, run_underlying ht, Result.andThen_ok, hgo, checkKey_int hkk, hf]
            exact setObj_map _ hh
          · have hf := findKey_int (P := P) (w := w) hkk h1
            have h5 : ES[i]? = some ent := by rw [← Array.getElem?_toList]; exact h2
            refine ⟨_, ?_, stp_map (clk' := clk) (ES' := ES.modify i fun e => { e with key := .int kd n, val := x }) hR hg hb hh ?_⟩
            · simp only [Instr.mapUpdate, Sem.run_bind, run_underlying ht, Result.andThen_ok, hgo, checkKey_int hkk, hf, Nat.zero_add, h5, Option.map_some, Option.getD_some, h3, Instr.keyThatStays, sameBits_int, if_true, Sem.run_pure]
              exact setObj_map _ hh
            · have : (ES.modify i fun e => { e with key := .int kd n, val := x }).toList = ES.toList.set i { ent with key := .int kd n, val := x } := by
                apply List.ext_getElem?
                intro j
                rw [Array.getElem?_toList, Array.getElem?_modify, List.getElem?_set]
                have hi : i < ES.toList.length := (List.getElem?_eq_some_iff.1 h2).1
                by_cases hij : i = j
                · subst hij
                  rw [if_pos rfl, if_pos rfl, if_pos hi, h5]
                  rfl
                · rw [if_neg hij, if_neg hij, Array.getElem?_toList]
              rw [this]
              exact h4
      · cases hs
    · cases hs
  · cases hs
theorem e_mdel (hR : Rel β B0 S.h w) {t u kt e ty : TypeId} (ht : P.underlying t = some (.map kt e)) (hk : isIntT P kt = true) {vs : List AV} {m k : Value} (hv : VRs β vs [m, k]) {call : Cll} {v : AV} {S' : St} (hs : eMdel call S vs = some (v, S')) :
    v = .bad ∧ ∃ w' r, (Builtin.delete_ #[t, u] ty #[m, k]).run P w = .ok r w' ∧ Stp B0 β S w β S' w' := by
  obtain ⟨p, q, rfl, hp, hq⟩ := vrs2 hv
  obtain ⟨kk, hkk⟩ := isIntT_spec hk
  unfold eMdel at hs
  split at hs
  · rename_i kd n he
    cases he
    cases hs
    cases hp
    refine ⟨rfl, w, .tuple #[], ?_, Stp.refl hR⟩
    simp [Builtin.delete_, run_underlying ht, checkKey_int hkk]
  · rename_i r kd n he
    cases he
    split at hs
    · rename_i es hg
      split at hs
      · rename_i es' he'
        cases hs
        cases hq
        cases hp with
        | m hb =>
          obtain ⟨ES, clk, _, hh, hm⟩ := map_at hR hg hb
          have hgo : (getObj _).run P w = .ok (.map ES clk) w := getObj_map hh
          refine ⟨rfl, ?_⟩
          rcases findNow_del kk 0 hm he' with ⟨h1, h2⟩ | ⟨i, ent, h1, h2, h4⟩
          · have hf := findKey_int (P := P) (w := w) hkk h1
            refine ⟨_, .tuple #[], ?_, stp_map (clk' := clk) (ES' := ES) hR hg hb hh h2⟩
            have hset := setObj_map (P := P) (.map ES clk) hh
            simp [Builtin.delete_, run_underlying ht, hgo, checkKey_int hkk, hf, hset]
          · have hf := findKey_int (P := P) (w := w) hkk h1
            refine ⟨_, .tuple #[], ?_, stp_map (clk' := clk) (ES' := ES.eraseIdxIfInBounds i) hR hg hb hh ?_⟩
            · have hset := setObj_map (P := P) (.map (ES.eraseIdxIfInBounds i) clk) hh
              simp [Builtin.delete_, run_underlying ht, hgo, checkKey_int hkk, hf, hset]
            · have : (ES.eraseIdxIfInBounds i).toList = ES.toList.eraseIdx i := by
                simp [Array.eraseIdxIfInBounds]
                split
                · simp
                · rename_i hi; simp at h2; omega
              rw [this]
              exact h4
      · cases hs
    · cases hs
  · cases hs

/-! ### append, clear, copy -/
/-- the cells that a slice names -/
theorem first_cells (hR : Rel β B0 S.h w) {a : Option (Nat × Nat)} {len cap ex size n : Nat} {x : Value} {l : List AV} (hx : VR β (.sl a len cap ex) x) (hn : n ≤ len) (hl : rdCells S.h a (n * size) = some l) :
    ∃ l', VRs β l l' ∧ l'.length = n * size ∧ ∀ w2 : World, (∀ p, w2.cell? p = w.cell? p) → (Builtin.firstCells size n x).run P w2 = .ok l'.toArray w2 := by
  cases hx with
  | sln =>
    have : n = 0 := by omega
    subst this
    simp only [rdCells, Nat.zero_mul, beq_nat, decide_true, cond_true, Option.some.injEq] at hl
    subst hl
    exact ⟨[], .nil, by simp, fun w2 _ => by simp [Builtin.firstCells]⟩
  | sl hb hll hc he hz ha =>
    rename_i r k b o z c' off
    obtain ⟨h1, l', h2, h3⟩ := rd_cells hR hl hb
    have hlen : l'.length = n * size := by rw [← h2.length, h1]
    refine ⟨l', h2, hlen, fun w2 hw2 => ?_⟩
    rcases Nat.eq_zero_or_pos (n * size) with h0 | h0
    · have : l' = [] := List.eq_nil_of_length_eq_zero (by omega)
      subst this
      simp [Builtin.firstCells, h0, loadCells, loadCellsFrom]
    · have hn0 : 0 < n := Nat.pos_of_mul_pos_right h0
      have hoff : off = o + k := by
        rcases ha with h | h
        · omega
        · exact h
      subst hoff
      exact run_firstCells_some w2 size n _ len c' l' hlen (fun j v hj => by rw [add_at, hw2]; exact h3 j v hj)

section
variable {t u e e' : TypeId} {ti : TypeInfo} {z : Value} {ty : TypeId}
theorem app_room (ht : P.underlying t = some (.slice e)) (hu : P.underlying u = some (.slice e')) (hi : P.info? e = some ti) {base xb : Option Addr} {sLen sCap n c : Nat} {news : List Value}
    (hf : (Builtin.firstCells ti.size n (.slice xb n c)).run P w = .ok news.toArray w) (hroom : sLen + n ≤ sCap) :
    (Builtin.append_ #[t, u] ty #[.slice base sLen sCap, .slice xb n c]).run P w =
      match base with
      | none => .ok (.slice none (sLen + n) sCap) w
      | some a => ((storeCells (a.add (sLen * ti.size)) news).run P w).andThen fun _ w' => .ok (.slice (some a) (sLen + n) sCap) w' := by
  cases base with
  | none => simp [Builtin.append_, run_underlying ht, run_underlying hu, sizeOf, typeInfo, hi, Builtin.lenOf, hroom, hf]
  | some a => simp [Builtin.append_, run_underlying ht, run_underlying hu, sizeOf, typeInfo, hi, Builtin.lenOf, hroom, hf]
theorem app_grow (ht : P.underlying t = some (.slice e)) (hu : P.underlying u = some (.slice e')) (hi : P.info? e = some ti) (hz : ti.zero = some z) {base xb : Option Addr} {sLen sCap n c : Nat} {news olds : List Value}
    (hfn : (Builtin.firstCells ti.size n (.slice xb n c)).run P w.drew = .ok news.toArray w.drew) (hfo : (Builtin.firstCells ti.size sLen (.slice base sLen sCap)).run P w.drew = .ok olds.toArray w.drew)
    (hroom : ¬ sLen + n ≤ sCap) (hb0 : ti.bytes ≠ 0) (hb : (sLen + n) * ti.bytes ≤ 70368744177664) :
    (Builtin.append_ #[t, u] ty #[.slice base sLen sCap, .slice xb n c]).run P w =
      .ok (.slice (some ⟨w.heap.size, 0, none⟩) (sLen + n) (grownCap w (sLen + n) sCap e))
        (w.drew.alloc (.cells (olds.toArray ++ news.toArray ++ Builtin.zeroCells z.cells (grownCap w (sLen + n) sCap e - (sLen + n))) e)) := by
  have h63' : ¬ (9223372036854775807 < ((sLen : Int) + (n : Int))) := by
    have : sLen + n ≤ 70368744177664 := Nat.le_trans (Nat.le_mul_of_pos_right _ (by omega)) hb
    omega
  have h48' : ¬ (281474976710656 < Builtin.nextslicecap (sLen + n) sCap * ti.bytes) := by
    have := growslice_fits (need := sLen + n) (old := sCap) (bytes := ti.bytes) (by omega) (by omega)
    omega
  simp [Builtin.append_, run_underlying ht, run_underlying hu, sizeOf, typeInfo, zeroValue, hi, hz, Builtin.lenOf, hroom, h63', h48', Question.forced, hfn, hfo, newRow, grownCap]
  congr 2
  apply Array.ext'
  simp [List.append_assoc]
end

theorem VRs_splice {β : Bt} {l : List AV} {o : Nat} {cur : Array Value} {m : List AV} {m' : List Value} (h : CellsR β l o cur) (hm : VRs β m m') (hsz : o + l.length + m'.length ≤ cur.size) :
    CellsR β (l ++ m) o (cur.toList.take (o + l.length + 0) ++ m' ++ cur.toList.drop (o + l.length + 0 + m'.length)).toArray := by
  intro i v hv
  rw [List.getElem?_append] at hv
  rw [List.getElem?_toArray, List.append_assoc, List.getElem?_append]
  have hl1 : (cur.toList.take (o + l.length + 0)).length = o + l.length := by simp; omega
  rw [hl1]
  split at hv
  · obtain ⟨u, hu, hr⟩ := h i v hv
    rw [if_pos (by omega), List.getElem?_take, if_pos (by omega), Array.getElem?_toList]
    exact ⟨u, hu, hr⟩
  · obtain ⟨u, hu, hr⟩ := hm.get hv
    have hlt : i - l.length < m'.length := by
      have := (List.getElem?_eq_some_iff.1 hu).1
      exact this
    rw [if_neg (by omega), List.getElem?_append, if_pos (by omega)]
    exact ⟨u, by rw [show o + i - (o + l.length) = i - l.length by omega]; exact hu, hr⟩

theorem e_app (hR : Rel β B0 S.h w) {t u e e' ty : TypeId} {ti : TypeInfo} {z : Value} (ht : P.underlying t = some (.slice e)) (hu : P.underlying u = some (.slice e')) (hi : P.info? e = some ti) (hz : ti.zero = some z)
    (hzs : z.cells.size = ti.size) (hs0 : ti.size ≠ 0) (hb0 : ti.bytes ≠ 0) {vs : List AV} {s x : Value} (hv : VRs β vs [s, x]) {call : Cll} {v : AV} {S' : St} (hs : eApp ti.size ti.bytes call S vs = some (v, S')) (hfree : Free β S.nx S'.nx) :
    ∃ γ v' w', (Builtin.append_ #[t, u] ty #[s, x]).run P w = .ok v' w' ∧ VR γ v v' ∧ Stp B0 β S w γ S' w' := by
  obtain ⟨p, q, rfl, hp, hq⟩ := vrs2 hv
  unfold eApp at hs
  split at hs
  · rename_i a len cap ex b n cb eb he
    cases he
    cases hnew : rdCells S.h b (n * ti.size) with
    | none => rw [hnew] at hs; cases hs
    | some new =>
      rw [hnew] at hs
      simp only at hs
      cases hone : new.all AV.one with
      | false => rw [hone] at hs; cases hs
      | true =>
        rw [hone] at hs
        simp only [cond_true] at hs
        obtain ⟨news, hn1, hn2, hn3⟩ := first_cells hR hq (Nat.le_refl n) hnew
        have hlenn := hn1.length
        obtain ⟨xb, xc, rfl⟩ : ∃ xb xc, x = .slice xb n xc := by cases hq <;> exact ⟨_, _, rfl⟩
        have h1n := hn1.ones hone
        unfold appV at hs
        rw [ble_nat] at hs
        by_cases hroom : len + n ≤ cap
        · simp only [hroom, decide_true, cond_true] at hs
          cases hp with
          | sln =>
            cases hs
            have hn0 : n = 0 := by omega
            subst hn0
            refine ⟨β, .slice none 0 0, w, ?_, .sln, Stp.refl hR⟩
            rw [app_room ht hu hi (hn3 w fun _ => rfl) (by omega)]
          | sl hb hl hc he hzz ha =>
            rename_i r k bb o zz c' off _
            rw [app_room ht hu hi (hn3 w fun _ => rfl) (by omega)]
            rw [beq_nat] at hs
            by_cases hn0 : n = 0
            · subst hn0
              simp only [decide_true, cond_true] at hs
              cases hs
              have : news = [] := List.eq_nil_of_length_eq_zero (by rw [hn2]; simp)
              subst this
              refine ⟨β, _, w, by simp [storeCells], .sl hb hl hc he hzz ha, Stp.refl hR⟩
            · simp only [hn0, decide_false, cond_false] at hs
              cases hw : wrCells S.h (r, k + len * ti.size) new with
              | none => rw [hw] at hs; cases hs
              | some h' =>
                rw [hw] at hs
                cases hs
                obtain ⟨w', h1, h2⟩ := wr_cells (P := P) hR hw hb hn1
                have hoff : off = o + k := by rcases ha with h | h <;> omega
                refine ⟨β, .slice (some ⟨bb, off, none⟩) (len + n) c', w', ?_, .sl hb hroom hc he hzz ha, h2⟩
                simp only [add_at, hoff]
                rw [← Nat.add_assoc] at h1
                simp only [h1, Result.andThen_ok]
        · simp only [hroom, decide_false, cond_false] at hs
          rw [ble_nat] at hs
          by_cases hbytes : (len + n) * ti.bytes ≤ 70368744177664
          · simp only [hbytes, decide_true, cond_true] at hs
            cases hold : rdCells S.h a (len * ti.size) with
            | none => rw [hold] at hs; cases hs
            | some old =>
              cases hgone : gone S.h a ex ti.size with
              | none => rw [hold, hgone] at hs; cases hs
              | some h1 =>
                rw [hold, hgone] at hs
                simp only [Option.some.injEq, Prod.mk.injEq] at hs
                obtain ⟨rfl, rfl⟩ := hs
                obtain ⟨olds, ho1, ho2, ho3⟩ := first_cells hR hp (Nat.le_refl len) hold
                have hleno := ho1.length
                have hfr : β S.nx = none := hfree S.nx (Nat.le_refl _) (Nat.lt_succ_self _)
                have hold1 : VRs β (old ++ new) (olds ++ news) := ho1.append hn1
                -- a new block, in whatever state
                have fresh : ∀ (S1 : St) (base : Option Addr) (sCap : Nat), Stp B0 β S w β S1 w → S1.nx = S.nx → s = .slice base len sCap → ¬ len + n ≤ sCap →
                    ∃ γ v' w', (Builtin.append_ #[t, u] ty #[s, .slice xb n xc]).run P w = .ok v' w' ∧ VR γ (.sl (some (S.nx, 0)) (len + n) (len + n) ti.size) v' ∧ Stp B0 β S w γ { h := S1.h.set S.nx (some (.cells (old ++ new))), nx := S.nx + 1 } w' := by
                  intro S1 base sCap hst hnx hse hno
                  subst hse
                  have hrun := app_grow (P := P) (w := w) (ty := ty) ht hu hi hz (hn3 w.drew fun _ => rfl) (ho3 w.drew fun _ => rfl) hno hb0 hbytes
                  have hge := grownCap_ge w (len + n) sCap e
                  have hsz : (olds.toArray ++ news.toArray ++ Builtin.zeroCells z.cells (grownCap w (len + n) sCap e - (len + n))).size = grownCap w (len + n) sCap e * ti.size := by
                    simp only [Array.size_append, List.size_toArray, size_zeroCells, hzs, ho2, hn2, ← Nat.add_mul]
                    congr 1
                    omega
                  refine ⟨upd β S.nx (w.heap.size, 0, grownCap w (len + n) sCap e * ti.size), _, _, hrun, .sl (upd_same _ _ _) (Nat.le_refl _) hge (fun h => absurd h hs0) (fun _ => by omega) (.inr rfl), ?_⟩
                  have hbr : BR (upd β S1.nx (w.heap.size, 0, grownCap w (len + n) sCap e * ti.size)) B0 (w.drew.alloc (.cells (olds.toArray ++ news.toArray ++ Builtin.zeroCells z.cells (grownCap w (len + n) sCap e - (len + n))) e)).heap w.heap.size 0 (grownCap w (len + n) sCap e * ti.size) (.cells (old ++ new)) := by
                    refine ⟨hR.le, _, e, heap_alloc_new w.drew _, by omega, fun i v hv => ?_⟩
                    obtain ⟨y, hy, hr⟩ := hold1.get hv
                    refine ⟨y, ?_, hr.mono (upd_ext (by rw [hnx]; exact hfr))⟩
                    have hlt : i < (olds ++ news).length := (List.getElem?_eq_some_iff.1 hy).1
                    rw [Nat.zero_add, Array.getElem?_append, if_pos (by simpa using hlt)]
                    rw [← Array.getElem?_toList]
                    simpa using hy
                  have hsn := stp_new (S := S1) (w := w) hst.rel (x := .cells (olds.toArray ++ news.toArray ++ Builtin.zeroCells z.cells (grownCap w (len + n) sCap e - (len + n))) e) (w' := w.drew.alloc (.cells (olds.toArray ++ news.toArray ++ Builtin.zeroCells z.cells (grownCap w (len + n) sCap e - (len + n))) e)) (by rw [hnx]; exact hfr) rfl rfl rfl rfl rfl hbr
                  rw [hnx] at hsn
                  exact hst.trans hsn
                unfold gone at hgone
                rw [beq_nat] at hgone
                by_cases hex : ex = 0
                · simp only [hex, decide_true, cond_true, Option.some.injEq] at hgone
                  subst hgone
                  cases hp with
                  | sln => exact fresh S none 0 (Stp.refl hR) rfl rfl hroom
                  | sl hb hl hc he hzz ha => exact fresh S _ _ (Stp.refl hR) rfl rfl (by rw [he hex]; exact hroom)
                · simp only [hex, decide_false, cond_false] at hgone
                  rw [beq_nat] at hgone
                  by_cases hexs : ex = ti.size
                  · simp only [hexs, decide_true, cond_true] at hgone
                    cases hp with
                    | sln => cases hgone
                    | sl hb hl hc he hzz ha =>
                      rename_i r k bb o zz c' off
                      simp only at hgone
                      cases hlive : live S.h r with
                      | false => rw [hlive] at hgone; cases hgone
                      | true =>
                        rw [hlive] at hgone
                        simp only [cond_true, Option.some.injEq] at hgone
                        subst hgone
                        by_cases hcr : len + n ≤ c'
                        · -- in place
                          unfold live at hlive
                          split at hlive
                          · rename_i cc hgr
                            obtain ⟨hle, cur, tt, hh, hzc, hcell⟩ := hR.blk r _ bb o zz hgr hb
                            have hoff : off = o + k := by rcases ha with h | h <;> omega
                            subst hoff
                            have hzz' := hzz hex
                            rw [hexs] at hzz'
                            have hmul : len * ti.size + n * ti.size ≤ c' * ti.size := by rw [← Nat.add_mul]; exact Nat.mul_le_mul_right _ hcr
                            have hlo : old.length = len * ti.size := by rw [hleno, ho2]
                            have hst := run_storeCells_at P bb (o + k + len * ti.size) tt news 0 cur w hh (by omega) h1n
                            have hoc : CellsR β old (o + k) cur := by
                              intro i v hv
                              simp only [rdCells, hgr, AB.read] at hold
                              obtain ⟨hq1, hq2, hq3⟩ := cut_get hold
                              obtain ⟨y, hy, hr⟩ := hcell (k + i) v (hq3 i v hv)
                              exact ⟨y, by rw [show o + k + i = o + (k + i) by omega]; exact hy, hr⟩
                            refine ⟨upd β S.nx (bb, o + k, zz - k), .slice (some ⟨bb, o + k, none⟩) (len + n) c', w.setRow bb (cur.toList.take (o + k + len * ti.size + 0) ++ news ++ cur.toList.drop (o + k + len * ti.size + 0 + news.length)).toArray, ?_, .sl (upd_same _ _ _) (Nat.le_refl _) hcr (fun h => absurd h hs0) (fun _ => by omega) (.inr (by omega)), ?_⟩
                            · rw [app_room ht hu hi (hn3 w fun _ => rfl) hcr]
                              simp only [add_at, hst, Result.andThen_ok]
                            · have hext := upd_ext (x := (bb, o + k, zz - k)) hfr
                              refine stp_reuse hR hfr rfl hgr rfl hb rfl rfl rfl (setRow_size _ _ _) (fun j hj => setRow_other _ _ _ _ hj) ⟨hle, _, tt, setRow_at _ hh, ?_, ?_⟩
                              · simp only [List.size_toArray, List.length_append, List.length_take, List.length_drop, Array.length_toList]
                                omega
                              · have hsp := VRs_splice hoc hn1 (by omega)
                                rw [hlo] at hsp
                                exact hsp.mono hext
                          · cases hlive
                        · exact fresh { S with h := S.h.set r none } _ _ (stp_gone hR r (by rw [hb]; simp)) rfl rfl hcr
                  · simp only [hexs, decide_false, cond_false] at hgone; cases hgone
          · simp only [hbytes, decide_false, cond_false] at hs; cases hs
  · cases hs
end
end Go.AM
