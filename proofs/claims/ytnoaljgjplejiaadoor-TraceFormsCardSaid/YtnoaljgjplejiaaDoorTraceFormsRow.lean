/- TraceForms: whatever the arguments, where the listed variables hold what they are laid with, the law answers true, and its arguments read as before; and the card: what is listed is tied to the program's text. PRINTED by our rowd.py. -/
import Derived.Test.YtnoaljgjplejiaaDoorRows
import Derived.Test.YtnoaljgjplejiaaDoorCards
import Derived.Test.YtnoaljgjplejiaaDoorTie
import Derived.Test.YtnoaljgjplejiaaDoorTraceFormsT
import Derived.WalkKit
import Derived.ProofKit
import Derived.OpenShut
import Derived.ShutString
import Derived.ChangeOld
import Derived.Below
import Derived.SizedLaws
import Derived.LaidMore
import Derived.Lay
import Derived.SevenTiedAt
import Derived.Lib.LaidTab
import Derived.Shelf.Vars
import Derived.Stop.Joined
namespace Go.Proofs.YtnoaljgjplejiaaDoor.TraceFormsRow
open Go.ChangeShapes Go.WideShapes Go.ChangeAt Go.RowKit Go.AM
open Go.ChangeMaps (open_string shut_string)
set_option linter.unusedVariables false
set_option maxRecDepth 100000
theorem own : ownKnob Tryd.prog.godebug = none := by kernel_rfl
theorem laidOut : laidOutB Tryd.prog = true := by kernel_rfl

noncomputable def laid : List (String × DataW Unit) := Rows.traceFormsRow.laid
def asciiZ : List Int := [0, 0, 0, 0, 0, 0, 0, 0, 0, 1, 1, 1, 1, 1, 0, 0, 0, 0, 0, 0, 0, 0, 0, 0, 0, 0, 0, 0, 0, 0, 0, 0, 1, 0, 0, 0, 0, 0, 0, 0, 0, 0, 0, 0, 0, 0, 0, 0, 0, 0, 0, 0, 0, 0, 0, 0, 0, 0, 0, 0, 0, 0, 0, 0, 0, 0, 0, 0, 0, 0, 0, 0, 0, 0, 0, 0, 0, 0, 0, 0, 0, 0, 0, 0, 0, 0, 0, 0, 0, 0, 0, 0, 0, 0, 0, 0, 0, 0, 0, 0, 0, 0, 0, 0, 0, 0, 0, 0, 0, 0, 0, 0, 0, 0, 0, 0, 0, 0, 0, 0, 0, 0, 0, 0, 0, 0, 0, 0, 0, 0, 0, 0, 0, 0, 0, 0, 0, 0, 0, 0, 0, 0, 0, 0, 0, 0, 0, 0, 0, 0, 0, 0, 0, 0, 0, 0, 0, 0, 0, 0, 0, 0, 0, 0, 0, 0, 0, 0, 0, 0, 0, 0, 0, 0, 0, 0, 0, 0, 0, 0, 0, 0, 0, 0, 0, 0, 0, 0, 0, 0, 0, 0, 0, 0, 0, 0, 0, 0, 0, 0, 0, 0, 0, 0, 0, 0, 0, 0, 0, 0, 0, 0, 0, 0, 0, 0, 0, 0, 0, 0, 0, 0, 0, 0, 0, 0, 0, 0, 0, 0, 0, 0, 0, 0, 0, 0, 0, 0, 0, 0, 0, 0, 0, 0, 0, 0, 0, 0, 0, 0, 0, 0, 0, 0, 0, 0]
/-- the world's shape, and what the listed variables read as -/
def XW (W : World) : Prop := W.ShapedOpen Tryd.prog ∧ laidMetH Tryd.prog laid W
theorem reads {l : List (String × DataW Unit)} : ∀ {ps : List MemPlace} {W : World}, DataW.LaidVars Tryd.prog W l ps → ∀ n d, (n, d) ∈ l →
    ∃ g t cs fuel p, Tryd.prog.globalNamed n = some g ∧ (Tryd.prog.globals[g]?).map (·.type) = some t ∧ W.var? Tryd.prog n = some cs ∧ DataW.trod (fun _ => ()) Tryd.prog W 0 (fun _ => true) false fuel t cs.toList = some (d, p) := by
  induction l with
  | nil => intro ps W _ n d hm; cases hm
  | cons x r ih =>
    obtain ⟨n', d'⟩ := x
    intro ps W h n d hm
    obtain ⟨g, t, cs, fuel, p, q, h1, h2, h3, h4, h5, _⟩ := h
    rcases List.mem_cons.1 hm with e | e
    · cases e
      exact ⟨g, t, cs, fuel, p, h1, h2, h3, h4⟩
    · exact ih h5 n d e
theorem var_at {W : World} {n : String} {g : Nat} {cs : Array Value} (hg : Tryd.prog.globalNamed n = some g) (h : W.var? Tryd.prog n = some cs) : ∃ t fr, W.heap[g]? = some (.cells cs t fr) := by
  unfold World.var? at h
  rw [hg] at h
  simp only [Option.bind_some] at h
  split at h
  · rename_i cs' t fr hh
    cases h
    exact ⟨t, fr, hh⟩
  · cases h
theorem iface_of {W : World} {ms : Array (String × TypeId)} {t : TypeId} (ht : Tryd.prog.underlying t = some (.interface ms)) {fuel : Nat} {cs : List Value} {nm : String} {d : DataW Unit} {p : List MemPlace} (h : DataW.trod (fun _ => ()) Tryd.prog W 0 (fun _ => true) false fuel t cs = some (.iface nm d, p)) : ∃ te pe, cs = [.iface te pe] := by
  cases fuel with
  | zero => simp [DataW.trod] at h
  | succ fuel =>
    unfold DataW.trod at h
    rw [ht] at h
    simp only at h
    split at h
    all_goals first | exact ⟨_, _, rfl⟩ | (rename_i hh; cases hh; done) | (simp at h; done) | (simp_all; done)
theorem tab_of {W : World} {n : String} {g : Nat} {t e : TypeId} {m : Nat} {k : IntKind} {zs : List Int} {d : DataW Unit} (hm : (n, d) ∈ laid) (hd : d = Lib.tabData k zs) (hg : Tryd.prog.globalNamed n = some g) (hty : (Tryd.prog.globals[g]?).map (·.type) = some t) (ht : Tryd.prog.underlying t = some (.array m e)) (he : Tryd.prog.underlying e = some (.int k)) (hce : Tryd.prog.cellsOf e = 1) (hct : Tryd.prog.cellsOf t = m)
    (h : laidMet Tryd.prog laid W) : ∃ t fr, W.heap[g]? = some (.cells (zs.map fun z => Value.int k z).toArray t fr) := by
  obtain ⟨ps, hv, _⟩ := h
  obtain ⟨g', t', cs, fuel, p, hg', ht', hvar, h5⟩ := reads hv n d hm
  obtain rfl := Option.some.inj (hg.symm.trans hg')
  obtain rfl := Option.some.inj (hty.symm.trans ht')
  rw [hd] at h5
  have := Lib.cells_of_tab ht he hce hct h5
  obtain ⟨t2, fr, h6⟩ := var_at hg hvar
  refine ⟨t2, fr, ?_⟩
  rw [← this]
  exact h6
theorem err_of {W : World} {n : String} {g : Nat} {t : TypeId} {ms : Array (String × TypeId)} {nm : String} {d : DataW Unit} (hm : (n, .iface nm d) ∈ laid) (hg : Tryd.prog.globalNamed n = some g) (hty : (Tryd.prog.globals[g]?).map (·.type) = some t) (ht : Tryd.prog.underlying t = some (.interface ms))
    (h : laidMet Tryd.prog laid W) : ∃ te pe t fr, W.heap[g]? = some (.cells #[.iface te pe] t fr) := by
  obtain ⟨ps, hv, _⟩ := h
  obtain ⟨g', t', cs, fuel, p, hg', ht', hvar, h5⟩ := reads hv n _ hm
  obtain rfl := Option.some.inj (hg.symm.trans hg')
  obtain rfl := Option.some.inj (hty.symm.trans ht')
  obtain ⟨te, pe, h7⟩ := iface_of ht h5
  obtain ⟨t2, fr, h6⟩ := var_at hg hvar
  obtain ⟨cs⟩ := cs
  have h7' : cs = _ := h7
  subst h7'
  exact ⟨te, pe, t2, fr, h6⟩
theorem cells_of {W : World} (h : XW W) : GN ≤ W.heap.size ∧ GW W := by
  obtain ⟨hs, h⟩ := h
  rw [MakeChecks.laidMetH_plain _ _ _ (by kernel_rfl)] at h
  have hsz : GN ≤ W.heap.size := by
    obtain ⟨⟨z, tt⟩, h0⟩ := Option.isSome_iff_exists.1 (show (((begin Tryd.prog (fun _ _ => 0) default).world.heap[10]?).bind Obj.row?).isSome = true by kernel_rfl)
    obtain ⟨cs, h1, _⟩ := hs.1 10 z tt (by rw [show Tryd.prog.globals.size = 11 by kernel_rfl]; omega) h0
    exact (Array.getElem?_eq_some_iff.1 h1).1
  refine ⟨hsz, ?_⟩
  have g0 := tab_of (k := .u8) (zs := Lib.asciiSpaceTab) (show ("strings.asciiSpace", Rows.laid_strings_asciiSpace) ∈ laid from by unfold laid; simp [Rows.traceFormsRow]) (by kernel_rfl) (show Tryd.prog.globalNamed "strings.asciiSpace" = some 0 by kernel_rfl) (show (Tryd.prog.globals[0]?).map (·.type) = some 64 by kernel_rfl) Tryd.underlying64 Tryd.underlying5 (by kernel_rfl) (by kernel_rfl) h
  have g3 := tab_of (k := .u64) (zs := Lib.pow10Tab) (show ("internal/strconv.uint64pow10", Rows.laid_internal_strconv_uint64pow10) ∈ laid from by unfold laid; simp [Rows.traceFormsRow]) (by kernel_rfl) (show Tryd.prog.globalNamed "internal/strconv.uint64pow10" = some 3 by kernel_rfl) (show (Tryd.prog.globals[3]?).map (·.type) = some 96 by kernel_rfl) Tryd.underlying96 Tryd.underlying56 (by kernel_rfl) (by kernel_rfl) h
  have g4 := err_of (show ("strconv.ErrSyntax", Rows.laid_strconv_ErrSyntax) ∈ laid from by unfold laid; simp [Rows.traceFormsRow]) (show Tryd.prog.globalNamed "strconv.ErrSyntax" = some 4 by kernel_rfl) (show (Tryd.prog.globals[4]?).map (·.type) = some 46 by kernel_rfl) Tryd.underlying46 h
  have g5 := err_of (show ("strconv.ErrRange", Rows.laid_strconv_ErrRange) ∈ laid from by unfold laid; simp [Rows.traceFormsRow]) (show Tryd.prog.globalNamed "strconv.ErrRange" = some 5 by kernel_rfl) (show (Tryd.prog.globals[5]?).map (·.type) = some 46 by kernel_rfl) Tryd.underlying46 h
  have g2 : ∃ m t fr, W.heap[2]? = some (.cells #[.int .i64 m] t fr) := by
    obtain ⟨cs, h1, h2, h3⟩ := hs.1 2 #[.int .i64 0] 3 (by rw [show Tryd.prog.globals.size = 11 by kernel_rfl]; omega) (by kernel_rfl)
    obtain ⟨m, hm⟩ := Go.Proofs.cell_of_shapedOpen_int (g := 2) (t := 3) (zero := #[.int .i64 0]) (k := .i64) hs (by rw [show Tryd.prog.globals.size = 11 by kernel_rfl]; omega) (by kernel_rfl) rfl (by kernel_rfl) (by kernel_rfl) Tryd.underlying3
    obtain ⟨cs⟩ := cs
    have h2' : cs.length = 1 := h2
    match cs, h2' with
    | [c], _ =>
      simp [World.cell?, h1] at hm
      subst hm
      exact ⟨_, _, _, h1⟩
  have hk : ∀ g, g < GN → (if g < GN then W.heap[g]? else none) = W.heap[g]? := fun g hg => if_pos hg
  unfold GW GXp
  simp only [hk 0 (by decide), hk 2 (by decide), hk 3 (by decide), hk 4 (by decide), hk 5 (by decide)]
  exact ⟨g0, g2, g3, g4, g5⟩
/-- as returnsInHanded_of_change_and, the world's shape kept -/
theorem handed {H : Type} {enc : TypeId × Value → H} {a : Assume} {C : Checked} {os : Os} {f : FuncId} {fn : Func} {s : ChangeSpec} {conds : List PathCond} {apart fresh handsOn again : Bool} {X : World → Array Value → Prop}
    (hX : ∀ (w w' : World) (args : Array Value), w.heap = w'.heap → X w args → X w' args)
    (own : ownKnob C.prog.godebug = none) (started : os.Started) (noInit : C.prog.inits.idxOf? f = none) (hfn : C.prog.funcs[f]? = some fn)
    (witness : ∃ (w : World) (tape : Tape) (i : Input), w.os = os ∧ (w.forCall tape i).Shaped C.prog ∧ i.vars = [] ∧ Input.okWide C.prog (w.forCall tape i) .any w.heap.size f i ∧
      ((s.pre enc C.prog fn conds apart (w.forCall tape i).memory i.args ∧ X (w.forCall tape i).memory i.args) ∧ sizedMet enc C.prog fn (OpenSpec.ofChange s) apart (w.forCall tape i).memory i.args) ∧ a.holds C.prog (lone (Frame.enter C.prog f i.args .normal) [] (w.forCall tape i)))
    (contract : ∀ (W : World) (base : Nat) (args : Array Value) (ds gs : List (DataW H)) (before : List MemPlace),
      (∀ (j : Nat) t v, fn.params[j]? = some t → args[j]? = some v → Value.okWide C.prog W .any base t v) →
      DataW.Whole enc C.prog fn.params.toList s.vars apart W args.toList ds gs before → W.ShapedOpen C.prog → X W args →
      Calls C.prog f args W fun e W' => ∃ v, e = .returned v ∧ s.post enc C.prog fn apart fresh handsOn again W args v W') :
    ReturnsInHanded a C os f .any (fun w args => (s.pre enc C.prog fn conds apart w args ∧ X w args) ∧ sizedMet enc C.prog fn (OpenSpec.ofChange s) apart w args) (s.post enc C.prog fn apart fresh handsOn again) := by
  refine returnsInHanded_of_calls own started noInit witness ?_
  intro w tape i _ hsh _ hok hpre hholds
  obtain ⟨_, _, _, fn', hfn', _, _, _, _, hval⟩ := hok
  have e : fn' = fn := Option.some.inj (hfn'.symm.trans hfn)
  subst e
  obtain ⟨⟨⟨ds, gs, before, hw, hc⟩, hx⟩, hz⟩ := hpre
  have hw' := DataW.Whole.of_heap (w' := w.forCall tape i) (by rfl) hw
  refine (contract (w.forCall tape i) w.heap.size i.args ds gs before hval hw' hsh (hX _ _ _ (by rfl) hx)).mono fun e W' ⟨v, he, hp⟩ => ?_
  subst he
  exact ChangeSpec.post_blind hp
theorem lifted (os : Os) (started : os.Started) (H : Type) (enc : TypeId × Value → H) :
    ReturnsInHanded {} Tryd.checked os 5 .any (fun w args => (Rows.traceFormsSpec.pre enc Tryd.prog Tryd.f5 Rows.traceFormsRow.domain false w args ∧ laidMetH Tryd.prog laid w) ∧ sizedMet enc Tryd.prog Tryd.f5 (OpenSpec.ofChange Rows.traceFormsSpec) false w args)
      (Rows.traceFormsSpec.post enc Tryd.prog Tryd.f5 false true false false) := by
  refine handed (C := Tryd.checked) (X := fun w _ => laidMetH Tryd.prog laid w) (fun _ _ _ hh h => h.of_heap hh) own started (by kernel_rfl) Tryd.func5
    (ChangeSpec.witness_shaped (enc := enc) (C := Tryd.checked) (os := os) (X := fun w _ => laidMetH Tryd.prog laid w) false (World.laidAll Tryd.prog os laid) #[.int .i64 0, .int .i64 0] 8 (World.laidAll_os _ _ _)
      (World.shaped_of_ZipB (by kernel_rfl) (by kernel_rfl)) (by kernel_rfl) (by kernel_rfl) (by kernel_rfl)
      (by rw [MakeChecks.laidMetH_plain _ _ _ (by kernel_rfl)]; exact laidMet_laidAll _ (by kernel_rfl) (by kernel_rfl))) ?_
  intro W base args ds gs before hval0 hW hsh hL
  have hval : ∀ (j : Nat) t v, Tryd.f5.params[j]? = some t → args[j]? = some v → Value.okWide Tryd.prog W .any base t v := hval0
  have hW' := hW
  obtain ⟨p, q, hA0, hV, rfl, hfz, hnd⟩ := hW
  have hA : DataW.TrodAll enc Tryd.prog W 0 (fun _ => true) true Tryd.f5.params.toList args.toList ds p := hA0
  rw [Tryd.params5] at hA hval
  obtain ⟨v0, vs0, d0, ds0, p0, q0, hargs, rfl, rfl, h0, r0⟩ := trodAll_cons hA
  obtain ⟨v1, vs1, d1, ds1, p1, q1, rfl, rfl, rfl, h1, r1⟩ := trodAll_cons r0
  obtain ⟨rfl, rfl, rfl⟩ := trodAll_nil r1
  obtain rfl : args = #[v0, v1] := by cases args; simp_all
  obtain ⟨rfl, rfl⟩ := trodVars_none hV
  obtain ⟨a0, rfl, rfl, rfl, w0⟩ := open_int Tryd.underlying3 (hval 0 3 v0 rfl rfl) h0
  obtain ⟨a1, rfl, rfl, rfl, w1⟩ := open_int Tryd.underlying3 (hval 1 3 v1 rfl rfl) h1
  obtain ⟨hgn, hgw⟩ := cells_of ⟨hsh, hL⟩
  obtain ⟨m, S, hS⟩ := T.traceForms_true a0 a1
  refine (calls_trueG T.mixed T.okK hS (.cons (.i _ _) (.cons (.i _ _) .nil)) hgn hgw).mono fun e W' ⟨he, bel⟩ => ?_
  subst he
  exact ⟨_, rfl, _, _, _, [], _, [], hW', trodAll_mk1 (shut_bool Tryd.underlying4 _), (trodAll_cons_mk (shut_int Tryd.underlying3 w0) (trodAll_cons_mk (shut_int Tryd.underlying3 w1) trodAll_mk0)), rfl, bel.frame _, fun h => by cases h⟩
theorem over : Rows.traceFormsRow.holds Tryd.pinned (OpenSpec.ofChange Rows.traceFormsSpec) :=
  OpenClaim.holds_of_wide 5 Tryd.f5 rfl rfl rfl rfl rfl rfl rfl ⟨rfl, rfl, rfl, rfl, rfl⟩ rfl rfl rfl rfl rfl (by kernel_rfl) Tryd.func5 (by kernel_rfl)
    (of_decide_eq_true (by kernel_rfl)) (by unfold Func.isWrapper; first | (rw [if_pos (by decide +kernel)]; kernel_rfl) | (rw [if_neg (by decide +kernel)]; exact ⟨rfl, rfl⟩))
    (fun os started H enc _ => lifted os started H enc)
theorem tied : Rows.TraceFormsCardSaid :=
  Claim7.holds_tied_plain_at .later [] [.data, .data, .data, .data, .sentinel, .sentinel, .listed, .data, .pinned] true (true, "679809c15ec1c871dc960581142425fd20938b854f988eb827efa5df6fe8c798") true over (fun _ h => by cases h) (by kernel_rfl) (fun _ h => by cases h) traceForms_row_tie rfl ⟨rfl, rfl⟩ (by kernel_rfl) rfl
    (fun f fn hf hfn => by
      obtain rfl : f = 5 := Option.some.inj ((show Tryd.prog.funcNamed "tarpaulin/tarpaulinlaw21.TraceForms" = some 5 by kernel_rfl).symm.trans hf) |>.symm
      obtain rfl : fn = Tryd.f5 := (Option.some.inj (Tryd.func5.symm.trans hfn)).symm
      exact ⟨by kernel_rfl, fun j t ht => by
        rw [Tryd.params5] at ht
        have hm : t ∈ [3] := by simpa using Array.mem_of_getElem? ht
        have hall : ([3].all fun u => !Tryd.prog.wantsStandIn u) = true := by kernel_rfl
        exact (show Tryd.prog.wantsStandIn t = false by simpa using List.all_eq_true.1 hall t hm)⟩)
    (by kernel_rfl)
end Go.Proofs.YtnoaljgjplejiaaDoor.TraceFormsRow
namespace Go.Proofs.YtnoaljgjplejiaaDoor
/-- The card. -/
theorem traceForms_holds : Rows.TraceFormsCardSaid := TraceFormsRow.tied
end Go.Proofs.YtnoaljgjplejiaaDoor
