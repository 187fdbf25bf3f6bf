/- WorldSelects: numbers that are not known are taken by what is left of them. -/
import Derived.Test.YtncheglelcphcaaGreatYD
import Derived.Test.YtncheglelcphcaaGreatWorldSelectsG2
set_option linter.unusedVariables false
set_option linter.unusedSimpArgs false
set_option maxRecDepth 100000
namespace Go.Proofs.YtncheglelcphcaaGreat.T
open Go.AM
noncomputable section
noncomputable def zDo (C : CS) (vs : List AV) (S : St) (k : KS) : Prop := Z_131 (fun f => Bool.rec (motive := fun _ => List AV → St → KS → Prop) (C f) (zCj C) (Nat.beq f 124)) vs S k
theorem round_ok : FnOk tblK 5 zCj := fun C hC vs S k e => by
  obtain ⟨a, n, rfl, hn, hn2, hk⟩ := zCj_ok e
  refine z_5 tblK_h C hC _ S k ?_
  have h : Z_5 C [.i .i64 a, .i .i64 n] S k = k (.i .i64 (rdN n a)) S := by
    refine Eq.trans ?_ (round_i hn hn2 a S k)
    kernel_rfl
  rw [h, rdN_emod hn]; exact hk
theorem pick_ok : FnOk tblK 124 zCj := fun C hC vs S k e => by
  obtain ⟨a, n, rfl, hn, hn2, hk⟩ := zCj_ok e
  refine z_124 tblK_h C hC _ S k ?_
  have h : Z_124 C [.i .i64 a, .i .i64 n] S k = k (.i .i64 (a % n)) S := by
    refine Eq.trans ?_ (pick_i hn hn2 a S k)
    kernel_rfl
  rw [h]; exact hk
theorem do_ok : FnOk tblK 131 zDo := fun C hC vs S k e => by
  refine z_131 tblK_h _ ?_ vs S k e
  intro f vs S k e
  have e' : (Bool.rec (motive := fun _ => List AV → St → KS → Prop) (C f) (zCj C) (Nat.beq f 124) : List AV → St → KS → Prop) vs S k := e
  cases h : Nat.beq f 124 with
  | false => rw [h] at e'; exact hC f vs S k e'
  | true =>
    rw [h] at e'
    rw [beq_nat, decide_eq_true_eq] at h
    rw [h]
    exact pick_ok C hC vs S k e'
theorem goodV (n : Nat) : GoodC tblK (CT (disp zK zCj zDo) n) := CT_good (disp_ok tblK_h kOk round_ok do_ok) n
def C59 : CS := CT (disp zK zCj zDo) 59
def Qt : KS := fun v _ => v = .b true
def Sb (l : List Bool) : St := ⟨.node (some (.ro (bcl l))) .nil .nil, 1⟩
theorem law_eq (x0 x1 x2 x3 : AV) (S : St) : CT (disp zK zCj zDo) 60 3 [x0, x1, x2, x3] S Qt = Y_3_1 C59 Qt x0 x1 x2 x3 S := by kernel_rfl
theorem aw_eq (S : St) (k : KS) : C59 4 [] S k = k (.b true) S := by kernel_rfl
@[irreducible] def G (cap : Nat) (l : List Bool) (d : Bool) (x y : Int) : Prop := Y_3_1 C59 Qt (.sl (some (0, 0)) l.length cap 0) (.b d) (.i .i64 x) (.i .i64 y) (Sb l)
theorem G_def (cap : Nat) (l : List Bool) (d : Bool) (x y : Int) : G cap l d x y = Y_3_1 C59 Qt (.sl (some (0, 0)) l.length cap 0) (.b d) (.i .i64 x) (.i .i64 y) (Sb l) := by kernel_rfl
end
end Go.Proofs.YtncheglelcphcaaGreat.T
