/- Which function a number is; awake answers true. PRINTED by our prints.py. -/
import Derived.Test.YtkfcecaoaplfkaaDoorY0
set_option linter.unusedVariables false
set_option maxRecDepth 100000
namespace Go.Proofs.YtkfcecaoaplfkaaDoor.T
open Go.AM
noncomputable section
variable {F : Nat → Option AFn}
def zt (za : CS → List AV → St → KS → Prop) : ZT := .node 41 (.node 24 (.node 14 (.node 9 (.node 7 (.leaf 5 Z_5) (.leaf 7 Z_7)) (.node 10 (.leaf 9 za) (.node 12 (.leaf 10 Z_10) (.leaf 12 Z_12)))) (.node 19 (.node 16 (.leaf 14 Z_14) (.node 17 (.leaf 16 Z_16) (.leaf 17 Z_17))) (.node 22 (.leaf 19 Z_19) (.node 23 (.leaf 22 Z_22) (.leaf 23 Z_23))))) (.node 32 (.node 26 (.node 25 (.leaf 24 Z_24) (.leaf 25 Z_25)) (.node 27 (.leaf 26 Z_26) (.node 29 (.leaf 27 Z_27) (.leaf 29 Z_29)))) (.node 37 (.node 35 (.leaf 32 Z_32) (.node 36 (.leaf 35 Z_35) (.leaf 36 Z_36))) (.node 38 (.leaf 37 Z_37) (.node 40 (.leaf 38 Z_38) (.leaf 40 Z_40)))))) (.node 55 (.node 49 (.node 44 (.node 43 (.leaf 41 Z_41) (.leaf 43 Z_43)) (.node 45 (.leaf 44 Z_44) (.node 48 (.leaf 45 Z_45) (.leaf 48 Z_48)))) (.node 52 (.node 50 (.leaf 49 Z_49) (.node 51 (.leaf 50 Z_50) (.leaf 51 Z_51))) (.node 53 (.leaf 52 Z_52) (.node 54 (.leaf 53 Z_53) (.leaf 54 Z_54))))) (.node 60 (.node 57 (.node 56 (.leaf 55 Z_55) (.leaf 56 Z_56)) (.node 58 (.leaf 57 Z_57) (.node 59 (.leaf 58 Z_58) (.leaf 59 Z_59)))) (.node 63 (.node 61 (.leaf 60 Z_60) (.node 62 (.leaf 61 Z_61) (.leaf 62 Z_62))) (.node 64 (.leaf 63 Z_63) (.node 65 (.leaf 64 Z_64) (.leaf 65 Z_65))))))
def disp (za : CS → List AV → St → KS → Prop) : Nat → CS → List AV → St → KS → Prop := ZT.look (zt za)
theorem disp_ok (h : ∀ f, Nat.beq f 9 = false → F f = tbl f) {za : CS → List AV → St → KS → Prop} (ha : FnOk F 9 za)  (f : Nat) : FnOk F f (disp za f) := ztN (ztN (ztN (ztN (ztN (ztL (z_5 h)) (ztL (z_7 h))) (ztN (ztL ha) (ztN (ztL (z_10 h)) (ztL (z_12 h))))) (ztN (ztN (ztL (z_14 h)) (ztN (ztL (z_16 h)) (ztL (z_17 h)))) (ztN (ztL (z_19 h)) (ztN (ztL (z_22 h)) (ztL (z_23 h)))))) (ztN (ztN (ztN (ztL (z_24 h)) (ztL (z_25 h))) (ztN (ztL (z_26 h)) (ztN (ztL (z_27 h)) (ztL (z_29 h))))) (ztN (ztN (ztL (z_32 h)) (ztN (ztL (z_35 h)) (ztL (z_36 h)))) (ztN (ztL (z_37 h)) (ztN (ztL (z_38 h)) (ztL (z_40 h))))))) (ztN (ztN (ztN (ztN (ztL (z_41 h)) (ztL (z_43 h))) (ztN (ztL (z_44 h)) (ztN (ztL (z_45 h)) (ztL (z_48 h))))) (ztN (ztN (ztL (z_49 h)) (ztN (ztL (z_50 h)) (ztL (z_51 h)))) (ztN (ztL (z_52 h)) (ztN (ztL (z_53 h)) (ztL (z_54 h)))))) (ztN (ztN (ztN (ztL (z_55 h)) (ztL (z_56 h))) (ztN (ztL (z_57 h)) (ztN (ztL (z_58 h)) (ztL (z_59 h))))) (ztN (ztN (ztL (z_60 h)) (ztN (ztL (z_61 h)) (ztL (z_62 h)))) (ztN (ztL (z_63 h)) (ztN (ztL (z_64 h)) (ztL (z_65 h)))))))
theorem mixed : Tryd.prog.follows .mixedOrders = true := by kernel_rfl
theorem aw0 : CT (disp Z_9) 60 9 [] S0 (fun v _ => v = .b true) = (AV.b true = AV.b true) := by kernel_rfl
theorem aw : KnownTrue Tryd.prog 9 := knownX (F := tbl) mixed (tblOf_ok _ _) Tryd.func9 (by kernel_rfl : compFn Tryd.prog 3 Tryd.f9 = some (fnOf (tbl 9))) c9 (CT_good (disp_ok (fun _ _ => rfl) z_9) 60 9 [] S0 _ (aw0.mpr rfl))
/-- the table, with what is known -/
noncomputable def tblK (f : Nat) : Option AFn := bif Nat.beq f 9 then some kTrue else tbl f
theorem okK : TblOk Tryd.prog tblK := tblK_ok (t := tbl) (tblOf_ok _ _) aw
/-- awake answers true -/
def zK (C : CS) (vs : List AV) (S : St) (k : KS) : Prop := ar0 (fun S => k (.b true) S) vs S
theorem tblK_h (f : Nat) (hf : Nat.beq f 9 = false) : tblK f = tbl f := by unfold tblK; rw [hf]; rfl
theorem kOk : FnOk tblK 9 zK := kTrue_ok (by unfold tblK; rfl)
theorem goodK (n : Nat) : GoodC tblK (CT (disp zK) n) := CT_good (disp_ok tblK_h kOk) n
end
end Go.Proofs.YtkfcecaoaplfkaaDoor.T
