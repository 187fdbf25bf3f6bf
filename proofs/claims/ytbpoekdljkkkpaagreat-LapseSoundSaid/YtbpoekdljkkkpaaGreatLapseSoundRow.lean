/- LapseSound: whatever the arguments, the law answers true, and its arguments read as before. No condition. PRINTED by our row.py. -/
import Derived.Test.YtbpoekdljkkkpaaGreatRows
import Derived.Carry
import Derived.Test.YtbpoekdljkkkpaaGreatLapseSoundT
import Derived.WalkKit
import Derived.ProofKit
import Derived.OpenShut
import Derived.ShutString
import Derived.ChangeOld
import Derived.Below
import Derived.SizedLaws
namespace Go.Proofs.YtbpoekdljkkkpaaGreat.LapseSoundRow
open Go.ChangeShapes Go.WideShapes Go.ChangeAt Go.RowKit Go.AM
open Go.ChangeMaps (open_string shut_string)
set_option linter.unusedVariables false
theorem zh4:laidOutB Tryz.prog=true:=by kernel_rfl
theorem own:ownKnob Tryz.prog.godebug=none:=by kernel_rfl
set_option maxRecDepth 100000 in
theorem zjj (os:Os)(started:os.Started)(H:Type)(enc:TypeId×Value→H) :
  ReturnsInHanded {} Tryz.checked os 3 .any (Rows.lapseSoundSpec.pre6 enc Tryz.prog Tryz.f3 Rows.lapseSoundRow.domain false) (Rows.lapseSoundSpec.post enc Tryz.prog Tryz.f3 false true false false):=by
 refine returnsInHanded_of_change_sized (C:=Tryz.checked) own started (by kernel_rfl) Tryz.func3
  (ChangeSpec.witness6 (enc:=enc) (C:=Tryz.checked) false ⟨#[],#[.slice none 0 0],[]⟩ 8 (by kernel_rfl) (by kernel_rfl) (by kernel_rfl) (by kernel_rfl)) ?_
 intro W base args ds gs before zli hW zqZ zo4 _
 have hval:∀(j:Nat) t v,Tryz.f3.params[j]?=some t→args[j]?=some v→Value.okWide Tryz.prog W .any base t v:=zli
 have TB:=hW
 obtain⟨p,q,hA0,hV,rfl,hfz,fQ⟩:=hW
 have hA:DataW.TrodAll enc Tryz.prog W 0 (fun _=>true) true Tryz.f3.params.toList args.toList ds p:=hA0
 rw[Tryz.params3]at hA hval
 obtain⟨v0,vs0,d0,ds0,p0,q0,hargs,rfl,rfl,h0,r0⟩:=trodAll_cons hA
 obtain⟨rfl,rfl,rfl⟩:=trodAll_nil r0
 obtain rfl:args=#[v0]:=by cases args;simp_all
 obtain⟨rfl,rfl⟩:=trodVars_none hV
 have k0:=h0
 obtain⟨l0,S0,eV,L0,x0,ar0,e0,xe0,vr0,as0⟩:=(AR.nil W).zqv Tryz.underlying22 Tryz.underlying30 rfl (by intro i f h;match i,h with | 0,h=>(cases h;exact⟨rfl,rfl⟩) | 1,h=>(cases h;exact⟨rfl,rfl⟩) | 2,h=>(cases h;exact⟨rfl,rfl⟩) | n+3,h=>simp at h) Tryz.underlying3 (by kernel_rfl) (by kernel_rfl) (hval 0 22 v0 rfl rfl) h0
 refine (ar0.calls T.mixed T.okK (.cons (vr0) .nil) (T.mZ l0 x0 as0)).mono fun e W' ⟨he,ko⟩=>?_
 subst he
 have lt0:∀x∈p0,x.block<W.heap.size:=fun x hx=>TB.lt x (by simp[hx])
 exact⟨_,rfl,_,_,_,[],_,[],TB,trodAll_mk1 (shut_bool Tryz.underlying4 _),(trodAll_cons_mk (Below.trod zh4 (by kernel_rfl) (of_decide_eq_true (by kernel_rfl)) k0 ko lt0) trodAll_mk0),rfl,ko.frame _,fun h=>by cases h⟩
theorem ak:Rows.lapseSoundRow.holds Tryz.pinned (OpenSpec.ofChange Rows.lapseSoundSpec) :=
 OpenClaim.holds_of_wide 3 Tryz.f3 rfl rfl rfl rfl rfl rfl rfl ⟨rfl,rfl,rfl,rfl,rfl⟩ rfl rfl rfl rfl rfl (by kernel_rfl) Tryz.func3 (by kernel_rfl)
  (of_decide_eq_true (by kernel_rfl)) (by unfold Func.isWrapper;first | (rw[if_pos (by decide +kernel)];kernel_rfl) | (rw[if_neg (by decide +kernel)];exact⟨rfl,rfl⟩))
  (fun os started H enc _=>zjj os started H enc)
end Go.Proofs.YtbpoekdljkkkpaaGreat.LapseSoundRow
namespace Go.Proofs.YtbpoekdljkkkpaaGreat
theorem lapseSound_holds:Rows.LapseSoundSaid:=LapseSoundRow.ak
end Go.Proofs.YtbpoekdljkkkpaaGreat
