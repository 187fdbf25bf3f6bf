/- The texts AmN, AmO, AmP, AmQ, AmR, AmS, LgA, LgB, LgC, LgD, LgE, LgR, LgT, LgO, LgQ of a proof of CtxActs, merged. -/
import Derived.Test.YtmecehkjocjkiaaGreatCtxActsG0
import Derived.LoopN
import Derived.ChangeSlices
import Derived.WideShapes
import Derived.ChangeOld
import Derived.Carry
import Derived.ChangeArms
import Derived.KernelRfl
set_option linter.unusedVariables false
set_option linter.unusedSimpArgs false
namespace Go.AM
section
open Go.RowKit (Below)
structure Gr (S S':St):Prop where
 nx:S.nx≤S'.nx
 wf:S.wf→S'.wf
 ro:∀n bl,S'.h.get n=some bl→bl.own=false→S.h.get n=some bl
theorem Gr.refl (S:St):Gr S S:=⟨Nat.le_refl _,id,fun _ _ h _=>h⟩
theorem Gr.trans {S S1 S2:St}(h:Gr S S1)(k:Gr S1 S2):Gr S S2:=⟨Nat.le_trans h.nx k.nx,fun w=>k.wf (h.wf w),fun n bl hb ho=>h.ro n bl (k.ro n bl hb ho) ho⟩
theorem Gr.old {S:St}{n:Nat}{bl0:AB}(hg:S.h.get n=some bl0){bl:AB}(ho:bl.own=true):Gr S { S with h:=S.h.set n (some bl) }:=by
 refine⟨Nat.le_refl _,fun w m bm hm=>?_,fun m bm hm hr=>?_⟩<;>simp only[zP]at hm<;>split at hm
 ·rename_i e;subst e;exact w _ _ hg
 ·exact w _ _ hm
 ·cases hm;rw[ho]at hr;cases hr
 ·exact hm
theorem Gr.gone (S:St)(n:Nat):Gr S { S with h:=S.h.set n none }:=by
 refine⟨Nat.le_refl _,fun w m bm hm=>?_,fun m bm hm hr=>?_⟩<;>simp only[zP]at hm<;>split at hm
 ·cases hm
 ·exact w _ _ hm
 ·cases hm
 ·exact hm
theorem Gr.new (S:St){bl:AB}(ho:bl.own=true):Gr S { h:=S.h.set S.nx (some bl),nx:=S.nx+1 }:=by
 refine⟨Nat.le_succ _,fun w m bm hm=>?_,fun m bm hm hr=>?_⟩<;>simp only[zP]at hm<;>split at hm
 ·rename_i e;subst e;exact Nat.lt_succ_self _
 ·exact Nat.lt_succ_of_lt (w _ _ hm)
 ·cases hm;rw[ho]at hr;cases hr
 ·exact hm
theorem Zr {S:St}{a:Nat×Nat}{vs:List AV}{h:PM AB}(hw:xU S.h a vs=some h):Gr S { S with h:=h }:=by
 unfold xU at hw
 split at hw
 ·rename_i c hg
  rw[cond_eq_ite]at hw
  split at hw
  ·cases hw;exact Gr.old hg rfl
  ·cases hw
 ·cases hw
theorem zhP {S:St}{a:Option (Nat×Nat)}{ex size:Nat}{h:PM AB}(hg:gone S.h a ex size=some h):Gr S { S with h:=h }:=by
 unfold gone at hg
 rw[cond_eq_ite]at hg
 split at hg
 ·cases hg;exact Gr.refl S
 ·rw[cond_eq_ite]at hg
  split at hg
  ·split at hg
   ·rw[cond_eq_ite]at hg
    split at hg
    ·cases hg;exact Gr.gone S _
    ·cases hg
   ·cases hg
  ·cases hg
theorem zh8 {size bytes:Nat}{S:St}{a:Option (Nat×Nat)}{len cap ex n:Nat}{new:List AV}{v:AV}{S':St}(h:ziA size bytes S a len cap ex n new=some (v,S')):Gr S S':=by
 unfold ziA at h
 rw[cond_eq_ite]at h
 split at h
 ·split at h
  ·cases h;exact Gr.refl S
  ·rw[cond_eq_ite]at h
   split at h
   ·cases h;exact Gr.refl S
   ·split at h
    ·rename_i hw;cases h;exact Zr hw
    ·cases h
 ·rw[cond_eq_ite]at h
  split at h
  ·split at h
   ·rename_i old h1 _ hg
    cases h
    exact (zhP hg).trans (Gr.new { S with h:=h1 } rfl)
   ·cases h
  ·cases h
def WQ (call:Cll):Prop:=∀f vs S v S',call f vs S=some (v,S')→Gr S S'
theorem zhi {o:AOp}{call:Cll}(hcall:WQ call){S:St}{vs:List AV}{v:AV}{S':St}(h:Wy o call S vs=some (v,S')):Gr S S':=by
 cases o<;>simp only[Wy]at h<;>try (cases h;done)
 case st sz =>
  unfold eSt at h
  split at h
  ·split at h
   ·rw[cond_eq_ite]at h
    split at h
    ·split at h
     ·rename_i hw;cases h;exact Zr hw
     ·cases h
    ·cases h
   ·cases h
  ·cases h
 case mset =>
  unfold zfe at h
  split at h
  ·split at h
   ·rename_i hg
    split at h
    ·cases h;exact Gr.old hg rfl
    ·cases h
   ·cases h
  ·cases h
 case mdel =>
  unfold zdm at h
  split at h
  ·cases h;exact Gr.refl S
  ·split at h
   ·rename_i hg
    split at h
    ·cases h;exact Gr.old hg rfl
    ·cases h
   ·cases h
  ·cases h
 case app size bytes =>
  unfold zis at h
  split at h
  ·split at h
   ·rw[cond_eq_ite]at h
    split at h
    ·exact zh8 h
    ·cases h
   ·cases h
  ·cases h
 case clr z =>
  unfold zh0 at h
  split at h
  ·rw[cond_eq_ite]at h
   split at h
   ·cases h;exact Gr.refl S
   ·split at h
    ·split at h
     ·rename_i hw;cases h;exact Zr hw
     ·cases h
    ·cases h
  ·cases h
 case cpy size =>
  unfold zhZ at h
  split at h
  ·split at h
   ·rw[cond_eq_ite]at h
    split at h
    ·cases h;exact Gr.refl S
    ·split at h
     ·split at h
      ·rename_i hw;cases h;exact Zr hw
      ·cases h
     ·cases h
   ·cases h
  ·cases h
 case call f=>exact hcall _ _ _ _ _ h
 case callv =>
  obtain⟨f,fst,cap,us,rfl,h⟩:=ZQ h
  exact hcall _ _ _ _ _ h
theorem zbS {o:AOp}{nx:Nat}{vs:List AV}{blk:AB}{v:AV}(h:zdH o nx vs=some (blk,v)):blk.own=true:=by
 cases o<;>simp only[zdH]at h<;>try (cases h;done)
 ·unfold zfB at h;split at h<;>cases h;rfl
 ·unfold zbt at h
  split at h
  ·split at h<;>cases h;rfl
  ·cases h
 ·unfold Zo at h
  split at h
  ·rw[cond_eq_ite]at h
   split at h<;>cases h;rfl
  ·cases h
 ·unfold zfA at h
  split at h
  ·rw[cond_eq_ite]at h
   split at h<;>cases h;rfl
  ·cases h
 ·cases h;rfl
theorem zfU {o:AOp}{call:Cll}(hcall:WQ call){S:St}{vs:List AV}{v:AV}{S':St}(h:wg o call S vs=some (v,S')):Gr S S':=by
 cases hcl:o.cl<;>simp only[wg,hcl]at h
 ·unfold opR at h
  split at h<;>cases h
  exact Gr.refl S
 ·unfold opA at h
  split at h
  ·rename_i blk u he
   cases h
   exact Gr.new S (zbS he)
  ·cases h
 ·exact zhi hcall h
theorem Xk {call:Cll}(hcall:WQ call){o:Op1}{T T':Tm}{S S':St}(h:wJ call o T S=some (T',S')):Gr S S':=by
 unfold wJ at h
 split at h
 ·split at h
  ·rename_i v S1 he
   cases h
   exact zfU hcall he
  ·cases h
 ·cases h;exact Gr.refl S
 ·cases h
theorem XF {call:Cll}(hcall:WQ call):∀{l:List Op1} {T T':Tm} {S S':St},Z7 call l T S=some (T',S')→Gr S S'
 | [],T,T',S,S',h=>by cases h;exact Gr.refl S
 | o::r,T,T',S,S',h=>by
  rw[wK]at h
  split at h
  ·rename_i T1 S1 he
   exact (Xk hcall he).trans (XF hcall h)
  ·cases h
noncomputable def Tm.at (ps:Nat)(T:Tm)(t:Nat):AV:=(opT ps t).ev T
def zh2 (ps:Nat):Option Tmp→Dst
 | none=>.no
 | some d=>bif per ps d then .l d else .t d
structure TRel (β:Bt)(ps nt:Nat)(T:Tm)(a:Act):Prop where
 sz:nt≤a.tmps.size
 tm:∀t,t<nt→VR β (T.at ps t) (a.tmps.getD t undef)
 df:a.defers=[]
theorem TRel.mono {β γ:Bt}{ps nt:Nat}{T:Tm}{a:Act}(h:TRel β ps nt T a)(e:Ext β γ):TRel γ ps nt T a:=⟨h.sz,fun t ht=>(h.tm t ht).mono e,h.df⟩
theorem Yw (n:Nat)(v:AV):∀(l:List (Nat×AV)) (m:Nat),yn (ziy n v l) m=if m=n then v else yn l m
 | [],m=>by
  simp only[zgs,Zn,zcC,zp]
  by_cases h:m=n
  ·subst h;simp
  ·rw[if_neg h,show decide (n=m)=false from decide_eq_false (fun e=>h e.symm)];rfl
 | (k,u)::r,m=>by
  simp only[zft,zp]
  by_cases hk:k=n
  ·subst hk
   simp only[decide_true,cond_true,Zn,zp]
   by_cases h:m=k
   ·subst h;simp
   ·rw[if_neg h,show decide (k=m)=false from decide_eq_false (fun e=>h e.symm)];rfl
  ·simp only[hk,decide_false,cond_false,Zn,zp]
   by_cases h:m=n
   ·subst h
    rw[if_pos rfl,show decide (k=m)=false from decide_eq_false hk,Yw,if_pos rfl];rfl
   ·rw[if_neg h,Yw,if_neg h]
theorem Wr (ps:Nat)(T:Tm)(v:AV)(d t:Nat):(T.put v (zh2 ps (some d))).at ps t=if t=d then v else T.at ps t:=by
 cases hd:per ps d<;>cases ht:per ps t<;>simp only[Tm.at,opT,zh2,hd,ht,cond_true,cond_false,Tm.put,Opd.ev]
 ·simp only[Zn,zp]
  by_cases h:t=d
  ·subst h;simp
  ·rw[if_neg h,show decide (d=t)=false from decide_eq_false (fun e=>h e.symm)];rfl
 ·rw[if_neg (fun e=>by subst e;rw[hd]at ht;cases ht)]
 ·rw[if_neg (fun e=>by subst e;rw[hd]at ht;cases ht)]
 ·exact Yw d v T.l t
theorem TRel.put {β:Bt}{ps nt:Nat}{T:Tm}{a:Act}(h:TRel β ps nt T a){v:AV}{v':Value}(hv:VR β v v')(d:Option Tmp)(hd:∀x,d=some x→x<nt):TRel β ps nt (T.put v (zh2 ps d)) (a.put d v'):=by
 cases d with
 | none=>exact h
 | some d =>
  have hd:=hd d rfl
  refine⟨by simpa[Act.put]using h.sz,fun t ht=>?_,h.df⟩
  rw[Wr]
  simp only[Act.put]
  by_cases e:t=d
  ·subst e
   rw[if_pos rfl]
   have hs:=h.sz
   have:(a.tmps.setIfInBounds t v').getD t undef=v':=by
    rw[Array.getD_eq_getD_getElem?,Array.getElem?_setIfInBounds_self_of_lt (by omega)];rfl
   rw[this];exact hv
  ·rw[if_neg e]
   have:(a.tmps.setIfInBounds d v').getD t undef=a.tmps.getD t undef:=by
    rw[Array.getD_eq_getD_getElem?,Array.getD_eq_getD_getElem?,Array.getElem?_setIfInBounds_ne (fun h=>e h.symm)]
   rw[this];exact h.tm t ht
theorem TRel.clear {β:Bt}{ps nt:Nat}{T:Tm}{a:Act}(h:TRel β ps nt T a):TRel β ps nt { T with r:=[] } a:=by
 refine⟨h.sz,fun t ht=>?_,h.df⟩
 have:=h.tm t ht
 revert this
 unfold Tm.at opT
 cases per ps t
 ·intro _;exact .bad _
 ·exact id
theorem zgM {β:Bt}{ps nt:Nat}{T:Tm}{a:Act}(h:TRel β ps nt T a){x:Operand}{y:Opd}(hc:wU ps nt x=some y):VR β (y.ev T) (a.eval x):=by
 cases x with
 | tmp t =>
  simp only[wU,yU]at hc
  by_cases ht:t<nt
  ·simp only[ht,decide_true,cond_true,Option.some.injEq]at hc
   subst hc
   exact h.tm t ht
  ·simp[ht]at hc
 | const v =>
  simp only[wU,Option.map_eq_some_iff]at hc
  obtain⟨u,hu,rfl⟩:=hc
  exact zaM hu
 | global g=>cases hc
 | func f=>cases hc;exact .fn f .nil .nil
theorem zeu {β:Bt}{ps nt:Nat}{T:Tm}{a:Act}(h:TRel β ps nt T a):∀{xs:List Operand} {ys:List Opd},vP (wU ps nt) xs=some ys→VRs β (evs T ys) (xs.map a.eval)
 | [],ys,hc=>by simp[vP]at hc;subst hc;exact .nil
 | x::xs,ys,hc=>by
  unfold vP at hc
  split at hc
  ·rename_i y hy
   rw[Option.map_eq_some_iff]at hc
   obtain⟨zs,hz,rfl⟩:=hc
   exact .cons (zgM h hy) (zeu h hz)
  ·cases hc
theorem Zx {P:Program}{ps nt:Nat}{ops:Array Oper}{o:Oper}{o1:Op1}(h:Ug P ps ops nt o=some o1) :
  ∃xs,Zm P o=some (o1.op,xs)∧vp ps ops nt o.guard=some o1.gd∧vP (wU ps nt) xs=some o1.args∧o1.dst=zh2 ps o.dst∧∀d,o.dst=some d→d<nt:=by
 unfold Ug at h
 split at h
 ·rename_i op xs gd h1 h2
  split at h
  ·rename_i args h3
   split at h
   ·rename_i hd
    cases h
    exact⟨xs,h1,h2,h3,by rw[hd];rfl,fun d hh=>by rw[hd]at hh;cases hh⟩
   ·rename_i d hd
    rw[yU]at h
    by_cases hlt:d<nt
    ·simp only[hlt,decide_true,cond_true]at h
     cases h
     exact⟨xs,h1,h2,h3,by rw[hd];rfl,fun d' hh=>by rw[hd]at hh;cases hh;exact hlt⟩
    ·simp[hlt]at h
  ·cases h
 ·cases h
theorem WW {β:Bt}{ps nt:Nat}{T:Tm}{a:Act}(h:TRel β ps nt T a){ops:Array Oper}{o:Oper}{gd:Option (Opd×Bool)}(hc:vp ps ops nt o.guard=some gd){r:Bool}(hw:ZH T gd=some r) :
  Region.wanted o (yielded ops a.tmps)=r:=by
 unfold vp at hc
 split at hc
 ·rename_i hg
  cases hc
  cases hw
  simp[Region.wanted,hg]
 ·rename_i j w hg
  split at hc
  ·rename_i t ht
   rw[yU]at hc
   by_cases hlt:t<nt
   ·simp only[hlt,decide_true,cond_true,Option.some.injEq]at hc
    subst hc
    have h1:=h.tm t hlt
    simp only[ZH]at hw
    have hsz:t<a.tmps.size:=Nat.lt_of_lt_of_le hlt h.sz
    have hget:a.tmps[t]?=some (a.tmps.getD t undef):=by
     rw[Array.getD_eq_getD_getElem?,Array.getElem?_eq_getElem hsz];rfl
    have hy:yielded ops a.tmps j=match a.tmps.getD t undef with | .bool b=>some b | _=>none:=by
     simp only[yielded,ht,Option.bind_some,hget]
     cases a.tmps.getD t undef<;>rfl
    have h1':VR β ((opT ps t).ev T) (a.tmps.getD t undef):=h1
    clear h1
    generalize a.tmps.getD t undef=y at h1' hy
    simp only[Region.wanted,hg,hy]
    generalize (opT ps t).ev T=x at h1' hw
    cases h1'<;>first | (cases hw;done) | (simp only[Option.some.injEq]at hw;subst hw;simp;done) | (simp only[Option.some.injEq]at hw;subst hw;rfl)
   ·simp[hlt]at hc
  ·cases hc
section
variable {P:Program} {β:Bt} {B0:Nat} {S:St} {w:World} {ps nt:Nat} {ops:Array Oper}
theorem zcW {call:Cll}(hcall:Y8 P B0 call){T:Tm}{a:Act}(hwf:S.wf)(hR:Rel β B0 S.h w)(hT:TRel β ps nt T a){i:Nat}{o:Oper}(ho:ops[i]?=some o){o1:Op1}(hc:Ug P ps ops nt o=some o1){T':Tm}{S':St}
  (hs:wJ call o1 T S=some (T',S')) (hfree:Ww β S.nx S'.nx) {K:Act→World→Prop} {Q:Exit→Act→World→Prop}
  (h:∀γ v v' w',T'=T.put v o1.dst→VR γ v v'→Stp B0 β S w γ S' w'→K (a.put o.dst v') w'):wpOp P ops Q i K a w:=by
 obtain⟨xs,h1,h2,h3,h4,h5⟩:=Zx hc
 unfold wpOp
 simp only[ho]
 unfold wJ at hs
 split at hs
 ·rename_i hw
  rw[WW hT h2 hw,if_pos rfl]
  split at hs
  ·rename_i v S1 he
   cases hs
   exact .inl (zca hwf hR h1 (zeu hT h3) hcall he hfree fun γ v' w' g1 g2=>h γ v v' w' rfl g1 g2)
  ·cases hs
 ·rename_i hw
  rw[WW hT h2 hw,if_neg (by simp)]
  cases hs
  exact h β (.tup []) undef w rfl (.tup .nil) (Stp.refl hR)
 ·cases hs
theorem US {call:Cll}(hcall:Y8 P B0 call)(hgr:WQ call){l:List Op1}(hl:vP (Ug P ps ops nt) ops.toList=some l){Q:Exit→Act→World→Prop}{T':Tm}{S':St} :
  ∀(n i:Nat),i+n=ops.size→∀{β:Bt} {S:St} {w:World} {T:Tm} {a:Act},S.wf→Rel β B0 S.h w→TRel β ps nt T a→Z7 call (l.drop i) T S=some (T',S')→Ww β S.nx S'.nx →
   (∀γ a' w',TRel γ ps nt T' a'→Stp B0 β S w γ S' w'→Q .normal a' w')→wpOps P ops Q (List.range' i n) a w:=by
 have hlen:ops.size=l.length:=by have:=vf hl;simpa using this
 intro n
 induction n with
 | zero =>
  intro i hi β S w T a hwf hR hT hs hfree h
  rw[List.drop_of_length_le (by omega)]at hs
  cases hs
  exact h β a w hT (Stp.refl hR)
 | succ n ih =>
  intro i hi β S w T a hwf hR hT hs hfree h
  rw[List.range'_succ,wpOps_cons]
  have hi2:i<ops.size:=by omega
  have ho:ops[i]?=some ops[i]:=Array.getElem?_eq_getElem hi2
  obtain⟨o1,hc,ho1⟩:=vz hl i ops[i] (by simp)
  have hd:l.drop i=o1::l.drop (i+1):=by
   rw[List.drop_eq_getElem_cons (by omega)]
   congr 1
   rw[List.getElem?_eq_getElem (by omega)]at ho1
   exact Option.some.inj ho1
  rw[hd]at hs
  rw[wK]at hs
  split at hs
  ·rename_i T1 S1 he
   have hn1:=(XF hgr hs).nx
   obtain⟨_,_,_,_,h4,h5⟩:=Zx hc
   refine zcW hcall hwf hR hT ho hc he (hfree.left hn1) fun γ v v' w' hT1 g1 g2=>?_
   subst hT1
   refine ih (i+1) (by omega) ((Xk hgr he).wf hwf) g2.rel ?_ hs (hfree.right g2) fun δ a' w'' g3 g4=>h δ a' w'' g3 (g2.trans g4)
   rw[h4]
   exact (hT.mono g2.ext).put g1 _ h5
  ·cases hs
end
end
section
open Go.RowKit (Below)
def Wv (E:Ec):Prop:=∀c T S x T' S',E c T S=some (x,T',S')→Gr S S'
theorem Y4 {F:Nat→Option AFn}{E:Ec}(h:Wv E):WQ (xn F E):=by
 intro f vs S v S' hs
 unfold xn at hs
 split at hs
 ·cases hs
 ·split at hs
  ·rename_i T' S1 he
   rw[Option.map_eq_some_iff]at hs
   obtain⟨u,_,hu⟩:=hs
   cases hu
   exact h _ _ _ _ _ _ he
  ·rename_i T' S1 he
   rw[Option.map_eq_some_iff]at hs
   obtain⟨u,_,hu⟩:=hs
   cases hu
   exact h _ _ _ _ _ _ he
  ·cases hs
theorem zbI {call:Cll}(hcall:WQ call):∀{l:List Op1} {T:Tm} {S:St} {tr:List (Tm×St)},Zz call l T S=some tr→∀{p:Tm×St},ZD tr=some p→Gr S p.2
 | [],T,S,tr,h,p,hp=>by cases h;cases hp;exact Gr.refl _
 | o::r,T,S,tr,h,p,hp=>by
  unfold Zz at h
  split at h
  ·rename_i T1 S1 he
   rw[Option.map_eq_some_iff]at h
   obtain⟨u,hu,rfl⟩:=h
   have h1:=Xk hcall he
   cases u with
   | nil =>
    exfalso
    revert hu
    cases r with
    | nil=>unfold Zz;intro h;cases h
    | cons o r =>
     unfold Zz
     split
     ·rw[Option.map_eq_some_iff];rintro⟨_,_,h⟩;cases h
     ·intro h;cases h
   | cons y u=>exact h1.trans (zbI hcall hu (by simpa[ZD]using hp))
  ·cases h
theorem zbb {F:Nat→Option AFn}{E:Ec}(h:Wv E):Wv (xK F E):=by
 have hc:=Y4 (F:=F) h
 intro c T S x T' S' hs
 cases c with
 | skip=>cases hs;exact Gr.refl _
 | reg ops =>
  simp only[xK,zgz]at hs
  split at hs
  ·rename_i he;cases hs;exact XF hc he
  ·cases hs
 | regD ops chk =>
  simp only[xK,zcL]at hs
  split at hs
  ·rename_i tr he
   rw[cond_eq_ite]at hs
   split at hs
   ·rw[Option.map_eq_some_iff]at hs
    obtain⟨p,hp,hq⟩:=hs
    cases hq
    exact zbI hc he hp
   ·cases hs
  ·cases hs
 | seq a b =>
  simp only[xK,zgy]at hs
  split at hs
  ·rename_i he;exact (h _ _ _ _ _ _ he).trans (h _ _ _ _ _ _ hs)
  ·exact h _ _ _ _ _ _ hs
 | cond c x y =>
  simp only[xK,zaG]at hs
  split at hs
  ·exact h _ _ _ _ _ _ hs
  ·exact h _ _ _ _ _ _ hs
  ·cases hs
 | block id c =>
  simp only[xK,Z3]at hs
  split at hs
  ·rename_i he
   rw[cond_eq_ite]at hs
   split at hs<;>(cases hs;exact h _ _ _ _ _ _ he)
  ·exact h _ _ _ _ _ _ hs
 | loop c =>
  simp only[xK,Uu]at hs
  split at hs
  ·rename_i he;exact (h _ _ _ _ _ _ he).trans (h _ _ _ _ _ _ hs)
  ·exact h _ _ _ _ _ _ hs
 | exit id=>cases hs;exact Gr.refl _
 | ret=>cases hs;exact Gr.refl _
theorem Vs (F:Nat→Option AFn):∀n,Wv (Z1 F n)
 | 0=>fun _ _ _ _ _ _ h=>by cases h
 | n+1=>zbb (Vs F n)
section
variable {P:Program} {β:Bt} {B0:Nat} {h:PM AB} {w:World} {ps nt:Nat}
def zed (tmps:Array Value):ResultVar→Sem Value
 | .tmp t=>pure (tmps.getD t undef)
 | .cell a t=>do loadVar t (←asAddr (tmps.getD a undef))
theorem zcY (fn:Func)(tmps:Array Value):results fn tmps=(do let vs ←fn.results.mapM (zed tmps);pure (if h:vs.size=1 then vs[0]else .tuple vs)):=by
 unfold results
 congr 1
theorem zcZ (hR:Rel β B0 h w){T:Tm}{a:Act}(hT:TRel β ps nt T a){r:ResultVar}{s:ResV}(hc:YL P ps nt r=some s){v:AV}(hv:W8 T h s=some v) :
  ∃v',(zed a.tmps r).run P w=.ok v' w∧VR β v v':=by
 cases r with
 | tmp t =>
  simp only[YL,yU]at hc
  by_cases ht:t<nt
  ·simp only[ht,decide_true,cond_true,Option.some.injEq]at hc
   subst hc
   cases hv
   exact⟨_,rfl,hT.tm t ht⟩
  ·simp[ht]at hc
 | cell t ty =>
  simp only[YL,yU]at hc
  by_cases ht:t<nt
  ·simp only[ht,decide_true,cond_true,Option.map_eq_some_iff]at hc
   obtain⟨sz,hsz,rfl⟩:=hc
   simp only[W8]at hv
   have h1:VR β ((opT ps t).ev T) (a.tmps.getD t undef):=hT.tm t ht
   show ∃v',(do loadVar ty (←asAddr (a.tmps.getD t undef)):Sem Value).run P w=.ok v' w∧VR β v v'
   generalize a.tmps.getD t undef=y at h1 ⊢
   generalize (opT ps t).ev T=x at h1 hv
   split at hv
   ·rename_i ad
    obtain⟨v',h2,h3⟩:=g_ld (P:=P) hR hsz (.cons h1 .nil) (vs:=[.p (some ad)]) (v:=v) hv
    cases h1
    refine⟨v',?_,h3⟩
    simpa[Instr.loadAt,Instr.sureAddr,asAddr]using h2
   ·cases hv
  ·simp[ht]at hc
theorem zbX (hR:Rel β B0 h w){T:Tm}{a:Act}(hT:TRel β ps nt T a):∀{rs:List ResultVar} {ss:List ResV},vP (YL P ps nt) rs=some ss→∀{vs:List AV},zgI T h ss=some vs →
  ∃vs',(rs.mapM (zed a.tmps)).run P w=.ok vs' w∧VRs β vs vs'
 | [],ss,hc,vs,hv=>by simp[vP]at hc;subst hc;cases hv;exact⟨[],rfl,.nil⟩
 | r::rs,ss,hc,vs,hv=>by
  unfold vP at hc
  split at hc
  ·rename_i s hs
   rw[Option.map_eq_some_iff]at hc
   obtain⟨ss',hss,rfl⟩:=hc
   simp only[zgI]at hv
   split at hv
   ·rename_i v hv1
    rw[Option.map_eq_some_iff]at hv
    obtain⟨vs1,hvs,rfl⟩:=hv
    obtain⟨v',h1,h2⟩:=zcZ hR hT hs hv1
    obtain⟨vs',h3,h4⟩:=zbX hR hT hss hvs
    refine⟨v'::vs',?_,.cons h2 h4⟩
    simp only[List.mapM_cons,Sem.run_bind,h1,Result.andThen_ok,h3,Sem.run_pure]
   ·cases hv
  ·cases hc
theorem Z9 (hR:Rel β B0 h w){T:Tm}{a:Act}(hT:TRel β ps nt T a){fn:Func}{ss:List ResV}(hc:vP (YL P ps nt) fn.results.toList=some ss){v:AV}(hv:zec T h ss=some v) :
  ∃v',(results fn a.tmps).run P w=.ok v' w∧VR β v v':=by
 unfold zec at hv
 have key:∀vs,zgI T h ss=some vs→∃vs',(results fn a.tmps).run P w=.ok (if h:vs'.length=1 then vs'[0]else .tuple vs'.toArray) w∧VRs β vs vs':=by
  intro vs hvs
  obtain⟨vs',h1,h2⟩:=zbX hR hT hc hvs
  refine⟨vs',?_,h2⟩
  rw[zcY,Array.mapM_eq_mapM_toList]
  simp only[Sem.run_bind,map_eq_pure_bind,Sem.run_pure,h1,Result.andThen_ok,List.size_toArray]
  rfl
 split at hv
 ·rename_i u hu
  cases hv
  obtain⟨vs',h1,h2⟩:=key _ hu
  cases h2 with
  | cons h3 h4=>cases h4;exact⟨_,h1,h3⟩
 ·rename_i vs hne hu
  cases hv
  obtain⟨vs',h1,h2⟩:=key _ hu
  refine⟨_,h1,?_⟩
  rw[dif_neg (fun e=>?_)]
  ·exact .tup h2
  ·have:=h2.length
   rw[e]at this
   match vs,this with
   | [x],_=>exact hne x rfl
 ·cases hv
end
def Vr:Ex→Exit
 | .norm=>.normal
 | .ex id=>.exit id
 | .ret=>.ret
def Says (P:Program)(B0 ps nt:Nat)(c:Code)(T:Tm)(S:St)(x:Ex)(T':Tm)(S':St):Prop :=
 ∀β w a (Q:Exit→Act→World→Prop),S.wf→Rel β B0 S.h w→TRel β ps nt T a→Ww β S.nx S'.nx →
  (∀γ a' w',TRel γ ps nt T' a'→Stp B0 β S w γ S' w'→Q (Vr x) a' w')→c.wp P Q a w
def zic (P:Program)(B0:Nat)(F:Nat→Option AFn)(E:Ec):Prop :=
 ∀ps nt id ops d c,zbk P ps nt ops d=some c→∀T S x T' S',xK F E c T S=some (x,T',S')→Says P B0 ps nt (.region id ops d) T S x T' S'
def zaB (P:Program)(B0:Nat)(E:Ec):Prop :=
 ∀ps nt c c',xF P ps nt c=some c'→∀T S x T' S',E c' T S=some (x,T',S')→Says P B0 ps nt c T S x T' S'
def zgZ (P:Program)(B0:Nat)(E:Ec)(n:Nat):Prop :=
 ∀ps nt c c',xF P ps nt c=some c'→∀T S x T' S',E (.loop c') T S=some (x,T',S') →
  ∀β w a (Q:Exit→Act→World→Prop),S.wf→Rel β B0 S.h w→TRel β ps nt T a→Ww β S.nx S'.nx →
  (∀γ a' w',TRel γ ps nt T' a'→Stp B0 β S w γ S' w'→Q (Vr x) a' w')→Code.rounds P c Q n a w
theorem U8:∀(vs:List AV) (k t:Nat),yn (za3 vs k) t=if k≤t then (vs[t-k]?).getD .bad else .bad
 | [],k,t=>by simp[za3,zcC]
 | v::vs,k,t=>by
  simp only[za3,Zn,zp]
  by_cases h:k=t
  ·subst h;simp
  ·simp only[h,decide_false,cond_false]
   rw[U8 vs (k+1) t]
   by_cases h1:k≤t
   ·rw[if_pos (by omega),if_pos h1,show t-k=(t-(k+1))+1 by omega];rfl
   ·rw[if_neg (by omega),if_neg h1]
theorem zeI {β:Bt}{ps nt:Nat}{vs:List AV}{as:Array Value}(h:VRs β vs as.toList):TRel β ps nt (zgd vs) { tmps:=as++Array.replicate (nt-as.size) undef,defers:=[] }:=by
 refine⟨by simp;omega,fun t ht=>?_,rfl⟩
 unfold Tm.at opT
 cases per ps t
 ·exact .bad _
 ·show VR β (yn (za3 vs 0) t) _
  rw[U8,if_pos (Nat.zero_le _)]
  cases hg:vs[t-0]? with
  | none=>exact .bad _
  | some v =>
   obtain⟨v',h1,h2⟩:=h.get hg
   have:(as++Array.replicate (nt-as.size) undef).getD t undef=v':=by
    have hlt:t<as.size:=by
     have:=(List.getElem?_eq_some_iff.1 h1).1
     simpa using this
    rw[Array.getD_eq_getD_getElem?,Array.getElem?_append_left hlt]
    rw[Nat.sub_zero,Array.getElem?_toList]at h1
    rw[h1];rfl
   rw[this];exact h2
section
variable {P:Program} {B0:Nat} {F:Nat→Option AFn}
def zc9:AFn:=⟨.ret,[.tmp (.c (.b true))]⟩
def Zp (P : Program) (f : Nat) : Prop := (∃ fn, P.funcs[f]? = some fn ∧ fn.body.isSome = true ∧ (fn.name == "runtime.NumGoroutine") = false) ∧
 ∀as w,Calls P f as w fun e w'=>e=.returned (.bool true)∧Below w.heap.size w w'
def WP (P:Program)(F:Nat→Option AFn):Prop:=∀f fn,F f=some fn→(∃ps g,P.funcs[f]?=some g∧Wi P ps g=some fn)∨(fn=zc9∧Zp P f)
def zjw (E:Ec):Prop:=∀T S r,E .ret T S=some r→r=(.ret,T,S)
theorem zcx (F:Nat→Option AFn):∀n,zjw (Z1 F n)
 | 0=>by intro T S r h;cases h
 | n+1=>by intro T S r h;cases h;rfl
theorem zd2 {β:Bt}{S:St}{w w':World}(hR:Rel β B0 S.h w)(hb:Below w.heap.size w w'):Stp B0 β S w β S w':=by
 have hsz:=hb.size
 refine⟨Ext.refl β,fun n h1 h2=>absurd h1 h2,⟨fun n bl b o z hg hn=>(hR.blk n bl b o z hg hn).congr (hb.block b (hR.lt n b _ hn)),hR.inj,fun n b x hn=>?_,?_⟩,⟨hb.os,hb.tape,hb.output,hb.size,fun k hk=>hb.block k ?_⟩,fun b hlt _=>hb.block b hlt,fun b ho=>.inr ho,fun _ _ _=>rfl,Nat.le_refl _⟩
 ·have:=hR.lt n b x hn;omega
 ·have:=hR.le;omega
 ·have:=hR.le;omega
theorem zfq (hF:WP P F){E:Ec}(hE:zaB P B0 E)(hret:zjw E):Y8 P B0 (xn F E):=by
 intro f vs S v S' hs
 unfold xn at hs
 split at hs
 ·cases hs
 ·rename_i fn hf
  rcases hF f fn hf with⟨ps,g,hg,hc⟩ | ⟨hk,hkn,hk2⟩
  case inr =>
   subst hk
   have fin:v=.b true∧S'=S:=by
    split at hs
    ·rename_i T' S1 he
     cases hret _ _ _ he
    ·rename_i T' S1 he
     cases hret _ _ _ he
     simp only[zc9,zec,zgI,W8,Opd.ev,Option.map_some,Option.some.injEq,Prod.mk.injEq]at hs
     exact⟨hs.1.symm,hs.2.symm⟩
    ·cases hs
   obtain⟨rfl,rfl⟩:=fin
   refine⟨hkn,fun β w as hwf hvs hR hfree=>(hk2 as w).mono ?_⟩
   rintro e w' ⟨rfl,hb⟩
   exact⟨β,.bool true,rfl,.b true,zd2 hR hb⟩
  unfold Wi at hc
  split at hc
  ·cases hc
  ·rename_i c hb
   rw[cond_eq_ite]at hc
   split at hc
   ·rename_i hname
    split at hc
    ·rename_i b r hcb hcr
     cases hc
     simp only at hs
     refine⟨⟨g,hg,by rw[hb];rfl,by simpa using hname⟩,fun β w as hwf hvs hR hfree=>?_⟩
     have fin:∀x T' S1,E b (zgd vs) S=some (x,T',S1)→(∀R:Exit→Act→World→Prop,True)→(Vr x=.normal∨Vr x=.ret)→(zec T' S1.h r).map (fun v=>(v,S1))=some (v,S') →
       Calls P f as w fun e w'=>∃γ v',e=.returned v'∧VR γ v v'∧Stp B0 β S w γ S' w':=by
      intro x T' S1 he _ hx hr
      rw[Option.map_eq_some_iff]at hr
      obtain⟨u,hu,hq⟩:=hr
      cases hq
      refine calls_of_wp hg hb (hE ps g.ntmps c b hcb _ _ _ _ _ he β w _ _ hwf hR (zeI hvs) hfree fun γ a' w' h1 h2=>?_)
      obtain⟨v',h3,h4⟩:=Z9 h2.rel h1 hcr hu
      rcases hx with hx | hx<;>rw[hx]<;>exact⟨h1.df,v',h3,γ,v',rfl,h4,h2⟩
     split at hs
     ·rename_i T' S1 he
      exact fin _ _ _ he (fun _=>trivial) (.inl rfl) hs
     ·rename_i T' S1 he
      exact fin _ _ _ he (fun _=>trivial) (.inr rfl) hs
     ·cases hs
    ·cases hc
   ·cases hc
theorem ze2 (hreg:∀E,zaB P B0 E→Wv E→zjw E→zic P B0 F E):∀n,zaB P B0 (Z1 F n)∧zgZ P B0 (Z1 F n) n:=by
 intro n
 induction n with
 | zero =>
  refine⟨?_,?_⟩
  ·intro ps nt c c' hc T S x T' S' h;cases h
  ·intro ps nt c c' hc T S x T' S' h;cases h
 | succ n ih =>
  obtain⟨hE,hL⟩:=ih
  have hG:=Vs F n
  have hLoop:zgZ P B0 (Z1 F (n+1)) (n+1):=by
   intro ps nt c c' hc T S x T' S' hs β w a Q hwf hR hT hfree h
   rw[rounds_succ]
   change Uu (Z1 F n) c' T S=_ at hs
   unfold Uu at hs
   split at hs
   ·rename_i T1 S1 he
    have hn:=(hG _ _ _ _ _ _ hs).nx
    have hwf1:=(hG _ _ _ _ _ _ he).wf hwf
    refine hE ps nt c c' hc _ _ _ _ _ he β w a _ hwf hR hT (hfree.left hn) fun γ a' w' h1 h2=>?_
    exact hL ps nt c c' hc _ _ _ _ _ hs γ w' a' Q hwf1 h2.rel h1 (hfree.right h2) fun δ a'' w'' h3 h4=>h δ a'' w'' h3 (h2.trans h4)
   ·rename_i he
    refine hE ps nt c c' hc _ _ _ _ _ hs β w a _ hwf hR hT hfree fun γ a' w' h1 h2=>?_
    have:=h γ a' w' h1 h2
    cases x with
    | norm=>exact absurd hs (he T' S')
    | ex id=>exact this
    | ret=>exact this
  refine⟨?_,hLoop⟩
  intro ps nt c c' hc T S x T' S' hs
  have hreg':=hreg (Z1 F n) hE hG (zcx F n)
  change xK F (Z1 F n) c' T S=_ at hs
  intro β w a Q hwf hR hT hfree h
  cases c with
  | skip=>cases hc;cases hs;exact wp_skip (h β a w hT (Stp.refl hR))
  | region id ops d=>exact hreg' ps nt id ops d c' hc T S x T' S' hs β w a Q hwf hR hT hfree h
  | seq y z =>
   simp only[xF]at hc
   split at hc
   ·rename_i y' z' hy hz
    cases hc
    change zgy (Z1 F n) y' z' T S=_ at hs
    unfold zgy at hs
    refine wp_seq ?_
    split at hs
    ·rename_i T1 S1 he
     have hn:=(hG _ _ _ _ _ _ hs).nx
     have hwf1:=(hG _ _ _ _ _ _ he).wf hwf
     refine hE ps nt y y' hy _ _ _ _ _ he β w a _ hwf hR hT (hfree.left hn) fun γ a' w' h1 h2=>?_
     exact hE ps nt z z' hz _ _ _ _ _ hs γ w' a' Q hwf1 h2.rel h1 (hfree.right h2) fun δ a'' w'' h3 h4=>h δ a'' w'' h3 (h2.trans h4)
    ·rename_i he
     refine hE ps nt y y' hy _ _ _ _ _ hs β w a _ hwf hR hT hfree fun γ a' w' h1 h2=>?_
     have:=h γ a' w' h1 h2
     cases x with
     | norm=>exact absurd hs (he T' S')
     | ex id=>exact this
     | ret=>exact this
   ·cases hc
  | cond b y z =>
   simp only[xF]at hc
   split at hc
   ·rename_i b' y' z' hb hy hz
    cases hc
    change zaG (Z1 F n) b' y' z' T S=_ at hs
    unfold zaG at hs
    have hbv:=zgM hT hb
    split at hs
    ·rename_i he
     rw[he]at hbv
     have hbv':a.eval b=.bool true:=by generalize a.eval b=q at hbv;cases hbv;rfl
     exact wp_cond_true hbv' (hE ps nt y y' hy _ _ _ _ _ hs β w a Q hwf hR hT hfree h)
    ·rename_i he
     rw[he]at hbv
     have hbv':a.eval b=.bool false:=by generalize a.eval b=q at hbv;cases hbv;rfl
     exact wp_cond_false hbv' (hE ps nt z z' hz _ _ _ _ _ hs β w a Q hwf hR hT hfree h)
    ·cases hs
   ·cases hc
  | block id y =>
   simp only[xF,Option.map_eq_some_iff]at hc
   obtain⟨y',hy,rfl⟩:=hc
   change Z3 (Z1 F n) id y' T S=_ at hs
   unfold Z3 at hs
   refine wp_block ?_
   split at hs
   ·rename_i j T1 S1 he
    rw[zp]at hs
    by_cases hj:j=id
    ·simp only[hj,decide_true,cond_true]at hs
     cases hs
     refine hE ps nt y y' hy _ _ _ _ _ he β w a _ hwf hR hT hfree fun γ a' w' h1 h2=>?_
     have:=h γ a' w' h1 h2
     simp only[Vr,Exit.inBlock,hj,if_true]
     exact this
    ·simp only[hj,decide_false,cond_false]at hs
     cases hs
     refine hE ps nt y y' hy _ _ _ _ _ he β w a _ hwf hR hT hfree fun γ a' w' h1 h2=>?_
     have:=h γ a' w' h1 h2
     simp only[Vr,Exit.inBlock,hj,if_false]
     exact this
   ·rename_i he
    refine hE ps nt y y' hy _ _ _ _ _ hs β w a _ hwf hR hT hfree fun γ a' w' h1 h2=>?_
    have:=h γ a' w' h1 h2
    cases x with
    | norm=>exact this
    | ex j=>exact absurd hs (he j T' S')
    | ret=>exact this
  | loop y =>
   simp only[xF,Option.map_eq_some_iff]at hc
   obtain⟨y',hy,rfl⟩:=hc
   exact wp_loop_rounds (n+1) (hLoop ps nt y y' hy T S x T' S' hs β w a Q hwf hR hT hfree h)
  | exit id=>cases hc;cases hs;exact wp_exit (h β a w hT (Stp.refl hR))
  | ret=>cases hc;cases hs;exact wp_ret (h β a w hT (Stp.refl hR))
  | _=>cases hc
theorem Vk (hm:∀B0 E,zaB P B0 E→Wv E→zjw E→zic P B0 F E){ps f:Nat}{g:Func}{fn:AFn}(hg:P.funcs[f]?=some g)(hc:Wi P ps g=some fn){n:Nat}{x:Ex}{T':Tm}{S':St}
  (he:Z1 F n fn.body ⟨[],[]⟩ ⟨.nil,0⟩=some (x,T',S')) (hx:(match x with | .ex _=>false | _=>true)=true) (hv:zec T' S'.h fn.res=some (.b true)):Zp P f:=by
 unfold Wi at hc
 split at hc
 ·cases hc
 ·rename_i c hb
  rw[cond_eq_ite]at hc
  split at hc
  ·rename_i hname
   split at hc
   ·rename_i b r hcb hcr
    cases hc
    simp only at he hv
    refine⟨⟨g,hg,by rw[hb];rfl,by simpa using hname⟩,fun as w=>?_⟩
    have hR:Rel (fun _=>none) w.heap.size (PM.nil:PM AB) w:=by
     refine⟨?_,?_,?_,Nat.le_refl _⟩
     ·intro n bl b o z h;cases h
     ·intro n m bl bm b x y h;cases h
     ·intro n b x h;cases h
    refine calls_of_wp hg hb ((ze2 (hm w.heap.size) n).1 ps g.ntmps c b hcb _ _ _ _ _ he (fun _=>none) w _ _ (fun m bl h=>by cases h) hR ⟨by simp;omega,fun t ht=>?_,rfl⟩ (fun _ _ _=>rfl) fun γ a' w' h1 h2=>?_)
    ·have:Tm.at ps ⟨[],[]⟩ t=.bad:=by unfold Tm.at opT;cases per ps t<;>rfl
     rw[this];exact .bad _
    ·obtain⟨v',h3,h4⟩:=Z9 h2.rel h1 hcr hv
     cases h4
     cases x with
     | norm=>exact⟨h1.df,_,h3,rfl,h2.bel⟩
     | ret=>exact⟨h1.df,_,h3,rfl,h2.bel⟩
     | ex j=>cases hx
   ·cases hc
  ·cases hc
end
end
section
open Go.RowKit (Below)
def Way (call:Cll)(l:List Op1)(ts:Nat→Tm)(ss:Nat→St):Prop :=
 ∀i o,l[i]?=some o→wJ call o (ts i) (ss i)=some (ts (i+1),ss (i+1))
theorem XW {x y:Tm×St}{r:List (Tm×St)}:ZD (x::y::r)=ZD (y::r):=rfl
theorem YS {call:Cll}:∀{l:List Op1} {T:Tm} {S:St} {tr:List (Tm×St)},Zz call l T S=some tr →
  ∃ts ss,ts 0=T∧ss 0=S∧Way call l ts ss∧(∀i,i≤l.length→tr[i]?=some (ts i,ss i))∧ZD tr=some (ts l.length,ss l.length)
 | [],T,S,tr,h=>by
  cases h
  refine⟨fun _=>T,fun _=>S,rfl,rfl,fun i o h=>by simp at h,fun i hi=>?_,rfl⟩
  have:i=0:=by simpa using hi
  subst this;rfl
 | o::r,T,S,tr,h=>by
  unfold Zz at h
  split at h
  ·rename_i T1 S1 he
   rw[Option.map_eq_some_iff]at h
   obtain⟨u,hu,rfl⟩:=h
   obtain⟨ts,ss,h1,h2,h3,h4,h5⟩:=YS hu
   refine⟨fun i=>match i with | 0=>T | i+1=>ts i,fun i=>match i with | 0=>S | i+1=>ss i,rfl,rfl,?_,?_,?_⟩
   ·intro i o' ho
    cases i with
    | zero =>
     simp only[List.getElem?_cons_zero,Option.some.injEq]at ho
     subst ho
     simp only[h1,h2]
     exact he
    | succ i=>exact h3 i o' (by simpa using ho)
   ·intro i hi
    cases i with
    | zero=>rfl
    | succ i=>simpa using h4 i (by simpa using hi)
   ·have h0:=h4 0 (Nat.zero_le _)
    cases u with
    | nil=>cases h0
    | cons y u=>rw[XW,h5];rfl
  ·cases h
theorem YU {call:Cll}:∀{l:List Op1} {T:Tm} {S:St} {p:Tm×St},Z7 call l T S=some p→∃tr,Zz call l T S=some tr∧ZD tr=some p
 | [],T,S,p,h=>by cases h;exact⟨_,rfl,rfl⟩
 | o::r,T,S,p,h=>by
  rw[wK]at h
  split at h
  ·rename_i T1 S1 he
   obtain⟨u,h1,h2⟩:=YU h
   refine⟨(T,S)::u,by unfold Zz;rw[he];simp only[h1,Option.map_some],?_⟩
   cases u with
   | nil=>cases h2
   | cons y u=>rw[XW,h2]
  ·cases h
theorem Y1 (acc:List Nat)(i:Nat):∀(ds:List Nat) (s:Nat),(ds.foldl (fun s e=>s ||| 2 ^ e ||| acc.getD e 0) s).testBit i=true→s.testBit i=true∨∃e∈ds,i=e∨(acc.getD e 0).testBit i=true
 | [],s,h=>.inl h
 | e::ds,s,h=>by
  rw[List.foldl_cons]at h
  rcases Y1 acc i ds _ h with h | ⟨e',he,h⟩
  ·simp only[Nat.testBit_or,Bool.or_eq_true,Nat.testBit_two_pow,decide_eq_true_eq]at h
   rcases h with (h | h) | h
   ·exact .inl h
   ·exact .inr ⟨e,by simp,.inl h.symm⟩
   ·exact .inr ⟨e,by simp,.inr h⟩
  ·exact .inr ⟨e',by simp[he],h⟩
theorem Y6 (D:Nat→List Nat):∀(ds:List (List Nat)) (acc:List Nat),(∀k x,ds[k]?=some x→D (acc.length+k)=x) →
  (∀j i,(acc.getD j 0).testBit i=true→∃d∈D j,i=d∨(acc.getD d 0).testBit i=true) →
  ∀j i,((xt ds acc).getD j 0).testBit i=true→∃d∈D j,i=d∨((xt ds acc).getD d 0).testBit i=true
 | [],acc,_,h=>h
 | x::r,acc,hD,h=>by
  unfold xt
  have hx:D acc.length=x:=by simpa using hD 0 x (by simp)
  have hget:∀d,d<acc.length→∀m,(acc++[m]).getD d 0=acc.getD d 0:=fun d hd m=>by
   rw[List.getD_eq_getElem?_getD,List.getD_eq_getElem?_getD,List.getElem?_append_left hd]
  have hno:∀d,¬d<acc.length→∀i,(acc.getD d 0).testBit i=true→False:=fun d hd i hb=>by
   rw[List.getD_eq_getElem?_getD,List.getElem?_eq_none (by omega)]at hb
   simp at hb
  have lift:∀m d i,(acc.getD d 0).testBit i=true→((acc++[m]).getD d 0).testBit i=true:=fun m d i hb=>by
   by_cases hd:d<acc.length
   ·rw[hget d hd];exact hb
   ·exact (hno d hd i hb).elim
  refine Y6 D r _ (fun k y hk=>?_) (fun j i hb=>?_)
  ·have:=hD (k+1) y (by simpa using hk)
   rw[←this]
   simp only[List.length_append,List.length_cons,List.length_nil]
   congr 1
   omega
  ·by_cases hj:j<acc.length
   ·rw[hget j hj]at hb
    obtain⟨d,hd,h1 | h1⟩:=h j i hb
    ·exact⟨d,hd,.inl h1⟩
    ·exact⟨d,hd,.inr (lift _ d i h1)⟩
   ·by_cases hj2:j=acc.length
    ·subst hj2
     rw[List.getD_eq_getElem?_getD,List.getElem?_append_right (Nat.le_refl _)]at hb
     simp only[Nat.sub_self,List.getElem?_cons_zero,Option.getD_some]at hb
     rcases Y1 acc i x 0 hb with h0 | ⟨e,he,h1⟩
     ·simp at h0
     ·rw[hx]
      refine⟨e,he,h1.imp id (lift _ e i)⟩
    ·rw[List.getD_eq_getElem?_getD,List.getElem?_eq_none (by simp;omega)]at hb
     simp at hb
def xX (ops:Array Oper)(j:Nat):List Nat:=((ops.toList[j]?).map wx).getD []
theorem zgq {ops:Array Oper}{i j:Nat}(h:bef (xt (ops.toList.map wx) []) i j=true):∃d∈xX ops j,i=d∨bef (xt (ops.toList.map wx) []) i d=true:=by
 refine Y6 (xX ops) _ [] (fun k x hk=>?_) (fun j i hb=>by simp at hb) j i h
 rw[List.getElem?_map]at hk
 show ((ops.toList[0+k]?).map wx).getD []=x
 rw[Nat.zero_add,hk];rfl
theorem Wn {ops:Array Oper}(h:Wo (ops.toList.map wx)=true){j d:Nat}(hd:d∈xX ops j):d<j:=by
 unfold xX at hd
 cases ho:ops.toList[j]? with
 | none=>rw[ho]at hd;simp at hd
 | some o =>
  rw[ho]at hd
  simp only[Option.map_some,Option.getD_some]at hd
  unfold Wo at h
  rw[List.all_eq_true]at h
  have h1:=h (wx o,j) (by rw[List.mem_zipIdx_iff_getElem?];rw[List.getElem?_map,ho];rfl)
  simp only[List.all_eq_true]at h1
  have:=h1 d hd
  rw[yU]at this
  exact of_decide_eq_true this
theorem wG {ops:Array Oper}(hb:Wo (ops.toList.map wx)=true){X:Nat→Prop}(hX:∀j,X j→∀d∈xX ops j,X d):∀(j:Nat),(∀d∈xX ops j,X d)→∀i,bef (xt (ops.toList.map wx) []) i j=true→X i:=by
 intro j
 induction j using Nat.strongRecOn with
 | _ j ih =>
  intro hj i h
  obtain⟨d,hd,h1 | h1⟩:=zgq h
  ·subst h1;exact hj i hd
  ·exact ih d (Wn hb hd) (hX d (hj d hd)) i h1
theorem Yl {l:List Op1}{e:Nat}:e∈zfc l↔∃o,l[e]?=some o∧isE o=true:=by
 unfold zfc
 simp only[List.mem_map,List.mem_filter,Prod.exists,List.mem_zipIdx_iff_getElem?]
 constructor
 ·rintro⟨o,i,⟨h1,h2⟩,rfl⟩;exact⟨o,h1,h2⟩
 ·rintro⟨o,h1,h2⟩;exact⟨o,e,⟨h1,h2⟩,rfl⟩
theorem W1 {l:List Op1}{b:List Nat}(h:YB l b=true){i j d:Nat}{o p:Op1}(hi:l[i]?=some o)(hd:o.dst.tm=some d)(hj:l[j]?=some p)(hn:d∈W2 p)(hij:i≠j) :
  (i<j∧bef b i j=true)∨(j<i∧bef b j i=true):=by
 unfold YB at h
 rw[List.all_eq_true]at h
 have h1:=h (o,i) (by rw[List.mem_zipIdx_iff_getElem?];exact hi)
 simp only[hd]at h1
 rw[List.all_eq_true]at h1
 have h2:=h1 (p,j) (by rw[List.mem_zipIdx_iff_getElem?];exact hj)
 simp only[zp,Bool.or_eq_true,decide_eq_true_eq,Bool.not_eq_true',List.contains_eq_mem,decide_eq_false_iff_not]at h2
 rcases h2 with (h2 | h2) | h2
 ·exact absurd h2 hij
 ·exact absurd hn h2
 ·rw[yU]at h2
  by_cases hlt:i<j
  ·simp only[hlt,decide_true,cond_true]at h2
   exact .inl ⟨hlt,h2⟩
  ·simp only[hlt,decide_false,cond_false]at h2
   exact .inr ⟨by omega,h2⟩
theorem zgl {l:List Op1}{b:List Nat}(h:zfd l b=true){i j:Nat}{o p:Op1}(hi:l[i]?=some o)(ho:isE o=true)(hj:l[j]?=some p)(hp:isE p=true)(hij:i<j):bef b i j=true:=by
 unfold zfd at h
 rw[List.all_eq_true]at h
 have h1:=h (o,i) (by rw[List.mem_zipIdx_iff_getElem?];exact hi)
 simp only[ho,Bool.not_true,Bool.false_or]at h1
 rw[List.all_eq_true]at h1
 have h2:=h1 (p,j) (by rw[List.mem_zipIdx_iff_getElem?];exact hj)
 simpa[hp,yU,hij]using h2
theorem zh5 {l:List Op1}{b:List Nat}{r p:Nat}{o:Op1}(hr:l[r]?=some o)(hm:o.op.mem=true)(hp:p=0∨∃e,e∈zfc l∧p=e+1)(hf:feas (zfc l) b r p=true)(hw:ownW (zfc l) r p=false):(r,p)∈zfn l b:=by
 unfold zfn
 simp only[List.mem_flatten,List.mem_map]
 refine⟨_,⟨(o,r),by rw[List.mem_zipIdx_iff_getElem?];exact hr,rfl⟩,?_⟩
 simp only[hm,cond_true,List.mem_map,List.mem_filter]
 refine⟨p,⟨?_,by simp[hf,hw]⟩,rfl⟩
 rcases hp with rfl | ⟨e,he,rfl⟩
 ·simp
 ·exact List.mem_cons_of_mem _ (List.mem_map.2 ⟨e,he,rfl⟩)
theorem zgN (ps t:Nat):(opT ps t).tm=some t:=by
 unfold opT
 cases per ps t<;>rfl
theorem zff (ps:Nat)(d:Option Tmp):(zh2 ps d).tm=d:=by
 cases d with
 | none=>rfl
 | some d=>simp only[zh2];cases per ps d<;>rfl
theorem ziP {β:Bt}{ps nt:Nat}{T:Tm}{a:Act}{x:Operand}{y:Opd}(hc:wU ps nt x=some y)(h:∀t,y.tm=some t→t<nt→VR β (T.at ps t) (a.tmps.getD t undef)):VR β (y.ev T) (a.eval x):=by
 cases x with
 | tmp t =>
  simp only[wU,yU]at hc
  by_cases ht:t<nt
  ·simp only[ht,decide_true,cond_true,Option.some.injEq]at hc
   subst hc
   exact h t (zgN ps t) ht
  ·simp[ht]at hc
 | const v =>
  simp only[wU,Option.map_eq_some_iff]at hc
  obtain⟨u,hu,rfl⟩:=hc
  exact zaM hu
 | global g=>cases hc
 | func f=>cases hc;exact .fn f .nil .nil
theorem zet {β:Bt}{ps nt:Nat}{T:Tm}{a:Act}:∀{xs:List Operand} {ys:List Opd},vP (wU ps nt) xs=some ys→(∀t,t∈ys.filterMap Opd.tm→t<nt→VR β (T.at ps t) (a.tmps.getD t undef))→VRs β (evs T ys) (xs.map a.eval)
 | [],ys,hc,h=>by simp[vP]at hc;subst hc;exact .nil
 | x::xs,ys,hc,h=>by
  unfold vP at hc
  split at hc
  ·rename_i y hy
   rw[Option.map_eq_some_iff]at hc
   obtain⟨zs,hz,rfl⟩:=hc
   refine .cons (ziP hy fun t ht=>h t ?_) (zet hz fun t ht=>h t ?_)
   ·rw[List.mem_filterMap];exact⟨y,by simp,ht⟩
   ·rw[List.mem_filterMap]at ht ⊢
    obtain⟨z,h1,h2⟩:=ht
    exact⟨z,by simp[h1],h2⟩
  ·cases hc
theorem zfP {β:Bt}{ps nt:Nat}{T:Tm}{a:Act}(hsz:nt≤a.tmps.size){ops:Array Oper}{o:Oper}{gd:Option (Opd×Bool)}(hc:vp ps ops nt o.guard=some gd)
  (h:∀t,gd.bind (·.1.tm)=some t→t<nt→VR β (T.at ps t) (a.tmps.getD t undef)) {r:Bool} (hw:ZH T gd=some r):Region.wanted o (yielded ops a.tmps)=r:=by
 unfold vp at hc
 split at hc
 ·rename_i hg
  cases hc
  cases hw
  simp[Region.wanted,hg]
 ·rename_i j w hg
  split at hc
  ·rename_i t ht
   rw[yU]at hc
   by_cases hlt:t<nt
   ·simp only[hlt,decide_true,cond_true,Option.some.injEq]at hc
    subst hc
    have h1:=h t (zgN ps t) hlt
    simp only[ZH]at hw
    have hsz:t<a.tmps.size:=Nat.lt_of_lt_of_le hlt hsz
    have hget:a.tmps[t]?=some (a.tmps.getD t undef):=by
     rw[Array.getD_eq_getD_getElem?,Array.getElem?_eq_getElem hsz];rfl
    have hy:yielded ops a.tmps j=match a.tmps.getD t undef with | .bool b=>some b | _=>none:=by
     simp only[yielded,ht,Option.bind_some,hget]
     cases a.tmps.getD t undef<;>rfl
    have h1':VR β ((opT ps t).ev T) (a.tmps.getD t undef):=h1
    clear h1
    generalize a.tmps.getD t undef=y at h1' hy
    simp only[Region.wanted,hg,hy]
    generalize (opT ps t).ev T=x at h1' hw
    cases h1'<;>first | (cases hw;done) | (simp only[Option.some.injEq]at hw;subst hw;simp;done) | (simp only[Option.some.injEq]at hw;subst hw;rfl)
   ·simp[hlt]at hc
  ·cases hc
theorem zbV {β:Bt}{x y:AV}(h:YD x y=true){v:Value}(hv:VR β y v):VR β x v:=by
 unfold YD at h
 split at h
 ·rw[Zy,beq_iff_eq]at h
  rw[h];exact hv
 ·exact hv
 ·exact hv
 ·cases hv
 ·rw[beq_iff_eq]at h
  rw[h];exact hv
 ·simp only[Bool.and_eq_true,YH,wR,beq_iff_eq]at h
  rw[h.1,h.2];exact hv
 ·exact hv
 ·simp only[Bool.and_eq_true,zp,decide_eq_true_eq]at h
  rw[h.1,h.2];exact hv
 ·simp only[Bool.and_eq_true,zp,decide_eq_true_eq]at h
  rw[h.1.1,h.1.2,h.2];exact hv
 ·simp only[Bool.and_eq_true,zp,decide_eq_true_eq]at h
  rw[h.1.1.1.1,h.1.1.1.2,h.1.1.2,h.1.2,h.2];exact hv
 ·exact hv
 ·simp only[zp,decide_eq_true_eq]at h
  rw[h];exact hv
 ·cases h
theorem zbU {β:Bt}:∀{x y:List AV} {v:List Value},zaR x y=true→VRs β y v→VRs β x v
 | [],[],v,_,hv=>hv
 | a::r,b::q,v,h,hv=>by
  simp only[zaR,Bool.and_eq_true]at h
  cases hv with
  | cons h1 h2=>exact .cons (zbV h.1 h1) (zbU h.2 h2)
 | [],_::_,v,h,_=>by cases h
 | _::_,[],v,h,_=>by cases h
theorem zfW {β:Bt}{x y:AV}(h:vk x y=true){v:Value}(hv:VR β y v):VR β x v:=by
 unfold vk at h
 split at h
 ·cases hv with
  | agg h1=>exact .agg (zbU h h1)
 ·exact zbV h hv
theorem zfT {o:AOp}(h:o.mem=false)(h1 h2:PM AB)(vs:List AV):vT o h1 vs=vT o h2 vs:=by
 cases o<;>simp only[AOp.mem,Bool.true_eq_false]at h<;>try rfl
 rename_i ng k
 cases k<;>first | rfl | (simp only[AOp.mem,Bool.true_eq_false]at h;done) | skip
 all_goals
  simp only[vT]
  unfold rEq
  split
  ·unfold eqV
   split<;>first | rfl | contradiction
  ·rfl
end
section
open Go.RowKit (Below)
section
variable {l:List Op1} {ss:Nat→St}
structure Path (l:List Op1)(ss:Nat→St):Prop where
 gr:∀i,i<l.length→Gr (ss i) (ss (i+1))
 non:∀i o,l[i]?=some o→isE o=false→ss (i+1)=ss i∨∃blk,blk.own=true∧ss (i+1)={ h:=(ss i).h.set (ss i).nx (some blk),nx:=(ss i).nx+1 }
 wf:(ss 0).wf
theorem zaW {call:Cll}(hgr:WQ call){ts:Nat→Tm}(h:Way call l ts ss)(hwf:(ss 0).wf):Path l ss:=by
 refine⟨fun i hi=>Xk hgr (h i l[i] (List.getElem?_eq_getElem hi)),fun i o ho hE=>?_,hwf⟩
 have hs:=h i o ho
 unfold wJ at hs
 split at hs
 ·split at hs
  ·rename_i v S1 he
   injection hs with hs
   injection hs with h1 h2
   rw[←h2]
   unfold isE at hE
   cases hcl:o.op.cl<;>simp only[hcl]at hE<;>simp only[wg,hcl]at he
   ·unfold opR at he
    split at he<;>cases he
    exact .inl rfl
   ·unfold opA at he
    split at he
    ·rename_i blk u hb
     cases he
     exact .inr ⟨blk,zbS hb,rfl⟩
    ·cases he
   ·cases hE
  ·cases hs
 ·injection hs with hs
  injection hs with h1 h2
  exact .inl h2.symm
 ·cases hs
variable (hp:Path l ss)
include hp
theorem Path.le {i j:Nat}(hij:i≤j)(hj:j≤l.length):Gr (ss i) (ss j):=by
 induction j with
 | zero=>have:i=0:=by omega
         subst this;exact Gr.refl _
 | succ j ih =>
  by_cases h:i=j+1
  ·subst h;exact Gr.refl _
  ·exact (ih (by omega) (by omega)).trans (hp.gr j (by omega))
theorem Path.nx {i j:Nat}(hij:i≤j)(hj:j≤l.length):(ss i).nx≤(ss j).nx:=(hp.le hij hj).nx
theorem Path.wfi {i:Nat}(hi:i≤l.length):(ss i).wf:=(hp.le (Nat.zero_le _) hi).wf hp.wf
theorem Path.keep {p q:Nat}(hpq:p≤q)(hq:q≤l.length)(hno:∀i o,p≤i→i<q→l[i]?=some o→isE o=false){n:Nat}(hn:n<(ss p).nx):(ss q).h.get n=(ss p).h.get n:=by
 induction q with
 | zero=>have:p=0:=by omega
         subst this;rfl
 | succ q ih =>
  by_cases h:p=q+1
  ·subst h;rfl
  ·have h1:=ih (by omega) (by omega) (fun i o h1 h2=>hno i o h1 (by omega))
   rw[←h1]
   have hnx:=hp.nx (i:=p) (j:=q) (by omega) (by omega)
   rcases hp.non q l[q] (List.getElem?_eq_getElem (by omega)) (hno q _ (by omega) (by omega) (List.getElem?_eq_getElem (by omega)))with e | ⟨blk,_,e⟩
   ·rw[e]
   ·rw[e]
    show ((ss q).h.set (ss q).nx (some blk)).get n=_
    rw[zP,if_neg (by omega)]
omit hp
def Vw (l:List Op1)(ss:Nat→St)(q n:Nat)(bl:AB):Prop :=
 (n<(ss q).nx∧(ss q).h.get n=some bl)∨∃i o,q≤i∧l[i]?=some o∧isE o=false∧(ss i).nx≤n∧n<(ss (i+1)).nx∧(ss (i+1)).h.get n=some bl
structure MInv (l:List Op1)(ss:Nat→St)(B0:Nat)(β0:Bt)(w0:World)(X:Nat→Prop)(q:Nat)(β:Bt)(w:World):Prop where
 qN:q≤l.length
 qE:∀e o,l[e]?=some o→isE o=true→(X e↔e<q)
 blk:∀n bl b o z,Vw l ss q n bl→β n=some (b,o,z)→BR β B0 w.heap b o z bl
 inj:∀n m bl bm b x y,Vw l ss q n bl→Vw l ss q m bm→bl.own=true→β n=some (b,x)→β m=some (b,y)→n=m
 lt:∀n b x,β n=some (b,x)→b<w.heap.size
 le:B0≤w.heap.size
 dom:∀n,β n≠none→β0 n≠none∨∃i,X i∧i<l.length∧(ss i).nx≤n∧n<(ss (i+1)).nx
 ext:Ext β0 β
 phn:∀i o n,l[i]?=some o→isE o=false→¬X i→i<q→(ss i).nx≤n→n<(ss (i+1)).nx→(ss q).h.get n=(ss (i+1)).h.get n
 bel:Below B0 w0 w
 fr:∀c,c<w0.heap.size→¬Own β0 (ss 0).h c→w.heap[c]?=w0.heap[c]?
 src:∀c n bl x,Vw l ss q n bl→bl.own=true→β n=some (c,x)→w0.heap.size≤c∨Own β0 (ss 0).h c
 ph:∀n,n<(ss 0).nx→β0 n=none→(ss q).h.get n=(ss 0).h.get n
variable {B0:Nat} {β0:Bt} {w0:World} {X:Nat→Prop} {q:Nat} {β:Bt} {w:World}
theorem MInv.low (hp:Path l ss)(h:MInv l ss B0 β0 w0 X q β w){n:Nat}(hn:n<(ss 0).nx)(h0:β0 n=none):β n=none:=by
 cases hb:β n with
 | none=>rfl
 | some x =>
  rcases h.dom n (by rw[hb];simp)with h1 | ⟨i,_,hi,h2,_⟩
  ·exact absurd h0 h1
  ·have:=hp.nx (Nat.zero_le i) (by omega)
   omega
theorem MInv.open (hp:Path l ss)(h:MInv l ss B0 β0 w0 X q β w)(hfree:Ww β0 (ss 0).nx (ss l.length).nx){j n:Nat}(hj:j<l.length)(hX:¬X j)(h1:(ss j).nx≤n)(h2:n<(ss (j+1)).nx):β n=none:=by
 have a1:=hp.nx (Nat.zero_le j) (by omega)
 have a2:=hp.nx (i:=j+1) (j:=l.length) (by omega) (Nat.le_refl _)
 have h0:β0 n=none:=hfree n (by omega) (by omega)
 cases hb:β n with
 | none=>rfl
 | some x =>
  rcases h.dom n (by rw[hb];simp)with h3 | ⟨i,hi,hil,h3,h4⟩
  ·exact absurd h0 h3
  ·exfalso
   rcases Nat.lt_trichotomy i j with hlt | heq | hgt
   ·have:=hp.nx (i:=i+1) (j:=j) (by omega) (by omega);omega
   ·subst heq;exact hX hi
   ·have:=hp.nx (i:=j+1) (j:=i) (by omega) (by omega);omega
theorem MInv.rel (hp:Path l ss)(h:MInv l ss B0 β0 w0 X q β w){p:Nat}(hpq:p≤q)(hno:∀i o,p≤i→i<q→l[i]?=some o→isE o=false):Rel β B0 (ss p).h w:=by
 have hv:∀n bl,(ss p).h.get n=some bl→Vw l ss q n bl:=fun n bl hg=>by
  have hn:=hp.wfi (Nat.le_trans hpq h.qN) n bl hg
  refine .inl ⟨Nat.lt_of_lt_of_le hn (hp.nx hpq h.qN),?_⟩
  rw[hp.keep hpq h.qN hno hn]
  exact hg
 exact⟨fun n bl b o z hg=>h.blk n bl b o z (hv n bl hg),fun n m bl bm b x y hn hm=>h.inj n m bl bm b x y (hv n bl hn) (hv m bm hm),h.lt,h.le⟩
theorem MInv.start (hp:Path l ss)(hR:Rel β0 B0 (ss 0).h w)(hfree:Ww β0 (ss 0).nx (ss l.length).nx){q:Nat}(hq:q≤l.length)(hno:∀i o,i<q→l[i]?=some o→isE o=false):MInv l ss B0 β0 w (fun _=>False) q β0 w:=by
 have hv:∀n bl x,Vw l ss q n bl→β0 n=some x→(ss 0).h.get n=some bl:=by
  intro n bl x hV hb
  have hlow:n<(ss l.length).nx→n<(ss 0).nx:=fun h=>by
   rcases Nat.lt_or_ge n (ss 0).nx with h' | h'
   ·exact h'
   ·rw[hfree n h' h]at hb;cases hb
  rcases hV with⟨h1,h2⟩ | ⟨i,o,h1,h2,h3,h4,h5,h6⟩
  ·have:=hlow (Nat.lt_of_lt_of_le h1 (hp.nx hq (Nat.le_refl _)))
   rw[hp.keep (Nat.zero_le q) hq (fun i o _ h=>hno i o h) this]at h2
   exact h2
  ·have hi:i<l.length:=(List.getElem?_eq_some_iff.1 h2).1
   have:=hlow (Nat.lt_of_lt_of_le h5 (hp.nx (by omega) (Nat.le_refl _)))
   have:=hp.nx (Nat.zero_le i) (by omega)
   omega
 refine⟨hq,?_,fun n bl b o z h1 h2=>hR.blk n bl b o z (hv n bl _ h1 h2) h2,fun n m bl bm b x y h1 h2 h3 h4 h5=>hR.inj n m bl bm b x y (hv n bl _ h1 h4) (hv m bm _ h2 h5) h3 h4 h5,hR.lt,hR.le,
  fun n h=>.inl h,Ext.refl _,?_,Below.refl _ _,fun _ _ _=>rfl,fun c n bl x h1 h2 h3=>.inr ⟨n,bl,x,hv n bl _ h1 h3,h2,h3⟩,?_⟩
 ·intro e o he hE
  refine⟨False.elim,fun h=>?_⟩
  rw[hno e o h he]at hE;cases hE
 ·intro i o n hi hE _ hiq h1 h2
  exact hp.keep (by omega) hq (fun k o' hk1 hk2=>hno k o' hk2) h2
 ·intro n hn _
  exact hp.keep (Nat.zero_le q) hq (fun i o _ h=>hno i o h) hn
theorem MInv.advR (h:MInv l ss B0 β0 w0 X q β w){j:Nat}{o:Op1}(hj:l[j]?=some o)(hE:isE o=false):MInv l ss B0 β0 w0 (fun i=>X i∨i=j) q β w where
 qN:=h.qN
 qE:=fun e o' he hE'=>by
  have:e≠j:=fun e'=>by subst e';rw[hj]at he;cases he;rw[hE]at hE';cases hE'
  rw[←h.qE e o' he hE']
  exact⟨fun hx=>hx.resolve_right this,.inl⟩
 blk:=h.blk
 inj:=h.inj
 lt:=h.lt
 le:=h.le
 dom:=fun n hn=>(h.dom n hn).imp id fun⟨i,h1,h2⟩=>⟨i,.inl h1,h2⟩
 ext:=h.ext
 phn:=fun i o' n h1 h2 h3=>h.phn i o' n h1 h2 fun hx=>h3 (.inl hx)
 bel:=h.bel
 fr:=h.fr
 src:=h.src
 ph:=h.ph
theorem MInv.advA (hp:Path l ss)(h:MInv l ss B0 β0 w0 X q β w)(hfree:Ww β0 (ss 0).nx (ss l.length).nx){j:Nat}{o:Op1}(hj:l[j]?=some o)(hE:isE o=false)(hX:¬X j){bl:AB}(hs:ss (j+1)={ h:=(ss j).h.set (ss j).nx (some bl),nx:=(ss j).nx+1 })
  (ho:bl.own=true) {x:Obj} {z:Nat} (hbr:BR (upd β (ss j).nx (w.heap.size,0,z)) B0 (w.alloc x).heap w.heap.size 0 z bl) :
  β (ss j).nx=none∧MInv l ss B0 β0 w0 (fun i=>X i∨i=j) q (upd β (ss j).nx (w.heap.size,0,z)) (w.alloc x):=by
 have hjl:j<l.length:=(List.getElem?_eq_some_iff.1 hj).1
 have hnx:(ss (j+1)).nx=(ss j).nx+1:=by rw[hs]
 have hf0:β (ss j).nx=none:=h.open hp hfree hjl hX (Nat.le_refl _) (by omega)
 have hext:=ZI (x:=(w.heap.size,0,z)) hf0
 have hg1:(ss (j+1)).h.get (ss j).nx=some bl:=by rw[hs];show ((ss j).h.set _ _).get _=_;rw[zP,if_pos rfl]
 have hheap:(w.alloc x).heap=w.heap.push x:=rfl
 have hoth:∀k,k<w.heap.size→(w.alloc x).heap[k]?=w.heap[k]?:=fun k hk=>by rw[hheap,Array.getElem?_push,if_neg (by omega)]
 have hsz:(w.alloc x).heap.size=w.heap.size+1:=by rw[hheap];simp
 have hvbl:∀bm,Vw l ss q (ss j).nx bm→bm=bl:=by
  intro bm hV
  rcases hV with⟨h1,h2⟩ | ⟨i,o',h1,h2,h3,h4,h5,h6⟩
  ·have hjq:j<q:=by
    rcases Nat.lt_or_ge j q with h' | h'
    ·exact h'
    ·have:=hp.nx h' (by omega);omega
   rw[h.phn j o _ hj hE hX hjq (Nat.le_refl _) (by omega),hg1]at h2
   exact (Option.some.inj h2).symm
  ·have hi:i<l.length:=(List.getElem?_eq_some_iff.1 h2).1
   rcases Nat.lt_trichotomy i j with hlt | heq | hgt
   ·have:=hp.nx (i:=i+1) (j:=j) (by omega) (by omega);omega
   ·subst heq;rw[hg1]at h6;exact (Option.some.inj h6).symm
   ·have:=hp.nx (i:=j+1) (j:=i) (by omega) (by omega);omega
 have hup:∀m,m≠(ss j).nx→upd β (ss j).nx (w.heap.size,0,z) m=β m:=fun m hm=>by simp only[upd,if_neg hm]
 refine⟨hf0,⟨h.qN,(h.advR hj hE).qE,?_,?_,?_,?_,?_,h.ext.trans hext,(h.advR hj hE).phn,?_,?_,?_,h.ph⟩⟩
 ·intro n bm b o' z' hV hb
  by_cases hn:n=(ss j).nx
  ·subst hn
   rw[xo]at hb
   cases hb
   rw[hvbl bm hV]
   exact hbr
  ·rw[hup n hn]at hb
   exact ((h.blk n bm b o' z' hV hb).mono hext).congr (hoth b (h.lt n b _ hb))
 ·intro n m bn bm b y y' hVn hVm hon hbn hbm
  by_cases hn:n=(ss j).nx<;>by_cases hm:m=(ss j).nx
  ·rw[hn,hm]
  ·subst hn
   rw[xo]at hbn
   rw[hup m hm]at hbm
   cases hbn
   have:=h.lt m _ _ hbm
   omega
  ·subst hm
   rw[xo]at hbm
   rw[hup n hn]at hbn
   cases hbm
   have:=h.lt n _ _ hbn
   omega
  ·rw[hup n hn]at hbn
   rw[hup m hm]at hbm
   exact h.inj n m bn bm b y y' hVn hVm hon hbn hbm
 ·intro n b y hb
  by_cases hn:n=(ss j).nx
  ·subst hn;rw[xo]at hb;cases hb;omega
  ·rw[hup n hn]at hb;have:=h.lt n b y hb;omega
 ·have:=h.le;omega
 ·intro n hn
  by_cases e:n=(ss j).nx
  ·subst e;exact .inr ⟨j,.inr rfl,hjl,Nat.le_refl _,by omega⟩
  ·rw[hup n e]at hn
   exact (h.dom n hn).imp id fun⟨i,h1,h2⟩=>⟨i,.inl h1,h2⟩
 ·exact h.bel.trans ⟨rfl,rfl,rfl,by omega,fun k hk=>hoth k (Nat.lt_of_lt_of_le hk h.le)⟩
 ·intro c hc hn
  have:=h.bel.size
  rw[hoth c (by omega),h.fr c hc hn]
 ·intro c n bm y hV hon hb
  by_cases hn:n=(ss j).nx
  ·subst hn;rw[xo]at hb;cases hb;exact .inl h.bel.size
  ·rw[hup n hn]at hb;exact h.src c n bm y hV hon hb
theorem VX (l:List Op1):∀(k p:Nat),p+k=l.length→∃q,p≤q∧q≤l.length∧(∀i o,p≤i→i<q→l[i]?=some o→isE o=false)∧(q<l.length→∃o,l[q]?=some o∧isE o=true)
 | 0,p,h=>⟨p,Nat.le_refl _,by omega,fun i o h1 h2 _=>by omega,fun h'=>by omega⟩
 | k+1,p,h=>by
  cases hE:isE (l[p]'(by omega))with
  | true=>exact⟨p,Nat.le_refl _,by omega,fun i o h1 h2 _=>by omega,fun _=>⟨_,List.getElem?_eq_getElem (by omega),hE⟩⟩
  | false =>
   obtain⟨q,h1,h2,h3,h4⟩:=VX l k (p+1) (by omega)
   refine⟨q,by omega,h2,fun i o hi1 hi2 ho=>?_,h4⟩
   by_cases e:i=p
   ·subst e
    rw[List.getElem?_eq_getElem (by omega)]at ho
    cases ho
    exact hE
   ·exact h3 i o (by omega) hi2 ho
theorem MInv.advE (hp:Path l ss)(h:MInv l ss B0 β0 w0 X q β w)(hfree:Ww β0 (ss 0).nx (ss l.length).nx){o:Op1}(hq:l[q]?=some o)(hE:isE o=true){γ:Bt}{w':World}(hst:Stp B0 β (ss q) w γ (ss (q+1)) w')
  {r:Nat} (hr1:q+1≤r) (hr2:r≤l.length) (hno:∀i o,q+1≤i→i<r→l[i]?=some o→isE o=false):MInv l ss B0 β0 w0 (fun i=>X i∨i=q) r γ w':=by
 have hql:q<l.length:=(List.getElem?_eq_some_iff.1 hq).1
 have hXq:¬X q:=fun hx=>by have:=(h.qE q o hq hE).1 hx;omega
 have hwfq:=hp.wfi (i:=q) (by omega)
 have hwf1:=hp.wfi (i:=q+1) (by omega)
 -- a view later is the memory after the effect,or a block made ahead of its time
 have early:∀n bl,(∃i o,q+1≤i∧l[i]?=some o∧isE o=false∧(ss i).nx≤n∧n<(ss (i+1)).nx∧(ss (i+1)).h.get n=some bl)→(ss (q+1)).nx≤n∧Vw l ss q n bl:=by
  rintro n bl ⟨i,o',h1,h2,h3,h4,h5,h6⟩
  have hi:i<l.length:=(List.getElem?_eq_some_iff.1 h2).1
  have:=hp.nx h1 (by omega)
  exact⟨by omega,.inr ⟨i,o',by omega,h2,h3,h4,h5,h6⟩⟩
 have hv:∀n bl,Vw l ss r n bl→(n<(ss (q+1)).nx∧(ss (q+1)).h.get n=some bl)∨((ss (q+1)).nx≤n∧Vw l ss q n bl):=by
  rintro n bl (⟨h1,h2⟩ | ⟨i,o',h1,h2,h3,h4,h5,h6⟩)
  ·rcases Nat.lt_or_ge n (ss (q+1)).nx with h' | h'
   ·rw[hp.keep hr1 hr2 hno h']at h2
    exact .inl ⟨h',h2⟩
   ·-- made between the two effects
    have:∀k,q+1≤k→k≤r→n<(ss k).nx→∃i,q+1≤i∧i<r∧(ss i).nx≤n∧n<(ss (i+1)).nx:=by
     intro k
     induction k with
     | zero=>intro h1;omega
     | succ k ih =>
      intro h1 h2 h3
      by_cases e:k=q
      ·subst e;omega
      ·rcases Nat.lt_or_ge n (ss k).nx with h4 | h4
       ·exact ih (by omega) (by omega) h4
       ·exact⟨k,by omega,by omega,h4,h3⟩
    obtain⟨i,hi1,hi2,hi3,hi4⟩:=this r hr1 (Nat.le_refl _) h1
    refine .inr (early n bl ⟨i,l[i],hi1,List.getElem?_eq_getElem (by omega),hno i _ hi1 hi2 (List.getElem?_eq_getElem (by omega)),hi3,hi4,?_⟩)
    rw[←hp.keep (p:=i+1) (by omega) hr2 (fun k o' hk1 hk2=>hno k o' (by omega) hk2) hi4]
    exact h2
  ·exact .inr (early n bl ⟨i,o',by omega,h2,h3,h4,h5,h6⟩)
 -- names beyond the effect's own are as they were
 have hold:∀n x,(ss (q+1)).nx≤n→γ n=some x→β n=some x:=by
  intro n x hn hg
  cases hb:β n with
  | none=>have:=hst.dom n hb (by rw[hg];simp);omega
  | some y=>rw[hst.ext n y hb]at hg;exact hg
 have hnxq:=hp.nx (i:=q) (j:=q+1) (by omega) (by omega)
 have notown:∀n bl b x,(ss (q+1)).nx≤n→Vw l ss q n bl→β n=some (b,x)→¬Own β (ss q).h b:=by
  rintro n bl b x hn hV hb ⟨m,bm,y,hm,hom,hbm⟩
  have hmn:=hwfq m bm hm
  have:=h.inj m n bm bl b y x (.inl ⟨hmn,hm⟩) hV hom hbm hb
  omega
 have hheap:∀n bl b x,(ss (q+1)).nx≤n→Vw l ss q n bl→β n=some (b,x)→w'.heap[b]?=w.heap[b]?:=fun n bl b x hn hV hb=>hst.fr b (h.lt n b x hb) (notown n bl b x hn hV hb)
 have mix:∀n m bl bm b x y,(ss (q+1)).nx≤n→Vw l ss q n bl→β n=some (b,x)→bl.own=true→(ss (q+1)).h.get m=some bm→γ m=some (b,y)→False:=by
  intro n m bl bm b x y hn hV hb ho hm hbm
  have hmn:=hwf1 m bm hm
  cases hom:bm.own with
  | true =>
   rcases hst.src b ⟨m,bm,y,hm,hom,hbm⟩with h1 | h1
   ·have:=h.lt n b x hb;omega
   ·exact notown n bl b x hn hV hb h1
  | false =>
   have hm':=(hp.gr q hql).ro m bm hm hom
   have hmq:=hwfq m bm hm'
   have hbm':β m=some (b,y):=by
    cases hb':β m with
    | none=>have:=hst.dom m hb' (by rw[hbm];simp);omega
    | some u=>rw[hst.ext m u hb']at hbm;exact hbm
   have:=h.inj n m bl bm b x y hV (.inl ⟨hmq,hm'⟩) ho hb hbm'
   omega
 refine⟨hr2,?_,?_,?_,hst.rel.lt,hst.rel.le,?_,h.ext.trans hst.ext,?_,h.bel.trans hst.bel,?_,?_,?_⟩
 ·intro e o' he hE'
  constructor
  ·rintro (hx | rfl)
   ·have:=(h.qE e o' he hE').1 hx;omega
   ·omega
  ·intro her
   rcases Nat.lt_trichotomy e q with h1 | h1 | h1
   ·exact .inl ((h.qE e o' he hE').2 h1)
   ·exact .inr h1
   ·rw[hno e o' h1 her he]at hE';cases hE'
 ·intro n bl b o' z hV hb
  rcases hv n bl hV with⟨h1,h2⟩ | ⟨h1,h2⟩
  ·exact hst.rel.blk n bl b o' z h2 hb
  ·have hb':=hold n _ h1 hb
   exact ((h.blk n bl b o' z h2 hb').mono hst.ext).congr (hheap n bl b _ h1 h2 hb')
 ·intro n m bn bm b x y hVn hVm hon hbn hbm
  rcases hv n bn hVn with⟨h1,h2⟩ | ⟨h1,h2⟩<;>rcases hv m bm hVm with⟨h3,h4⟩ | ⟨h3,h4⟩
  ·exact hst.rel.inj n m bn bm b x y h2 h4 hon hbn hbm
  ·exfalso
   have hbm':=hold m _ h3 hbm
   rcases hst.src b ⟨n,bn,x,h2,hon,hbn⟩with h5 | h5
   ·have:=h.lt m b y hbm';omega
   ·exact notown m bm b y h3 h4 hbm' h5
  ·exact (mix n m bn bm b x y h1 h2 (hold n _ h1 hbn) hon h4 hbm).elim
  ·exact h.inj n m bn bm b x y h2 h4 hon (hold n _ h1 hbn) (hold m _ h3 hbm)
 ·intro n hn
  cases hb:β n with
  | none =>
   have:=hst.dom n hb hn
   exact .inr ⟨q,.inr rfl,hql,this.1,this.2⟩
  | some x=>exact (h.dom n (by rw[hb];simp)).imp id fun⟨i,h1,h2⟩=>⟨i,.inl h1,h2⟩
 ·intro i o' n hi hiE hiX hir h1 h2
  have hil:i<l.length:=(List.getElem?_eq_some_iff.1 hi).1
  have hne:i≠q:=fun e=>hiX (.inr e)
  rcases Nat.lt_or_ge i q with hlt | hge
  ·have hnq:n<(ss q).nx:=Nat.lt_of_lt_of_le h2 (hp.nx (by omega) (by omega))
   have hb:β n=none:=h.open hp hfree hil (fun hx=>hiX (.inl hx)) h1 h2
   rw[hp.keep hr1 hr2 hno (by omega),hst.ph n hnq hb]
   exact h.phn i o' n hi hiE (fun hx=>hiX (.inl hx)) hlt h1 h2
  ·exact hp.keep (by omega) hr2 (fun k o' hk1 hk2=>hno k o' (by omega) hk2) h2
 ·intro c hc hn
  have:=h.bel.size
  rw[hst.fr c (by omega) ?_,h.fr c hc hn]
  rintro⟨m,bm,y,hm,hom,hbm⟩
  rcases h.src c m bm y (.inl ⟨hwfq m bm hm,hm⟩) hom hbm with h1 | h1
  ·omega
  ·exact hn h1
 ·intro c n bl x hV hon hb
  rcases hv n bl hV with⟨h1,h2⟩ | ⟨h1,h2⟩
  ·rcases hst.src c ⟨n,bl,x,h2,hon,hb⟩with h3 | ⟨m,bm,y,hm,hom,hbm⟩
   ·exact .inl (Nat.le_trans h.bel.size h3)
   ·exact h.src c m bm y (.inl ⟨hwfq m bm hm,hm⟩) hom hbm
  ·exact h.src c n bl x h2 hon (hold n _ h1 hb)
 ·intro n hn h0
  have hb:=h.low hp hn h0
  have:=hp.nx (Nat.zero_le q) (by omega)
  rw[hp.keep hr1 hr2 hno (by omega),hst.ph n (by omega) hb,h.ph n hn h0]
theorem MInv.done (hp:Path l ss)(h:MInv l ss B0 β0 w0 X q β w)(hfree:Ww β0 (ss 0).nx (ss l.length).nx)(hq:q=l.length):Stp B0 β0 (ss 0) w0 β (ss l.length) w:=by
 subst hq
 have hv:∀n bl,(ss l.length).h.get n=some bl→Vw l ss l.length n bl:=fun n bl hg=>.inl ⟨hp.wfi (Nat.le_refl _) n bl hg,hg⟩
 refine⟨h.ext,?_,h.rel hp (Nat.le_refl _) (fun i o h1 h2=>by omega),h.bel,h.fr,?_,h.ph,hp.nx (Nat.zero_le _) (Nat.le_refl _)⟩
 ·intro n h0 hn
  rcases h.dom n hn with h1 | ⟨i,_,hi,h2,h3⟩
  ·exact absurd h0 h1
  ·have a1:=hp.nx (Nat.zero_le i) (by omega)
   have a2:=hp.nx (i:=i+1) (j:=l.length) (by omega) (Nat.le_refl _)
   exact⟨by omega,by omega⟩
 ·rintro c ⟨n,bl,x,hg,ho,hb⟩
  exact h.src c n bl x (hv n bl hg) ho hb
end
end
section
open Go.RowKit (Below)
theorem zd6 {call:Cll}{o:Op1}{T T':Tm}{S S':St}(h:wJ call o T S=some (T',S')):∃v,T'=T.put v o.dst:=by
 unfold wJ at h
 split at h
 ·split at h
  ·cases h;exact⟨_,rfl⟩
  ·cases h
 ·cases h;exact⟨_,rfl⟩
 ·cases h
section
variable {P:Program} {ps nt:Nat} {ops:Array Oper} {l:List Op1} {call:Cll} {ts:Nat→Tm} {ss:Nat→St}
structure TmInv (l:List Op1)(ts:Nat→Tm)(ps nt:Nat)(X:Nat→Prop)(β:Bt)(a:Act):Prop where
 sz:nt≤a.tmps.size
 df:a.defers=[]
 tm:∀t,t<nt→∀j,j≤l.length→(∀i o,l[i]?=some o→o.dst.tm=some t→(X i↔i<j))→VR β ((ts j).at ps t) (a.tmps.getD t undef)
theorem ziU (hl:vP (Ug P ps ops nt) ops.toList=some l)(hw:Way call l ts ss){t p q:Nat}(hpq:p≤q)(hq:q≤l.length)(hno:∀i o,p≤i→i<q→l[i]?=some o→o.dst.tm≠some t):(ts q).at ps t=(ts p).at ps t:=by
 induction q with
 | zero=>have:p=0:=by omega
         subst this;rfl
 | succ q ih =>
  by_cases h:p=q+1
  ·subst h;rfl
  ·have h1:=ih (by omega) (by omega) (fun i o h1 h2=>hno i o h1 (by omega))
   rw[←h1]
   have hg:l[q]?=some l[q]:=List.getElem?_eq_getElem (by omega)
   obtain⟨v,hv⟩:=zd6 (hw q _ hg)
   have hlen:=vf hl
   have hoq:ops.toList[q]?=some ops.toList[q]:=List.getElem?_eq_getElem (by omega)
   obtain⟨o1,hc,ho1⟩:=vz hl q _ hoq
   rw[hg]at ho1
   cases ho1
   obtain⟨xs,_,_,_,h4,_⟩:=Zx hc
   have hn:=hno q _ (by omega) (by omega) hg
   rw[hv,h4]
   rw[h4,zff]at hn
   cases hd:(ops.toList[q]).dst with
   | none=>rfl
   | some d =>
    rw[hd]at hn
    rw[Wr,if_neg (fun e=>hn (by rw[e]))]
variable {b:List Nat}
theorem TmInv.put (hl:vP (Ug P ps ops nt) ops.toList=some l)(hw:Way call l ts ss)(hback:Wo (ops.toList.map wx)=true)(htemps:YB l (xt (ops.toList.map wx) [])=true)
  {X:Nat→Prop} (hcl:∀i,X i→∀d∈xX ops i,X d) {β γ:Bt} {a:Act} (h:TmInv l ts ps nt X β a) (hext:Ext β γ) {j:Nat} {o1:Op1} (hj:l[j]?=some o1) (hX:¬X j) {d:Option Tmp} (hd:o1.dst=zh2 ps d) (hdn:∀x,d=some x→x<nt)
  {v:AV} {v':Value} (hv:VR γ v v') (hts:ts (j+1)=(ts j).put v o1.dst):TmInv l ts ps nt (fun i=>X i∨i=j) γ (a.put d v'):=by
 have hdt:o1.dst.tm=d:=by rw[hd,zff]
 refine⟨?_,?_,?_⟩
 ·cases d<;>simp[Act.put,h.sz]
 ·cases d<;>exact h.df
 ·intro t ht k hk hc
  by_cases e:d=some t
  ·subst e
   have hjk:j<k:=(hc j o1 hj hdt).1 (.inr rfl)
   have hno:∀i o,j+1≤i→i<k→l[i]?=some o→o.dst.tm≠some t:=by
    intro i o hi1 hi2 hi hit
    have hXi:X i:=((hc i o hi hit).2 hi2).resolve_right (by omega)
    rcases W1 htemps hi hit hj (by unfold W2;rw[hdt];simp) (by omega)with⟨h1,_⟩ | ⟨_,h2⟩
    ·omega
    ·exact hX (wG hback hcl i (hcl i hXi) j h2)
   have hjl:j<l.length:=(List.getElem?_eq_some_iff.1 hj).1
   rw[ziU hl hw hjk hk hno,hts,hd,Wr,if_pos rfl]
   have hs:=h.sz
   have:(a.put (some t) v').tmps.getD t undef=v':=by
    simp only[Act.put]
    rw[Array.getD_eq_getD_getElem?,Array.getElem?_setIfInBounds_self_of_lt (by omega)];rfl
   rw[this]
   exact hv
  ·have h1:=h.tm t ht k hk (fun i o hi hit=>by
    have hij:i≠j:=fun e'=>by subst e';rw[hj]at hi;cases hi;rw[hdt]at hit;exact e hit
    rw[←hc i o hi hit]
    exact⟨.inl,fun hx=>hx.resolve_right hij⟩)
   have:(a.put d v').tmps.getD t undef=a.tmps.getD t undef:=by
    cases d with
    | none=>rfl
    | some d =>
     simp only[Act.put]
     rw[Array.getD_eq_getD_getElem?,Array.getD_eq_getD_getElem?,Array.getElem?_setIfInBounds_ne (fun h=>e (by rw[h]))]
   rw[this]
   exact h1.mono hext
theorem zb4 (l:List Op1):∀q,q≤l.length→∃p,p≤q∧(p=0∨∃e,e∈zfc l∧p=e+1)∧∀i o,p≤i→i<q→l[i]?=some o→isE o=false
 | 0,_=>⟨0,Nat.le_refl _,.inl rfl,fun i o h1 h2 _=>by omega⟩
 | q+1,h=>by
  cases hE:isE (l[q]'(by omega))with
  | true=>exact⟨q+1,Nat.le_refl _,.inr ⟨q,Yl.2 ⟨_,List.getElem?_eq_getElem (by omega),hE⟩,rfl⟩,fun i o h1 h2 _=>by omega⟩
  | false =>
   obtain⟨p,h1,h2,h3⟩:=zb4 l q (by omega)
   refine⟨p,by omega,h2,fun i o hi1 hi2 ho=>?_⟩
   by_cases e:i=q
   ·subst e
    rw[List.getElem?_eq_getElem (by omega)]at ho
    cases ho
    exact hE
   ·exact h3 i o hi1 (by omega) ho
structure Open (P:Program)(B0 ps nt:Nat)(ops:Array Oper)(l:List Op1)(call:Cll)(ts:Nat→Tm)(ss:Nat→St)(tr:List (Tm×St)):Prop where
 hl:vP (Ug P ps ops nt) ops.toList=some l
 way:Way call l ts ss
 states:∀i,i≤l.length→tr[i]?=some (ts i,ss i)
 path:Path l ss
 back:Wo (ops.toList.map wx)=true
 temps:YB l (xt (ops.toList.map wx) [])=true
 eff:zfd l (xt (ops.toList.map wx) [])=true
 chk:∀c∈zfn l (xt (ops.toList.map wx) []),YN l tr c=true
 call:Y8 P B0 call
variable {tr:List (Tm×St)} {B0:Nat} {β0:Bt} {w0:World}
theorem zjr (H:Open P B0 ps nt ops l call ts ss tr)(hfree:Ww β0 (ss 0).nx (ss l.length).nx){X:Nat→Prop}{q:Nat}{β:Bt}{a:Act}{w:World}(hM:MInv l ss B0 β0 w0 X q β w)(hqb:q<l.length→∃o,l[q]?=some o∧isE o=true)
  (hT:TmInv l ts ps nt X β a) (hcl:∀i,X i→∀d∈xX ops i,X d) {j:Nat} (hj:j<ops.size) (hX:¬X j) (hpre:∀d∈xX ops j,X d) {K:Act→World→Prop} {Q:Exit→Act→World→Prop}
  (h:∀q' γ a' w',MInv l ss B0 β0 w0 (fun i=>X i∨i=j) q' γ w'→(q'<l.length→∃o,l[q']?=some o∧isE o=true)→TmInv l ts ps nt (fun i=>X i∨i=j) γ a'→K a' w'):wpOp P ops Q j K a w:=by
 have hlen:ops.size=l.length:=by simpa using vf H.hl
 have hp:=H.path
 have ho:ops[j]?=some ops[j]:=Array.getElem?_eq_getElem hj
 obtain⟨o1,hc,ho1⟩:=vz H.hl j ops[j] (by simp)
 obtain⟨xs,h1,h2,h3,h4,h5⟩:=Zx hc
 have hstep:=H.way j o1 ho1
 have rd:∀t,t∈W2 o1→t<nt→VR β ((ts j).at ps t) (a.tmps.getD t undef):=by
  intro t htm ht
  refine hT.tm t ht j (by omega) fun i o' hi hit=>?_
  by_cases e:i=j
  ·subst e;exact⟨fun hx=>absurd hx hX,fun hx=>absurd hx (Nat.lt_irrefl _)⟩
  ·rcases W1 H.temps hi hit ho1 htm e with⟨h6,h7⟩ | ⟨h6,h7⟩
   ·exact⟨fun _=>h6,fun _=>wG H.back hcl j hpre i h7⟩
   ·exact⟨fun hx=>absurd (wG H.back hcl i (hcl i hx) j h7) hX,fun hx=>by omega⟩
 have hvs:VRs β (evs (ts j) o1.args) (xs.map a.eval):=zet h3 fun t htm ht=>rd t (by unfold W2;simp only[List.mem_append];exact .inr htm) ht
 have hwant:∀{r},ZH (ts j) o1.gd=some r→Region.wanted ops[j] (yielded ops a.tmps)=r:=fun hw =>
  zfP hT.sz h2 (fun t htm ht=>rd t (by unfold W2;simp only[List.mem_append];exact .inl (.inr (by rw[htm];simp))) ht) hw
 have fin:∀(v:AV) (v':Value) (γ:Bt) (q':Nat) (w':World),ts (j+1)=(ts j).put v o1.dst→VR γ v v'→Ext β γ→MInv l ss B0 β0 w0 (fun i=>X i∨i=j) q' γ w'→(q'<l.length→∃o,l[q']?=some o∧isE o=true)→K (a.put ops[j].dst v') w':=by
  intro v v' γ q' w' g1 g2 g3 g4 g5
  exact h q' γ _ w' g4 g5 (hT.put H.hl H.way H.back H.temps hcl g3 ho1 hX h4 h5 g2 g1)
 -- effects come in their order
 have hjq:isE o1=true→j=q:=by
  intro hE
  rcases Nat.lt_trichotomy j q with hlt | heq | hgt
  ·exact absurd ((hM.qE j o1 ho1 hE).2 hlt) hX
  ·exact heq
  ·obtain⟨oq,hoq,hEq⟩:=hqb (by omega)
   have:=wG H.back hcl j hpre q (zgl H.eff hoq hEq ho1 hE hgt)
   have:=(hM.qE q oq hoq hEq).1 this
   omega
 have effst:isE o1=true→∀γ v v' w',ts (j+1)=(ts j).put v o1.dst→VR γ v v'→Stp B0 β (ss q) w γ (ss (q+1)) w'→K (a.put ops[j].dst v') w':=by
  intro hE γ v v' w' g1 g2 g3
  have e:=hjq hE
  obtain⟨r,hr1,hr2,hr3,hr4⟩:=VX l (l.length-(q+1)) (q+1) (by omega)
  refine fin v v' γ r w' g1 g2 g3.ext ?_ hr4
  rw[e]
  exact hM.advE hp hfree (by rw[←e];exact ho1) hE g3 hr1 hr2 hr3
 unfold wpOp
 simp only[ho]
 unfold wJ at hstep
 split at hstep
 ·rename_i hw
  rw[hwant hw,if_pos rfl]
  refine .inl ?_
  split at hstep
  ·rename_i v S1 he
   injection hstep with hstep
   injection hstep with e1 e2
   subst e2
   have hts:=e1.symm
   cases hcl':o1.op.cl
   ·-- reads
    have hE:isE o1=false:=by unfold isE;rw[hcl']
    simp only[wg,hcl',opR]at he
    cases hr:vT o1.op (ss j).h (evs (ts j) o1.args)with
    | none=>rw[hr]at he;cases he
    | some u =>
     rw[hr]at he
     injection he with he
     injection he with e3 e4
     subst e3
     have hread:∃p u',Rel β B0 (ss p).h w∧vT o1.op (ss p).h (evs (ts j) o1.args)=some u'∧∀x,VR β u' x→VR β u x:=by
      cases hm:o1.op.mem with
      | false=>exact⟨q,u,hM.rel hp (Nat.le_refl _) (fun i o h1 h2=>by omega),by rw[←hr];exact zfT hm _ _ _,fun x hx=>hx⟩
      | true =>
       obtain⟨p,hp1,hp2,hp3⟩:=zb4 l q hM.qN
       have hpe:∀e,e∈zfc l→e<q→e<p:=fun e hem heq=>by
        rcases Nat.lt_or_ge e p with h' | h'
        ·exact h'
        ·obtain⟨oe,hoe,hEe⟩:=Yl.1 hem
         rw[hp3 e oe h' heq hoe]at hEe;cases hEe
       cases how:ownW (zfc l) j p with
       | true =>
        unfold ownW at how
        rw[List.all_eq_true]at how
        have how':∀e,e∈zfc l→(e<p↔e<j):=fun e hem=>by
         have:=how e hem
         rw[yU,yU,beq_iff_eq,decide_eq_decide]at this
         exact this
        have hjq':j≤q:=by
         rcases Nat.lt_or_ge q j with h' | h'
         ·obtain⟨oq,hoq,hEq⟩:=hqb (by omega)
          have:=(how' q (Yl.2 ⟨oq,hoq,hEq⟩)).2 h'
          omega
         ·exact h'
        refine⟨j,u,hM.rel hp hjq' (fun i o hi1 hi2 hi=>?_),hr,fun x hx=>hx⟩
        cases hEi:isE o with
        | false=>rfl
        | true =>
         have hem:=Yl.2 ⟨o,hi,hEi⟩
         have:=(how' i hem).1 (hpe i hem hi2)
         omega
       | false =>
        have hfe:feas (zfc l) (xt (ops.toList.map wx) []) j p=true:=by
         unfold feas
         rw[List.all_eq_true]
         intro e hem
         obtain⟨oe,hoe,hEe⟩:=Yl.1 hem
         simp only[Bool.and_eq_true,Bool.or_eq_true,Bool.not_eq_true',yU,zq,decide_eq_true_eq]
         constructor
         ·cases hb1:bef (xt (ops.toList.map wx) []) e j with
          | false=>exact .inl rfl
          | true=>exact .inr (hpe e hem ((hM.qE e oe hoe hEe).1 (wG H.back hcl j hpre e hb1)))
         ·cases hb1:bef (xt (ops.toList.map wx) []) j e with
          | false=>exact .inl rfl
          | true =>
           refine .inr ?_
           rcases Nat.lt_or_ge e p with h' | h'
           ·have hXe:=(hM.qE e oe hoe hEe).2 (by omega)
            exact absurd (wG H.back hcl e (hcl e hXe) j hb1) hX
           ·exact h'
        have hag:=H.chk _ (zh5 ho1 hm hp2 hfe how)
        unfold YN at hag
        rw[ho1,H.states j (by omega),H.states p (by have:=hM.qN;omega)]at hag
        simp only[hw,hr]at hag
        split at hag
        ·rename_i u1 u' hu1 hu2
         injection hu1 with hu1
         subst hu1
         exact⟨p,u',hM.rel hp hp1 hp3,hu2,fun x hx=>zfW hag hx⟩
        ·cases hag
     obtain⟨p,u',g1,g2,g3⟩:=hread
     obtain⟨v',g4,g5⟩:=zfE a.eval g1 h1 hvs g2
     unfold Oper.wp
     rw[g4,Oper.upon_value]
     exact fin u v' β q w hts (g3 v' g5) (Ext.refl β) (hM.advR ho1 hE) hqb
   ·-- makes a block
    have hE:isE o1=false:=by unfold isE;rw[hcl']
    simp only[wg,hcl',opA]at he
    cases hr:zdH o1.op (ss j).nx (evs (ts j) o1.args)with
    | none=>rw[hr]at he;cases he
    | some pr =>
     obtain⟨blk,u⟩:=pr
     rw[hr]at he
     injection he with he
     injection he with e3 e4
     subst e3
     obtain⟨x,v',z,g1,g2,g3⟩:=zfG (P:=P) (w:=w) a.eval h1 hvs hr hM.le
     unfold Oper.wp
     rw[g1,Oper.upon_value]
     have hf0:β (ss j).nx=none:=hM.open hp hfree (by omega) hX (Nat.le_refl _) (by rw[←e4];exact Nat.lt_succ_self _)
     obtain⟨g4,g5⟩:=g3 _ (ZI hf0) (xo β (ss j).nx (w.heap.size,0,z))
     obtain⟨_,g6⟩:=hM.advA hp hfree ho1 hE hX e4.symm g2 g5
     exact fin u v' _ q _ hts g4 (ZI hf0) g6 hqb
   ·-- an effect
    have hE:isE o1=true:=by unfold isE;rw[hcl']
    have e:=hjq hE
    subst e
    exact zca (hp.wfi (by omega)) (hM.rel hp (Nat.le_refl _) (fun i o h1 h2=>by omega)) h1 hvs H.call he
     (fun n hn1 hn2=>hM.open hp hfree (by omega) hX hn1 hn2) fun γ v' w' g1 g2=>effst hE γ v v' w' hts g1 g2
  ·cases hstep
 ·rename_i hw
  rw[hwant hw,if_neg (by simp)]
  injection hstep with hstep
  injection hstep with e1 e2
  cases hE:isE o1 with
  | true =>
   have e:=hjq hE
   subst e
   refine effst hE β (.tup []) undef w e1.symm (.tup .nil) ?_
   rw[←e2]
   exact Stp.refl (hM.rel hp (Nat.le_refl _) (fun i o h1 h2=>by omega))
  | false=>exact fin (.tup []) undef β q w e1.symm (.tup .nil) (Ext.refl β) (hM.advR ho1 hE) hqb
 ·cases hstep
theorem XL {listed:Array Bool}{j:Nat}:j∈Region.ready .any ops listed↔listed.getD j true=false∧j<ops.size∧∀d∈xX ops j,listed.getD d false=true:=by
 rw[mem_ready]
 constructor
 ·rintro⟨h1,o,ho,h2⟩
  refine⟨h1,(Array.getElem?_eq_some_iff.1 ho).1,fun d hd=>?_⟩
  unfold xX at hd
  rw[Array.getElem?_toList,ho]at hd
  simp only[Option.map_some,Option.getD_some,wx,List.mem_map,List.mem_filter,Array.mem_toList_iff]at hd
  obtain⟨e,⟨he1,he2⟩,rfl⟩:=hd
  exact h2 e he1 he2
 ·rintro⟨h1,h2,h3⟩
  refine⟨h1,ops[j],Array.getElem?_eq_getElem h2,fun e he hb=>h3 _ ?_⟩
  unfold xX
  rw[Array.getElem?_toList,Array.getElem?_eq_getElem h2]
  simp only[Option.map_some,Option.getD_some,wx,List.mem_map,List.mem_filter,Array.mem_toList_iff]
  exact⟨e,⟨he,hb⟩,rfl⟩
theorem zjs (H:Open P B0 ps nt ops l call ts ss tr)(hfree:Ww β0 (ss 0).nx (ss l.length).nx){Q:Exit→Act→World→Prop}
  (h:∀γ a' w',TRel γ ps nt (ts l.length) a'→Stp B0 β0 (ss 0) w0 γ (ss l.length) w'→Q .normal a' w') :
  ∀(n:Nat) (listed:Array Bool) (L:List Nat) (X:Nat→Prop) (q:Nat) (β:Bt) (a:Act) (w:World),listed.size=ops.size→(∀i,X i↔listed.getD i false=true)→L.length≤n→(∀i,i<ops.size→¬X i→i∈L) →
   (∀i,X i→∀d∈xX ops i,X d)→MInv l ss B0 β0 w0 X q β w→(q<l.length→∃o,l[q]?=some o∧isE o=true)→TmInv l ts ps nt X β a→wpAny P .any ops Q n listed a w:=by
 have hlen:ops.size=l.length:=by simpa using vf H.hl
 have tf:∀{listed:Array Bool} {i:Nat},i<listed.size→(listed.getD i true=false↔¬listed.getD i false=true):=by
  intro listed i hi
  rw[Array.getD_eq_getD_getElem?,Array.getD_eq_getD_getElem?,Array.getElem?_eq_getElem hi]
  simp
 have all_done:∀{listed:Array Bool} {X:Nat→Prop},listed.size=ops.size→(∀i,X i↔listed.getD i false=true)→Region.ready .any ops listed=[]→∀i,i<ops.size→X i:=by
  intro listed X hsz hX hr i
  induction i using Nat.strongRecOn with
  | _ i ih =>
   intro hi
   by_cases hx:X i
   ·exact hx
   ·exfalso
    have:i∈Region.ready .any ops listed:=XL.2 ⟨(tf (by omega)).2 (fun e=>hx ((hX i).2 e)),hi,fun d hd=>(hX d).1 (ih d (Wn H.back hd) (by have:=Wn H.back hd;omega))⟩
    rw[hr]at this
    cases this
 have done:∀{X:Nat→Prop} {q:Nat} {β:Bt} {a:Act} {w:World},(∀i,i<ops.size→X i)→MInv l ss B0 β0 w0 X q β w→(q<l.length→∃o,l[q]?=some o∧isE o=true)→TmInv l ts ps nt X β a→Q .normal a w:=by
  intro X q β a w hall hM hqb hT
  have hq:q=l.length:=by
   rcases Nat.lt_or_ge q l.length with h' | h'
   ·obtain⟨o,ho,hE⟩:=hqb h'
    have:=(hM.qE q o ho hE).1 (hall q (by omega))
    omega
   ·have:=hM.qN;omega
  refine h β a w ⟨hT.sz,fun t ht=>hT.tm t ht l.length (Nat.le_refl _) fun i o hi _=>?_,hT.df⟩ (hM.done H.path hfree hq)
  have hil:=(List.getElem?_eq_some_iff.1 hi).1
  exact⟨fun _=>hil,fun _=>hall i (by omega)⟩
 intro n
 induction n with
 | zero =>
  intro listed L X q β a w hsz hX hL hmem hcl hM hqb hT
  have hL0:L=[]:=List.eq_nil_of_length_eq_zero (by omega)
  subst hL0
  have hall:∀i,i<ops.size→X i:=fun i hi=>by
   by_cases hx:X i
   ·exact hx
   ·cases hmem i hi hx
  refine⟨?_,done hall hM hqb hT⟩
  cases hr:Region.ready .any ops listed with
  | nil=>rfl
  | cons j r =>
   have hj:j∈Region.ready .any ops listed:=by rw[hr];simp
   obtain⟨h1,h2,_⟩:=XL.1 hj
   exact absurd ((hX j).1 (hall j h2)) ((tf (by omega)).1 h1)
 | succ n ih =>
  intro listed L X q β a w hsz hX hL hmem hcl hM hqb hT
  refine⟨fun hr=>done (all_done hsz hX hr) hM hqb hT,fun j hj=>?_⟩
  obtain⟨h1,h2,h3⟩:=XL.1 hj
  have hXj:¬X j:=fun e=>(tf (by omega)).1 h1 ((hX j).1 e)
  have hpre:∀d∈xX ops j,X d:=fun d hd=>(hX d).2 (h3 d hd)
  refine zjr H hfree hM hqb hT hcl h2 hXj hpre fun q' γ a' w' g1 g2 g3=>?_
  refine ih (listed.setIfInBounds j true) (L.erase j) (fun i=>X i∨i=j) q' γ a' w' (by simpa using hsz) (fun i=>?_) ?_ (fun i hi hx=>?_) ?_ g1 g2 g3
  ·by_cases e:i=j
   ·subst e
    have:(listed.setIfInBounds i true).getD i false=true:=by
     rw[Array.getD_eq_getD_getElem?,Array.getElem?_setIfInBounds_self_of_lt (by omega)];rfl
    exact⟨fun _=>this,fun _=>.inr rfl⟩
   ·rw[getD_set_ne false (fun h=>e h.symm),←hX i]
    exact⟨fun hx=>hx.resolve_right e,.inl⟩
  ·rw[List.length_erase_of_mem (hmem j h2 hXj)];omega
  ·have hij:i≠j:=fun e=>hx (.inr e)
   exact (List.mem_erase_of_ne hij).2 (hmem i hi fun e=>hx (.inl e))
  ·rintro i (hi | rfl) d hd
   ·exact .inl (hcl i hi d hd)
   ·exact .inl (hpre d hd)
theorem W9 (hm:P.follows .mixedOrders=true)(hgr:WQ call)(hcall:Y8 P B0 call)(hl:vP (Ug P ps ops nt) ops.toList=some l){T:Tm}{S:St}{T':Tm}{S':St}(htr:Zz call l T S=some tr)(hlast:ZD tr=some (T',S'))
  (hback:Wo (ops.toList.map wx)=true) (htemps:YB l (xt (ops.toList.map wx) [])=true) (heff:zfd l (xt (ops.toList.map wx) [])=true)
  (hchk:∀c∈zfn l (xt (ops.toList.map wx) []),YN l tr c=true) {id:Nat} {β:Bt} {w:World} {a:Act} {Q:Exit→Act→World→Prop} (hwf:S.wf) (hR:Rel β B0 S.h w) (hT:TRel β ps nt T a) (hfree:Ww β S.nx S'.nx)
  (h:∀γ a' w',TRel γ ps nt T' a'→Stp B0 β S w γ S' w'→Q .normal a' w'):(Code.region id ops true).wp P Q a w:=by
 obtain⟨ts,ss,rfl,rfl,h3,h4,h5⟩:=YS htr
 rw[h5]at hlast
 injection hlast with hlast
 injection hlast with e1 e2
 subst e1;subst e2
 have hp:=zaW hgr h3 hwf
 obtain⟨q,hq1,hq2,hq3,hq4⟩:=VX l l.length 0 (by omega)
 have hR1:Rel β B0 (ss 0).h { w with drawn:=w.drawn+1 }:=⟨hR.blk,hR.inj,hR.lt,hR.le⟩
 refine wp_region_any hm (zjs (w0:={ w with drawn:=w.drawn+1 }) ⟨hl,h3,h4,hp,hback,htemps,heff,hchk,hcall⟩ hfree (fun γ a' w' g1 g2=>h γ a' w' g1 ⟨g2.ext,g2.dom,g2.rel,⟨g2.bel.os,g2.bel.tape,g2.bel.output,g2.bel.size,g2.bel.block⟩,g2.fr,g2.src,g2.ph,g2.nx⟩)
  ops.size (Array.replicate ops.size false) (List.range ops.size) (fun _=>False) q β a _ (by simp) (fun i=>?_) (by simp) (fun i hi _=>by simpa using hi) (fun i hi=>hi.elim) (MInv.start hp hR1 hfree hq2 (fun i o h1 h2=>hq3 i o (Nat.zero_le _) h1 h2)) hq4 ⟨hT.sz,hT.df,?_⟩)
 ·refine⟨False.elim,fun e=>?_⟩
  rw[Array.getD_eq_getD_getElem?,Array.getElem?_replicate]at e
  split at e<;>cases e
 ·intro t ht j hj hc
  rw[ziU hl h3 (Nat.zero_le j) hj fun i o h1 h2 hi hit=>(hc i o hi hit).2 h2]
  exact hT.tm t ht
end
theorem zee {P:Program}{B0:Nat}{F:Nat→Option AFn}(hm:P.follows .mixedOrders=true)(hF:WP P F):∀E,zaB P B0 E→Wv E→zjw E→zic P B0 F E:=by
 intro E hE hG hret ps nt id ops d c hc T S x T' S' hs β w a Q hwf hR hT hfree h
 have hcall:Y8 P B0 (xn F E):=zfq hF hE hret
 have hgr:WQ (xn F E):=Y4 hG
 unfold zbk at hc
 split at hc
 ·cases hc
 ·rename_i l hl
  have hlen:ops.size=l.length:=by simpa using vf hl
  cases d with
  | false =>
   cases hc
   change zgz (xn F E) l T S=_ at hs
   unfold zgz at hs
   split at hs
   ·rename_i T1 S1 he
    cases hs
    refine wp_region ?_
    rw[List.range_eq_range']
    exact US hcall hgr hl ops.size 0 (by omega) hwf hR hT.clear (by simpa using he) hfree h
   ·cases hs
  | true =>
   simp only[cond_true]at hc
   rw[cond_eq_ite]at hc
   split at hc
   ·rename_i hok
    simp only[Bool.and_eq_true]at hok
    split at hc
    ·rename_i hnil
     cases hc
     change zgz (xn F E) l T S=_ at hs
     unfold zgz at hs
     split at hs
     ·rename_i T1 S1 he
      cases hs
      obtain⟨tr,h1,h2⟩:=YU he
      exact W9 hm hgr hcall hl h1 h2 hok.1.1 hok.1.2 hok.2 (fun c hc=>by rw[hnil]at hc;cases hc) hwf hR hT.clear hfree h
     ·cases hs
    ·cases hc
     change zcL (xn F E) l _ T S=_ at hs
     unfold zcL at hs
     split at hs
     ·rename_i tr htr
      rw[cond_eq_ite]at hs
      split at hs
      ·rename_i hall
       rw[Option.map_eq_some_iff]at hs
       obtain⟨⟨T1,S1⟩,h1,h2⟩:=hs
       cases h2
       exact W9 hm hgr hcall hl htr h1 hok.1.1 hok.1.2 hok.2 (fun c hc=>List.all_eq_true.1 hall c hc) hwf hR hT.clear hfree h
      ·cases hs
     ·cases hs
   ·cases hc
theorem zbs {P:Program}{B0:Nat}{F:Nat→Option AFn}(hm:P.follows .mixedOrders=true)(hF:WP P F)(n:Nat):Y8 P B0 (zgw F n) :=
 zfq hF (ze2 (zee hm hF) n).1 (zcx F n)
theorem zhJ {P:Program}{F:Nat→Option AFn}(hm:P.follows .mixedOrders=true)(hF:WP P F){ps f:Nat}{g:Func}{fn:AFn}(hg:P.funcs[f]?=some g)(hc:Wi P ps g=some fn){n:Nat}
  (h:(match Z1 F n fn.body ⟨[],[]⟩ ⟨.nil,0⟩with
   | some (.norm,T',S')=>(match zec T' S'.h fn.res with | some (.b true)=>true | _=>false)
   | some (.ret,T',S')=>(match zec T' S'.h fn.res with | some (.b true)=>true | _=>false)
   | _=>false)=true):Zp P f:=by
 split at h
 ·rename_i T' S' he
  split at h
  ·rename_i hv;exact Vk (fun _=>zee hm hF) hg hc he rfl hv
  ·cases h
 ·rename_i T' S' he
  split at h
  ·rename_i hv;exact Vk (fun _=>zee hm hF) hg hc he rfl hv
  ·cases h
 ·cases h
end
section
def Sub (c c':Cll):Prop:=∀f vs S r,c f vs S=some r→c' f vs S=some r
theorem zfV {c c':Cll}(h:Sub c c'){o:AOp}{S:St}{vs:List AV}{r:AV×St}(hs:Wy o c S vs=some r):Wy o c' S vs=some r:=by
 cases o<;>simp only[Wy]at hs ⊢<;>try exact hs
 case call f=>exact h _ _ _ _ hs
 case callv =>
  obtain⟨f,fst,cap,us,rfl,hs⟩:=ZQ hs
  exact h _ _ _ _ hs
theorem zd7 {c c':Cll}(h:Sub c c'){o:AOp}{S:St}{vs:List AV}{r:AV×St}(hs:wg o c S vs=some r):wg o c' S vs=some r:=by
 cases hcl:o.cl<;>simp only[wg,hcl]at hs ⊢
 ·exact hs
 ·exact hs
 ·exact zfV h hs
theorem Xx {c c':Cll}(h:Sub c c'){o:Op1}{T:Tm}{S:St}{r:Tm×St}(hs:wJ c o T S=some r):wJ c' o T S=some r:=by
 unfold wJ at hs ⊢
 split at hs
 ·split at hs
  ·rename_i he
   rw[zd7 h he]
   exact hs
  ·cases hs
 ·exact hs
 ·cases hs
theorem YE {c c':Cll}(h:Sub c c'):∀{l:List Op1} {T:Tm} {S:St} {r:Tm×St},Z7 c l T S=some r→Z7 c' l T S=some r
 | [],_,_,_,hs=>hs
 | o::l,T,S,r,hs=>by
  rw[wK]at hs ⊢
  split at hs
  ·rename_i he
   rw[Xx h he]
   exact YE h hs
  ·cases hs
theorem Xu {c c':Cll}(h:Sub c c'):∀{l:List Op1} {T:Tm} {S:St} {r:List (Tm×St)},Zz c l T S=some r→Zz c' l T S=some r
 | [],_,_,_,hs=>hs
 | o::l,T,S,r,hs=>by
  unfold Zz at hs ⊢
  split at hs
  ·rename_i he
   rw[Xx h he]
   rw[Option.map_eq_some_iff]at hs ⊢
   obtain⟨u,hu,hr⟩:=hs
   exact⟨u,Xu h hu,hr⟩
  ·cases hs
def zjv (E E':Ec):Prop:=∀c T S r,E c T S=some r→E' c T S=some r
theorem Vu {F:Nat→Option AFn}{E E':Ec}(h:zjv E E'):Sub (xn F E) (xn F E'):=by
 intro f vs S r hs
 unfold xn at hs ⊢
 split at hs
 ·cases hs
 ·rename_i fn _
  split at hs
  ·rename_i he;simp only[h _ _ _ _ he];exact hs
  ·rename_i he;simp only[h _ _ _ _ he];exact hs
  ·cases hs
theorem ze3 {F:Nat→Option AFn}{E E':Ec}(h:zjv E E'):zjv (xK F E) (xK F E'):=by
 have hc:=Vu (F:=F) h
 intro c T S r hs
 cases c with
 | skip=>exact hs
 | reg ops =>
  simp only[xK,zgz]at hs ⊢
  split at hs
  ·rename_i he;rw[YE hc he];exact hs
  ·cases hs
 | regD ops chk =>
  simp only[xK,zcL]at hs ⊢
  split at hs
  ·rename_i he;rw[Xu hc he];exact hs
  ·cases hs
 | seq a b =>
  simp only[xK,zgy]at hs ⊢
  split at hs
  ·rename_i he;rw[h _ _ _ _ he];exact h _ _ _ _ hs
  ·rename_i hne
   rw[h _ _ _ _ hs]
   split
   ·rename_i e;cases e;exact absurd hs (hne _ _)
   ·rfl
 | cond c x y =>
  simp only[xK,zaG]at hs ⊢
  split at hs
  ·exact h _ _ _ _ hs
  ·exact h _ _ _ _ hs
  ·cases hs
 | block id c =>
  simp only[xK,Z3]at hs ⊢
  split at hs
  ·rename_i he;rw[h _ _ _ _ he];exact hs
  ·rename_i hne
   rw[h _ _ _ _ hs]
   split
   ·rename_i e;cases e;exact absurd hs (hne _ _ _)
   ·rfl
 | loop c =>
  simp only[xK,Uu]at hs ⊢
  split at hs
  ·rename_i he;rw[h _ _ _ _ he];exact h _ _ _ _ hs
  ·rename_i hne
   rw[h _ _ _ _ hs]
   split
   ·rename_i e;cases e;exact absurd hs (hne _ _)
   ·rfl
 | exit id=>exact hs
 | ret=>exact hs
theorem zcw (F:Nat→Option AFn):∀n,zjv (Z1 F n) (Z1 F (n+1))
 | 0=>fun _ _ _ _ h=>by cases h
 | n+1=>ze3 (zcw F n)
theorem X9 {F:Nat→Option AFn}{n m:Nat}(h:n≤m):zjv (Z1 F n) (Z1 F m):=by
 induction m with
 | zero=>have:n=0:=by omega
         subst this;exact fun _ _ _ _ h=>h
 | succ m ih =>
  by_cases e:n=m+1
  ·subst e;exact fun _ _ _ _ h=>h
  ·exact fun c T S r hs=>zcw F m c T S r (ih (by omega) c T S r hs)
theorem zdx {P:Program}{F:Nat→Option AFn}(hm:P.follows .mixedOrders=true)(hF:WP P F){n f:Nat}{vs:List AV}{as:Array Value}{S S':St}{w:World}{β:Bt}(h:zgw F n f vs S=some (.b true,S'))
  (hwf:S.wf) (hv:VRs β vs as.toList) (hR:Rel β w.heap.size S.h w) (hfree:Ww β S.nx S'.nx) :
  Calls P f as w fun e w'=>e=.returned (.bool true)∧RowKit.Below w.heap.size w w':=by
 refine ((zbs hm hF n f vs S _ S' h).2 β w as hwf hv hR hfree).mono ?_
 rintro e w' ⟨γ,v',rfl,h1,h2⟩
 cases h1
 exact⟨rfl,h2.bel⟩
theorem zhk (w:World):Rel (fun _=>none) w.heap.size .nil w:=by
 refine⟨?_,?_,?_,Nat.le_refl _⟩
 ·intro n bl b o z h;cases h
 ·intro n m bl bm b x y h;cases h
 ·intro n b x h;cases h
theorem ziH (n:Nat):St.wf ⟨.nil,n⟩:=fun m bl h=>by cases h
theorem zS {n:Int}(h1:-9223372036854775808≤n)(h2:n<9223372036854775808):wr .i64 n=n:=by
 have:zgQ n=true:=by
  cases n with
  | ofNat m=>simp only[zgQ,yU];exact decide_eq_true (Int.ofNat_lt.1 h2)
  | negSucc m=>simp only[zgQ,yU];exact decide_eq_true (by omega)
 simp only[wr,this,cond_true]
theorem y4 (F:Nat→Option AFn)(n:Nat)(c:ACode):Z1 F (n+1) c=xK F (Z1 F n) c:=rfl
theorem zaA (F:Nat→Option AFn)(n:Nat):zgw F n=xn F (Z1 F n):=rfl
end
section
abbrev Hp:=Nat→Option AB
inductive LC where
 | raw (x:AB)
 | abs (P:Hp→Prop)
abbrev Lg:=Nat→Option LC
def Lg.put (L:Lg)(n:Nat)(c:LC):Lg:=fun m=>if m=n then some c else L m
def Lg.del (L:Lg)(n:Nat):Lg:=fun m=>if m=n then none else L m
def Lg.over (M L:Lg):Lg:=fun b=>match M b with | some c=>some c | none=>L b
def Lg.minus (L M:Lg):Lg:=fun b=>match M b with | some _=>none | none=>L b
def Lg.nil:Lg:=fun _=>none
def XN:Option LC→Nat→Hp→Prop
 | none,_,p=>∀b,p b=none
 | some (.raw x),r,p=>p r=some x∧∀b,b≠r→p b=none
 | some (.abs P),r,p=>P p∧∃cs,p r=some (.cells cs)
def zfF (L:Lg)(p:Nat→Hp):Prop:=(∀r,XN (L r) r (p r))∧∀r s b,r≠s→p r b=none∨p s b=none
def Sat (L:Lg)(h:Hp):Prop:=∃p,zfF L p∧∀b x,h b=some x↔∃r,p r b=some x
def Mod (S:St)(L:Lg):Prop:=∃h,Sat L h∧∀b x,h b=some x→S.h.get b=some x∧b<S.nx
def rdL (L:Lg)(a:Nat×Nat)(sz:Option Nat):Option AV :=
 match L a.1 with
 | some (.raw blk)=>match blk.read with
  | some c=>zO c a.2 sz
  | none=>none
 | _=>none
def zF (L:Lg)(a:Option (Nat×Nat))(n:Nat):Option (List AV) :=
 match a with
 | none=>if n=0 then some []else none
 | some (r,o)=>match L r with
  | some (.raw blk)=>match blk.read with
   | some c=>cut c o n
   | none=>none
  | _=>none
def zeE (L:Lg)(r:Nat):Bool :=
 match L r with
 | some (.raw (.cells _))=>true
 | some (.abs _)=>true
 | _=>false
def wrL (L:Lg)(a:Nat×Nat)(vs:List AV):Option Lg :=
 match L a.1 with
 | some (.raw (.cells c))=>if a.2+vs.length≤c.length∧vs.all AV.one=true then some (L.put a.1 (.raw (.cells (zo c a.2 vs))))else none
 | _=>none
def zhX (L:Lg):Option (Nat×Nat)→Option (Nat×Nat)→Option Bool
 | none,none=>some true
 | none,some _=>some false
 | some _,none=>some false
 | some (a,i),some (b,j)=>if a=b then some (decide (i=j))else if zeE L a=true∧zeE L b=true then some false else none
noncomputable def rEqL (ng:Bool)(k:EqK)(L:Lg):List AV→Option AV
 | [.p x,.p y]=>match k with
  | .ptr=>(zhX L x y).map fun r=>.b (r != ng)
  | k=>rEq ng k .nil [.p x,.p y]
 | vs=>rEq ng k .nil vs
def Xm (sz:Option Nat)(L:Lg):List AV→Option AV
 | [.p (some a)]=>rdL L a sz
 | _=>none
def w9 (z:AV)(ok:Bool)(L:Lg):List AV→Option AV
 | [.m none,.i _ _]=>some (if ok=true then .tup [z,.b false]else z)
 | [.m (some r),.i k n]=>match L r with
  | some (.raw (.map es))=>match V0 k n es with
   | some (some v)=>some (if ok=true then .tup [v,.b true]else v)
   | some none=>some (if ok=true then .tup [z,.b false]else z)
   | none=>none
  | _=>none
 | _=>none
def zb1 (L:Lg):List AV→Option AV
 | [.m none]=>some (.i .i64 0)
 | [.m (some r)]=>match L r with
  | some (.raw (.map es))=>some (.i .i64 es.length)
  | _=>none
 | _=>none
def zel (L:Lg):List AV→Option AV
 | [.sl a n _ _]=>if n=0 then some (.s [])else match zF L a n with
  | some l=>match u8s l with
   | some s=>some (.s s)
   | none=>none
  | none=>none
 | _=>none
noncomputable def yB:AOp→Lg→List AV→Option AV
 | .ld sz,L,vs=>Xm sz L vs
 | .lkup z ok,L,vs=>w9 z ok L vs
 | .mlen,L,vs=>zb1 L vs
 | .cvtB,L,vs=>zel L vs
 | .eq ng k,L,vs=>rEqL ng k L vs
 | o,_,vs=>vT o .nil vs
def WC (r:Option AV)(L:Lg)(k:AV→Lg→Prop):Prop :=
 match r with
 | some v=>k v L
 | none=>False
def Xp (f:Nat→List AV→Option (AB×AV))(vs:List AV)(L:Lg)(k:AV→Lg→Prop):Prop :=
 ∀b,L b=none→match f b vs with
  | some (x,v)=>k v (L.put b (.raw x))
  | none=>False
def zd (F:Nat→Option AFn)(f:Nat)(vs:List AV)(L:Lg)(Q:AV→Lg→Prop):Prop :=
 ∀S,Mod S L→∃n v S',zgw F n f vs S=some (v,S')∧∃L',Mod S' L'∧Q v L'
def stL (sz:Nat)(L:Lg)(k:AV→Lg→Prop):List AV→Prop
 | [.p (some a),v]=>match v.cellsOf with
  | some l=>if l.length=sz then match wrL L a l with
   | some L'=>k .bad L'
   | none=>False
   else False
  | none=>False
 | _=>False
def VY (L:Lg)(k:AV→Lg→Prop):List AV→Prop
 | [.m (some r),.i j n,v]=>match L r with
  | some (.raw (.map es))=>match WI j n v es with
   | some es=>k .bad (L.put r (.raw (.map es)))
   | none=>False
  | _=>False
 | _=>False
def V1 (L:Lg)(k:AV→Lg→Prop):List AV→Prop
 | [.m none,.i _ _]=>k .bad L
 | [.m (some r),.i j n]=>match L r with
  | some (.raw (.map es))=>match WJ j n es with
   | some es=>k .bad (L.put r (.raw (.map es)))
   | none=>False
  | _=>False
 | _=>False
def Zd (L:Lg)(a:Option (Nat×Nat))(ex size:Nat):Option Lg :=
 if ex=0 then some L else if ex=size then match a with
  | some (r,_)=>match L r with
   | some (.raw (.cells _))=>some (L.del r)
   | _=>none
  | none=>none
 else none
def zdJ (size bytes:Nat)(L:Lg)(a:Option (Nat×Nat))(len cap ex n:Nat)(new:List AV)(k:AV→Lg→Prop):Prop :=
 if len+n≤cap then
  match a with
  | none=>k (.sl none (len+n) cap ex) L
  | some (r,o)=>if n=0 then k (.sl (some (r,o)) len cap ex) L else
   match wrL L (r,o+len * size) new with
   | some L'=>k (.sl (some (r,o)) (len+n) cap ex) L'
   | none=>False
 else (len+n) * bytes≤70368744177664 ∧
  match zF L a (len * size),Zd L a ex size with
  | some old,some L'=>∀b,L b=none→k (.sl (some (b,0)) (len+n) (len+n) size) (L'.put b (.raw (.cells (old++new))))
  | _,_=>False
def Xh (size bytes:Nat)(L:Lg)(k:AV→Lg→Prop):List AV→Prop
 | [.sl a len cap ex,.sl b n _ _]=>match zF L b (n * size)with
  | some new=>new.all AV.one=true∧zdJ size bytes L a len cap ex n new k
  | none=>False
 | _=>False
def ziv (z:List AV)(L:Lg)(k:AV→Lg→Prop):List AV→Prop
 | [.sl a n _ _]=>if n=0 then k .bad L else match a with
  | some a=>match wrL L a (y5 z n)with
   | some L'=>k .bad L'
   | none=>False
  | none=>False
 | _=>False
def zjk (size:Nat)(L:Lg)(k:AV→Lg→Prop):List AV→Prop
 | [.sl a dl _ _,.sl b sl _ _]=>match zF L b (Nat.min sl dl * size)with
  | some vs=>if Nat.min sl dl=0 then k (.i .i64 0) L else match a with
   | some a=>match wrL L a vs with
    | some L'=>k (.i .i64 (Nat.min sl dl:Nat)) L'
    | none=>False
   | none=>False
  | none=>False
 | _=>False
def zgW (F:Nat→Option AFn)(L:Lg)(k:AV→Lg→Prop):List AV→Prop
 | .fn f fst cap::vs=>zd F f (fst++vs++cap) L k
 | _=>False
noncomputable def za (F:Nat→Option AFn)(o:AOp)(vs:List AV)(L:Lg)(k:AV→Lg→Prop):Prop :=
 match o with
 | .alloc z=>Xp (zfB z) vs L k
 | .box=>Xp zbt vs L k
 | .bslice z len size ps=>Xp (Zo z len size ps) vs L k
 | .mksl z bytes=>Xp (zfA z bytes) vs L k
 | .mkmap=>Xp zgY vs L k
 | .st sz=>stL sz L k vs
 | .mset=>VY L k vs
 | .mdel=>V1 L k vs
 | .app size bytes=>Xh size bytes L k vs
 | .clr z=>ziv z L k vs
 | .cpy size=>zjk size L k vs
 | .call f=>zd F f vs L k
 | .callv=>zgW F L k vs
 | o=>WC (yB o L vs) L k
abbrev Env:=Nat→AV
def Env.put (l:Env)(n:Nat)(v:AV):Env:=fun m=>bif Nat.beq n m then v else l m
def Env.nil:Env:=fun _=>.bad
def evO (l t:Env):Opd→AV
 | .l n=>l n
 | .t n=>t n
 | .c v=>v
noncomputable def zir (l t:Env)(as:List Opd):List AV:=List.rec (motive:=fun _=>List AV) [] (fun x _ ih=>evO l t x::ih) as
def putL (l:Env)(d:Dst)(v:AV):Env:=match d with
 | .l n=>l.put n v
 | _=>l
def zik (t:Env)(d:Dst)(v:AV):Env:=match d with
 | .t n=>t.put n v
 | _=>t
noncomputable def zJ (vs:List AV):Nat→Env:=List.rec (motive:=fun _=>Nat→Env) (fun _=>Env.nil) (fun v _ ih i=>(ih (Nat.succ i)).put i v) vs
noncomputable def zi (F:Nat→Option AFn)(v:AV)(w:Bool)(o:AOp)(vs:List AV)(L:Lg)(k:AV→Lg→Prop):Prop :=
 match v with
 | .b x=>(x=w→za F o vs L k)∧(x=(!w)→k (.tup []) L)
 | .bad=>False
 | _=>k (.tup []) L
noncomputable def zcM (F:Nat→Option AFn)(o:Op1)(l t:Env)(L:Lg)(k:AV→Lg→Prop):Prop :=
 match o with
 | ⟨_,none,.mv,[x]⟩=>k (evO l t x) L
 | ⟨_,none,op,args⟩=>za F op (zir l t args) L k
 | ⟨_,some (c,w),op,args⟩=>zi F (evO l t c) w op (zir l t args) L k
def zn (v:AV)(X Y:Prop):Prop :=
 match v with
 | .b x=>(x=true→X)∧(x=false→Y)
 | _=>False
noncomputable def zfO (F:Nat→Option AFn)(ops:List Op1):Env→Env→Lg→(Env→Env→Lg→Prop)→Prop :=
 List.rec (motive:=fun _=>Env→Env→Lg→(Env→Env→Lg→Prop)→Prop) (fun l t L k=>k l t L)
  (fun o _ ih l t L k=>zcM F o l t L fun v L'=>ih (putL l o.dst v) (zik t o.dst v) L' k) ops
noncomputable def z8 (o:AOp)(vs:List AV)(L L':Lg):Prop :=
 match yB o L vs,yB o L' vs with
 | some v,some v'=>vk v v'=true
 | _,_=>False
def Y7 (v:AV)(w:Bool)(P:Prop):Prop:=match v with
 | .b x=>x=w→P
 | .bad=>False
 | _=>True
noncomputable def zfx (ops:List Op1)(tr:List (Env×Env×Lg))(c:Nat×Nat):Prop :=
 match ops[c.1]?,tr[c.1]?,tr[c.2]? with
 | some o,some (l,t,L),some (_,_,L') =>
  match o.gd with
  | none=>z8 o.op (zir l t o.args) L L'
  | some (g,w)=>Y7 (evO l t g) w (z8 o.op (zir l t o.args) L L')
 | _,_,_=>False
noncomputable def zfy (ops:List Op1)(tr:List (Env×Env×Lg)):List (Nat×Nat)→Prop
 | []=>True
 | c::r=>zfx ops tr c∧zfy ops tr r
noncomputable def zdP (F:Nat→Option AFn)(ops:List Op1)(chk:List (Nat×Nat))(rest:List Op1):List (Env×Env×Lg)→Env→Env→Lg→(Env→Env→Lg→Prop)→Prop :=
 List.rec (motive:=fun _=>List (Env×Env×Lg)→Env→Env→Lg→(Env→Env→Lg→Prop)→Prop) (fun tr l t L k=>zfy ops (tr++[(l,t,L)]) chk∧k l t L)
  (fun o _ ih tr l t L k=>zcM F o l t L fun v L'=>ih (tr++[(l,t,L)]) (putL l o.dst v) (zik t o.dst v) L' k) rest
abbrev Kn:=Env→Env→Lg→Prop
def xC (B:Env→Env→Lg→(Env→Lg→Prop)→Prop)(l:Env)(L:Lg):Prop :=
 ∃I:Nat→Env→Lg→Prop,(∃n,I n l L)∧∀n l t L,I n l L→B l t L (fun l L=>∃m,m<n∧I m l L)
noncomputable def wp (F:Nat→Option AFn)(c:ACode):Env→Env→Lg→Kn→(Nat→Kn)→Kn→Prop :=
 ACode.rec (motive:=fun _=>Env→Env→Lg→Kn→(Nat→Kn)→Kn→Prop)
  (fun l t L k _ _=>k l t L)
  (fun ops l _ L k _ _=>zfO F ops l Env.nil L k)
  (fun ops chk l _ L k _ _=>zdP F ops chk ops [] l Env.nil L k)
  (fun _ _ a b l t L k ke kr=>a l t L (fun l t L=>b l t L k ke kr) ke kr)
  (fun c _ _ x y l t L k ke kr=>zn (evO l t c) (x l t L k ke kr) (y l t L k ke kr))
  (fun id _ c l t L k ke kr=>c l t L k (fun j l t L=>bif Nat.beq j id then k l t L else ke j l t L) kr)
  (fun _ c l t L _ ke kr=>xC (fun l t L k=>c l t L (fun l _ L=>k l L) ke kr) l L)
  (fun id l t L _ ke _=>ke id l t L)
  (fun l t L _ _ kr=>kr l t L) c
def YF (l t:Env)(L:Lg):ResV→Option AV
 | .tmp x=>some (evO l t x)
 | .cell x sz=>match evO l t x with
  | .p (some a)=>rdL L a sz
  | _=>none
def zaS (l t:Env)(L:Lg):List ResV→Option (List AV)
 | []=>some []
 | r::rs=>match YF l t L r with
  | some v=>(zaS l t L rs).map (v::·)
  | none=>none
def yz (l t:Env)(L:Lg)(rs:List ResV):Option AV :=
 match zaS l t L rs with
 | some [v]=>some v
 | some vs=>some (.tup vs)
 | none=>none
def zu (L L':Lg):Prop:=∀S,Mod S L→Mod S L'
end
section
@[simp] theorem ze (L:Lg)(n:Nat)(c:LC):(L.put n c) n=some c:=by simp[Lg.put]
theorem zb (L:Lg)(n:Nat)(c:LC){m:Nat}(h:m≠n):(L.put n c) m=L m:=by simp[Lg.put,h]
theorem Lg.put_apply (L:Lg)(n:Nat)(c:LC)(m:Nat):(L.put n c) m=if m=n then some c else L m:=rfl
theorem yM (L:Lg)(n:Nat)(m:Nat):(L.del n) m=if m=n then none else L m:=rfl
@[simp] theorem zA (L:Lg)(n:Nat)(c d:LC):(L.put n c).put n d=L.put n d:=by
 funext m;simp only[Lg.put];split<;>rfl
theorem yJ (L:Lg){n m:Nat}(h:n≠m)(c d:LC):(L.put n c).put m d=(L.put m d).put n c:=by
 funext k;simp only[Lg.put];split<;>split<;>simp_all
@[simp] theorem yc (L:Lg)(n:Nat)(c:LC)(h:L n=some c):L.put n c=L:=by
 funext m;simp only[Lg.put];split<;>simp_all
@[simp] theorem ziB (L:Lg)(n:Nat)(c:LC)(h:L n=none):(L.put n c).del n=L:=by
 funext m;simp only[Lg.put,Lg.del];split<;>simp_all
theorem XN.root {c:LC}{r:Nat}{p:Hp}(h:XN (some c) r p):∃x,p r=some x:=by
 cases c with
 | raw x=>exact⟨x,h.1⟩
 | abs P=>obtain⟨_,cs,h⟩:=h;exact⟨_,h⟩
theorem zfF.sat {L:Lg}{p:Nat→Hp}(hp:zfF L p):∃h,Sat L h∧∀b x,h b=some x↔∃r,p r b=some x:=by
 classical
 have hx:∀b,∃v:Option AB,∀x,v=some x↔∃r,p r b=some x:=by
  intro b
  by_cases h:∃r x,p r b=some x
  ·obtain⟨r,x,h⟩:=h
   refine⟨some x,fun y=>Iff.intro (fun (e:some x=some y)=>by cases e;exact⟨r,h⟩) ?_⟩
   rintro⟨s,hs⟩
   by_cases e:r=s
   ·subst e;rw[←h];exact hs
   ·rcases hp.2 r s b e with h1 | h1<;>simp_all
  ·refine⟨none,fun y=>Iff.intro (fun e=>by cases e) ?_⟩
   rintro⟨s,hs⟩
   exact absurd ⟨s,y,hs⟩ h
 obtain⟨h,hh⟩:=Classical.axiomOfChoice hx
 exact⟨h,⟨p,hp,hh⟩,hh⟩
theorem xJ {S:St}{L:Lg}:Mod S L↔∃p,zfF L p∧∀r b x,p r b=some x→S.h.get b=some x∧b<S.nx:=by
 refine⟨?_,?_⟩
 ·rintro⟨h,⟨p,hp,hh⟩,hs⟩
  exact⟨p,hp,fun r b x e=>hs b x ((hh b x).2 ⟨r,e⟩)⟩
 ·rintro⟨p,hp,hs⟩
  obtain⟨h,h1,h2⟩:=hp.sat
  exact⟨h,h1,fun b x e=>by obtain⟨r,e⟩:=(h2 b x).1 e;exact hs r b x e⟩
section
variable {S:St} {L:Lg}
theorem Mod.raw (h:Mod S L){b:Nat}{x:AB}(e:L b=some (.raw x)):S.h.get b=some x∧b<S.nx:=by
 obtain⟨p,hp,hs⟩:=xJ.1 h
 have:=hp.1 b
 rw[e]at this
 exact hs b b x this.1
theorem Mod.root (h:Mod S L){b:Nat}{c:LC}(e:L b=some c):(∃x,S.h.get b=some x)∧b<S.nx:=by
 obtain⟨p,hp,hs⟩:=xJ.1 h
 have:=hp.1 b
 rw[e]at this
 obtain⟨x,hx⟩:=this.root
 exact⟨⟨x,(hs b b x hx).1⟩,(hs b b x hx).2⟩
theorem Mod.cells (h:Mod S L){b:Nat}{P:Hp→Prop}(e:L b=some (.abs P)):∃cs,S.h.get b=some (.cells cs):=by
 obtain⟨p,hp,hs⟩:=xJ.1 h
 have:=hp.1 b
 rw[e]at this
 obtain⟨_,cs,hx⟩:=this
 exact⟨cs,(hs b b _ hx).1⟩
theorem Mod.fresh (h:Mod S L){b:Nat}(hb:S.nx≤b):L b=none:=by
 cases e:L b with
 | none=>rfl
 | some c=>exact absurd (h.root e).2 (by omega)
theorem Mod.sub (h:Mod S L){L':Lg}(e:∀b c,L' b=some c→L b=some c):Mod S L':=by
 obtain⟨p,hp,hs⟩:=xJ.1 h
 refine xJ.2 ⟨fun r b=>if L' r=none then none else p r b,⟨?_,?_⟩,?_⟩
 ·intro r
  cases h1:L' r with
  | none=>intro b;simp[h1]
  | some c=>have:=hp.1 r;rw[e r c h1]at this;simpa[h1]using this
 ·intro r s b hrs
  have:=hp.2 r s b hrs
  simp only
  split<;>split<;>simp_all
 ·intro r b x hx
  simp only at hx
  split at hx
  ·cases hx
  ·exact hs r b x hx
theorem Mod.put (h:Mod S L){b:Nat}{x y:AB}(e:L b=some (.raw x)):Mod { S with h:=S.h.set b (some y) } (L.put b (.raw y)):=by
 obtain⟨p,hp,hs⟩:=xJ.1 h
 have h0:=hp.1 b
 rw[e]at h0
 refine xJ.2 ⟨fun r c=>if r=b then (if c=b then some y else none)else p r c,⟨?_,?_⟩,?_⟩
 ·intro r
  by_cases hr:r=b
  ·subst hr
   simp only[ze,XN,if_true]
   exact⟨trivial,fun c hc=>by simp[hc]⟩
  ·rw[zb _ _ _ hr]
   simp only[hr,if_false]
   exact hp.1 r
 ·intro r s c hrs
  by_cases hr:r=b
  ·subst hr
   have hs':s≠r:=fun h=>hrs h.symm
   simp only[if_true,hs',if_false]
   by_cases hc:c=r
   ·subst hc
    have:=hp.2 c s c hrs
    rw[h0.1]at this
    simp at this
    exact .inr this
   ·left;simp[hc]
  ·by_cases hs':s=b
   ·subst hs'
    simp only[if_true,hr,if_false]
    by_cases hc:c=s
    ·subst hc
     have:=hp.2 r c c hrs
     rw[h0.1]at this
     simp at this
     exact .inl this
    ·right;simp[hc]
   ·simp only[hr,hs',if_false];exact hp.2 r s c hrs
 ·intro r c z hz
  simp only at hz
  simp only[zP]
  split at hz
  ·split at hz
   ·rename_i h2;subst h2;cases hz;exact⟨by simp,(h.raw e).2⟩
   ·cases hz
  ·rename_i hr
   have hc:c≠b:=by
    rintro rfl
    have:=hp.2 r c c hr
    rw[h0.1,hz]at this
    simp at this
   simp only[hc,if_false]
   exact hs r c z hz
theorem Mod.gone (h:Mod S L){b:Nat}{x:AB}(e:L b=some (.raw x)):Mod { S with h:=S.h.set b none } (L.del b):=by
 obtain⟨p,hp,hs⟩:=xJ.1 h
 have h0:=hp.1 b
 rw[e]at h0
 refine xJ.2 ⟨fun r c=>if r=b then none else p r c,⟨?_,?_⟩,?_⟩
 ·intro r
  by_cases hr:r=b
  ·subst hr
   simp[yM,XN]
  ·simp only[yM,hr,if_false]
   exact hp.1 r
 ·intro r s c hrs
  have:=hp.2 r s c hrs
  by_cases hr:r=b<;>by_cases hs':s=b<;>simp[hr,hs',this]<;>simp_all
 ·intro r c z hz
  simp only at hz
  simp only[zP]
  split at hz
  ·cases hz
  ·rename_i hr
   have hc:c≠b:=by
    rintro rfl
    have:=hp.2 r c c hr
    rw[h0.1,hz]at this
    simp at this
   simp only[hc,if_false]
   exact hs r c z hz
theorem Mod.new (h:Mod S L)(y:AB):Mod { h:=S.h.set S.nx (some y),nx:=S.nx+1 } (L.put S.nx (.raw y)):=by
 have e:=h.fresh (Nat.le_refl S.nx)
 obtain⟨p,hp,hs⟩:=xJ.1 h
 have h0:=hp.1 S.nx
 rw[e]at h0
 refine xJ.2 ⟨fun r c=>if r=S.nx then (if c=S.nx then some y else none)else p r c,⟨?_,?_⟩,?_⟩
 ·intro r
  by_cases hr:r=S.nx
  ·subst hr
   simp only[ze,XN,if_true]
   exact⟨trivial,fun c hc=>by simp[hc]⟩
  ·rw[zb _ _ _ hr]
   simp only[hr,if_false]
   exact hp.1 r
 ·have key:∀r,p r S.nx=none:=fun r=>by
   cases hz:p r S.nx with
   | none=>rfl
   | some z=>exact absurd (hs r S.nx z hz).2 (by omega)
  intro r s c hrs
  by_cases hr:r=S.nx
  ·have hs':s≠S.nx:=fun h=>hrs (hr.trans h.symm)
   simp only[hr,if_true,hs',if_false]
   by_cases hc:c=S.nx
   ·subst hc;exact .inr (key s)
   ·left;simp[hc]
  ·by_cases hs':s=S.nx
   ·simp only[hs',if_true,hr,if_false]
    by_cases hc:c=S.nx
    ·subst hc;exact .inl (key r)
    ·right;simp[hc]
   ·simp only[hr,hs',if_false];exact hp.2 r s c hrs
 ·intro r c z hz
  simp only at hz
  simp only[zP]
  split at hz
  ·split at hz
   ·rename_i h2;subst h2;cases hz;exact⟨by simp,by omega⟩
   ·cases hz
  ·have:=hs r c z hz
   have hc:c≠S.nx:=by omega
   simp only[hc,if_false]
   exact⟨this.1,by omega⟩
end
@[simp] theorem zu.refl (L:Lg):zu L L:=fun _ h=>h
theorem zu.trans {L M N:Lg}(h:zu L M)(k:zu M N):zu L N:=fun S m=>k S (h S m)
theorem zu.drop {L L':Lg}(e:∀b c,L' b=some c→L b=some c):zu L L':=fun S h=>h.sub e
theorem zfC {L M:Lg}{r:Nat}{P:Hp→Prop}(hM:∀b c,M b=some c→L b=some c)(hr:(∃cs,M r=some (.raw (.cells cs)))∨∃Q,M r=some (.abs Q))(hP:∀h,Sat M h→P h) :
  zu L ((L.minus M).put r (.abs P)):=by
 classical
 intro S h
 obtain⟨p,hp,hs⟩:=xJ.1 h
 have hpM:zfF M (fun b d=>if M b=none then none else p b d):=by
  refine⟨?_,?_⟩
  ·intro b
   cases h1:M b with
   | none=>intro c;simp[h1]
   | some c=>have:=hp.1 b;rw[hM b c h1]at this;simpa[h1]using this
  ·intro b c d hbc
   have:=hp.2 b c d hbc
   simp only
   split<;>split<;>simp_all
 obtain⟨hm,hsat,hmi⟩:=hpM.sat
 have hroot:∃cs,hm r=some (.cells cs):=by
  have h0:=hp.1 r
  rcases hr with⟨cs,hr⟩ | ⟨Q,hr⟩
  ·rw[hM r _ hr]at h0
   exact⟨cs,(hmi r _).2 ⟨r,by simpa[hr]using h0.1⟩⟩
  ·rw[hM r _ hr]at h0
   obtain⟨_,cs,h0⟩:=h0
   exact⟨cs,(hmi r _).2 ⟨r,by simpa[hr]using h0⟩⟩
 have hrM:∃c,M r=some c:=by rcases hr with⟨cs,hr⟩ | ⟨Q,hr⟩<;>exact⟨_,hr⟩
 refine xJ.2 ⟨fun b d=>if b=r then hm d else if M b=none then p b d else none,⟨?_,?_⟩,?_⟩
 ·intro b
  by_cases hb:b=r
  ·subst hb
   simp only[ze,if_true]
   exact⟨hP _ hsat,hroot⟩
  ·rw[zb _ _ _ hb]
   simp only[hb,if_false]
   cases h1:M b with
   | some c =>
    have h2:L.minus M b=none:=by simp[Lg.minus,h1]
    rw[h2];intro d;simp
   | none =>
    have h2:L.minus M b=L b:=by simp[Lg.minus,h1]
    rw[h2];simpa[h1]using hp.1 b
 ·have key:∀b d,M b=none→hm d=none∨p b d=none:=by
   intro b d hb
   cases h1:hm d with
   | none=>exact .inl rfl
   | some x =>
    obtain⟨s,hs'⟩:=(hmi d x).1 h1
    right
    have hsb:s≠b:=by rintro rfl;simp[hb]at hs'
    have:=hp.2 s b d hsb
    split at hs'
    ·cases hs'
    ·rw[hs']at this;simpa using this
  intro b c d hbc
  by_cases hb:b=r
  ·have hc:c≠r:=fun h=>hbc (hb.trans h.symm)
   simp only[hb,if_true,hc,if_false]
   split
   ·exact key c d (by assumption)
   ·exact .inr rfl
  ·by_cases hc:c=r
   ·simp only[hb,if_true,hc,if_false]
    split
    ·exact (key b d (by assumption)).symm
    ·exact .inl rfl
   ·simp only[hb,hc,if_false]
    have:=hp.2 b c d hbc
    split<;>split<;>simp_all
 ·intro b d x hx
  simp only at hx
  split at hx
  ·obtain⟨s,hs'⟩:=(hmi d x).1 hx
   split at hs'
   ·cases hs'
   ·exact hs s d x hs'
  ·split at hx
   ·exact hs b d x hx
   ·cases hx
theorem Mod.unfold {S:St}{L:Lg}(h:Mod S L){r:Nat}{P:Hp→Prop}(e:L r=some (.abs P)) :
  ∃hm,P hm∧∀M,Sat M hm→Mod S (M.over (L.del r))∧∀b c,M b=some c→b≠r→L b=none:=by
 obtain⟨p,hp,hs⟩:=xJ.1 h
 have h0:=hp.1 r
 rw[e]at h0
 refine⟨p r,h0.1,fun M hM=>?_⟩
 obtain⟨q,hq,hqi⟩:=hM
 have hfr:∀b c,M b=some c→b≠r→L b=none:=by
  intro b c hb hbr
  have h1:=hq.1 b
  rw[hb]at h1
  obtain⟨x,hx⟩:=h1.root
  have h2:=(hqi b x).2 ⟨b,hx⟩
  cases hL:L b with
  | none=>rfl
  | some d =>
   have h3:=hp.1 b
   rw[hL]at h3
   obtain⟨y,hy⟩:=h3.root
   have:=hp.2 r b b (fun h=>hbr h.symm)
   rw[h2,hy]at this
   simp at this
 refine⟨xJ.2 ⟨fun b d=>if M b=none then (if b=r then none else p b d)else q b d,⟨?_,?_⟩,?_⟩,hfr⟩
 ·intro b
  cases h1:M b with
  | some c=>simp only[Lg.over,h1];have:=hq.1 b;rw[h1]at this;simpa[h1]using this
  | none =>
   simp only[Lg.over,h1,yM]
   by_cases hb:b=r
   ·subst hb;simp[XN,h1]
   ·simpa[hb,h1]using hp.1 b
 ·have key:∀b c d,M b≠none→M c=none→c≠r→q b d=none∨p c d=none:=by
   intro b c d hb hc hcr
   cases h1:q b d with
   | none=>exact .inl rfl
   | some x =>
    have h2:=(hqi d x).2 ⟨b,h1⟩
    have:=hp.2 r c d (fun h=>hcr h.symm)
    rw[h2]at this
    simpa using this
  intro b c d hbc
  simp only
  by_cases h1:M b=none
  ·by_cases h2:M c=none
   ·simp only[h1,h2,if_true]
    by_cases hb:b=r
    ·simp[hb]
    ·by_cases hc:c=r
     ·simp[hc]
     ·simpa[hb,hc]using hp.2 b c d hbc
   ·simp only[h1,h2,if_true,if_false]
    by_cases hb:b=r
    ·simp[hb]
    ·simp only[hb,if_false];exact (key c b d h2 h1 hb).symm
  ·by_cases h2:M c=none
   ·simp only[h1,h2,if_true,if_false]
    by_cases hc:c=r
    ·simp[hc]
    ·simp only[hc,if_false];exact key b c d h1 h2 hc
   ·simp only[h1,h2,if_false];exact hq.2 b c d hbc
 ·intro b d x hx
  simp only at hx
  split at hx
  ·split at hx
   ·cases hx
   ·exact hs b d x hx
  ·exact hs r d x ((hqi d x).2 ⟨b,hx⟩)
theorem zhF (n:Nat):Mod ⟨.nil,n⟩ Lg.nil:=by
 refine xJ.2 ⟨fun _ _=>none,⟨fun r b=>rfl,fun _ _ _ _=>.inl rfl⟩,fun r b x h=>by cases h⟩
end
section
section
variable {S:St} {L:Lg}
theorem zgK (h:Mod S L){a:Nat×Nat}{sz:Option Nat}{v:AV}(e:rdL L a sz=some v):zgL S.h a sz=some v:=by
 unfold rdL at e
 split at e
 ·rename_i blk he
  unfold zgL
  rw[(h.raw he).1]
  exact e
 ·cases e
theorem wM (h:Mod S L){a:Option (Nat×Nat)}{n:Nat}{v:List AV}(e:zF L a n=some v):xw S.h a n=some v:=by
 unfold zF at e
 split at e
 ·unfold xw
  simp only[zp]
  split at e
  ·rename_i hn;cases e;simp[hn]
  ·cases e
 ·rename_i r o
  split at e
  ·rename_i blk he
   unfold xw
   simp only[(h.raw he).1]
   exact e
  ·cases e
theorem zcl (h:Mod S L){r:Nat}(e:zeE L r=true):live S.h r=true:=by
 unfold zeE at e
 split at e
 ·rename_i c he;simp[live,(h.raw he).1]
 ·rename_i P he;obtain⟨cs,hc⟩:=h.cells he;simp[live,hc]
 ·cases e
theorem zbA (h:Mod S L){a:Nat×Nat}{vs:List AV}{L':Lg}(e:wrL L a vs=some L'):∃h',xU S.h a vs=some h'∧Mod { S with h:=h' } L':=by
 unfold wrL at e
 split at e
 ·rename_i c he
  split at e
  ·rename_i hc
   cases e
   refine⟨S.h.set a.1 (some (.cells (zo c a.2 vs))),?_,h.put he⟩
   unfold xU
   simp only[(h.raw he).1,zq,hc.1,hc.2,decide_true,Bool.and_self,cond_true]
  ·cases e
 ·cases e
theorem zhW (h:Mod S L){x y:Option (Nat×Nat)}{r:Bool}(e:zhX L x y=some r):eqP S.h x y=some r:=by
 unfold zhX at e
 split at e
 ·cases e;rfl
 ·cases e;rfl
 ·cases e;rfl
 ·rename_i a i b j
  unfold eqP
  simp only[zp]
  split at e
  ·rename_i hab;simp only[hab,decide_true,cond_true];exact e
  ·rename_i hab
   split at e
   ·rename_i hl
    simp only[hab,decide_false,cond_false,zcl h hl.1,zcl h hl.2,Bool.and_self,cond_true]
    exact e
   ·cases e
theorem zhV {k:EqK}{x y:AV}{h:PM AB}{r:Bool}(hk:(∀a b,¬(x=.p a∧y=.p b))∨k≠.ptr)(e:eqV .nil k x y=some r):eqV h k x y=some r:=by
 unfold eqV at e ⊢
 split at e<;>try exact e
 all_goals (rename_i a b;exact hk.elim (fun hk=>absurd ⟨rfl,rfl⟩ (hk a b)) (fun hk=>absurd rfl hk))
theorem zej {ng:Bool}{k:EqK}{vs:List AV}{h:PM AB}{v:AV}(hk:(∀a b,vs≠[.p a,.p b])∨k≠.ptr)(e:rEq ng k .nil vs=some v):rEq ng k h vs=some v:=by
 unfold rEq at e ⊢
 split at e
 ·rename_i x y
  rw[Option.map_eq_some_iff]at e ⊢
  obtain⟨r,hr,e⟩:=e
  refine⟨r,zhV ?_ hr,e⟩
  rcases hk with hk | hk
  ·left;rintro a b ⟨rfl,rfl⟩;exact hk a b rfl
  ·exact .inr hk
 ·cases e
theorem zht (h:Mod S L){ng:Bool}{k:EqK}{vs:List AV}{v:AV}(e:rEqL ng k L vs=some v):rEq ng k S.h vs=some v:=by
 unfold rEqL at e
 split at e
 ·rename_i x y
  split at e
  ·rw[Option.map_eq_some_iff]at e
   obtain⟨r,hr,e⟩:=e
   simp only[rEq,eqV,zhW h hr,Option.map_some,e]
  ·rename_i hk
   exact zej (.inr hk) e
 ·rename_i hk
  exact zej (.inl fun a b=>fun e=>hk a b e) e
theorem zeg (h:Mod S L){z:AV}{ok:Bool}{vs:List AV}{v:AV}(e:w9 z ok L vs=some v):zc1 z ok S.h vs=some v:=by
 unfold w9 at e
 split at e
 ·unfold zc1;cases ok<;>simp_all
 ·split at e
  ·rename_i es he
   unfold zc1
   simp only[(h.raw he).1]
   split at e
   ·rename_i e1;simp only[e1];cases ok<;>simp_all
   ·rename_i e1;simp only[e1];cases ok<;>simp_all
   ·cases e
  ·cases e
 ·cases e
theorem zef (h:Mod S L){vs:List AV}{v:AV}(e:zb1 L vs=some v):UT S.h vs=some v:=by
 unfold zb1 at e
 split at e
 ·unfold UT;exact e
 ·split at e
  ·rename_i es he
   unfold UT
   simp only[(h.raw he).1]
   exact e
  ·cases e
 ·cases e
theorem zek (h:Mod S L){vs:List AV}{v:AV}(e:zel L vs=some v):zc2 S.h vs=some v:=by
 unfold zel at e
 split at e
 ·split at e
  ·rename_i h0
   unfold zc2
   simp only[h0,zp,decide_true,cond_true]
   exact e
  ·rename_i h0
   split at e
   ·rename_i l hl
    unfold zc2
    simp only[wM h hl,zp,h0,decide_false,cond_false]
    exact e
   ·cases e
 ·cases e
theorem VL (h:Mod S L){o:AOp}{vs:List AV}{v:AV}(e:yB o L vs=some v):vT o S.h vs=some v:=by
 cases o
 case ld sz =>
  simp only[yB]at e
  unfold Xm at e
  split at e
  ·simp only[vT,rLd];exact zgK h e
  ·cases e
 case lkup z ok=>exact zeg h e
 case mlen=>exact zef h e
 case cvtB=>exact zek h e
 case eq ng k=>exact zht h e
 all_goals exact e
theorem zhj (h:Mod S L){o:AOp}(ho:o.cl=.R){vs:List AV}{k:AV→Lg→Prop}(c:Cll)(e:WC (yB o L vs) L k):∃v S',wg o c S vs=some (v,S')∧∃L',Mod S' L'∧k v L':=by
 unfold WC at e
 split at e
 ·rename_i v hv
  refine⟨v,S,?_,L,h,e⟩
  simp only[wg,ho,opR,VL h hv]
 ·exact e.elim
theorem XT (h:Mod S L){o:AOp}(ho:o.cl=.A){vs:List AV}{k:AV→Lg→Prop}(c:Cll)(e:Xp (zdH o) vs L k):∃v S',wg o c S vs=some (v,S')∧∃L',Mod S' L'∧k v L':=by
 have e1:=e S.nx (h.fresh (Nat.le_refl _))
 split at e1
 ·rename_i x v hv
  exact⟨v,_,by simp only[wg,ho,opA,hv],_,h.new x,e1⟩
 ·exact e1.elim
theorem vF {v:AV}{l:List AV}(h:v.cellsOf=some l):l.all AV.one=true:=by
 cases v<;>simp only[AV.cellsOf]at h
 case agg c =>
  cases hc:c.all AV.one
  ·rw[hc]at h;cases h
  ·rw[hc]at h;cases h;exact hc
 case tup=>cases h
 case bad=>cases h
 all_goals (cases h;rfl)
theorem zh9 (h:Mod S L){size bytes:Nat}{a:Option (Nat×Nat)}{len cap ex n:Nat}{new:List AV}{k:AV→Lg→Prop}(e:zdJ size bytes L a len cap ex n new k) :
  ∃v S',ziA size bytes S a len cap ex n new=some (v,S')∧∃L',Mod S' L'∧k v L':=by
 unfold zdJ at e
 unfold ziA
 simp only[zq,zp]
 split at e
 ·rename_i hle
  simp only[hle,decide_true,cond_true]
  split at e
  ·exact⟨_,_,rfl,L,h,e⟩
  ·rename_i r o
   split at e
   ·rename_i hn
    simp only[hn,decide_true,cond_true]
    exact⟨_,_,rfl,L,h,e⟩
   ·rename_i hn
    simp only[hn,decide_false,cond_false]
    split at e
    ·rename_i L' hw
     obtain⟨h',hw',hm⟩:=zbA h hw
     simp only[hw']
     exact⟨_,_,rfl,L',hm,e⟩
    ·exact e.elim
 ·rename_i hle
  obtain⟨hb,e⟩:=e
  simp only[hle,decide_false,cond_false,hb,decide_true,cond_true]
  split at e
  ·rename_i old L' ho hg
   simp only[wM h ho]
   have hg':∃h',gone S.h a ex size=some h'∧Mod { S with h:=h' } L':=by
    unfold Zd at hg
    unfold gone
    simp only[zp]
    split at hg
    ·rename_i h0;cases hg;simp only[h0,decide_true,cond_true];exact⟨_,rfl,h⟩
    ·rename_i h0
     simp only[h0,decide_false,cond_false]
     split at hg
     ·rename_i h1
      simp only[h1,decide_true,cond_true]
      split at hg
      ·rename_i r o
       split at hg
       ·rename_i c hc
        cases hg
        have hl:live S.h r=true:=by simp[live,(h.raw hc).1]
        simp only[hl,cond_true]
        exact⟨_,rfl,h.gone hc⟩
       ·cases hg
      ·cases hg
     ·cases hg
   obtain⟨h',hg1,hm⟩:=hg'
   simp only[hg1]
   exact⟨_,_,rfl,_,hm.new (.cells (old++new)),e S.nx (h.fresh (Nat.le_refl _))⟩
  ·exact e.elim
theorem zdQ {F:Nat→Option AFn}(h:Mod S L){o:AOp}{vs:List AV}{k:AV→Lg→Prop}(e:za F o vs L k) :
  ∃n v S',wg o (xn F (Z1 F n)) S vs=some (v,S')∧∃L',Mod S' L'∧k v L':=by
 cases o
 case alloc z=>exact⟨0,XT h rfl _ e⟩
 case box=>exact⟨0,XT h rfl _ e⟩
 case bslice=>exact⟨0,XT h rfl _ e⟩
 case mksl=>exact⟨0,XT h rfl _ e⟩
 case mkmap=>exact⟨0,XT h rfl _ e⟩
 case st sz =>
  simp only[za]at e
  unfold stL at e
  split at e
  ·rename_i a v
   split at e
   ·rename_i l hl
    split at e
    ·rename_i hsz
     split at e
     ·rename_i L' hw
      obtain⟨h',hw',hm⟩:=zbA h hw
      refine⟨0,.bad,{ S with h:=h' },?_,L',hm,e⟩
      simp only[wg,AOp.cl,Wy,eSt,hl,zp,hsz,decide_true,cond_true,hw']
     ·exact e.elim
    ·exact e.elim
   ·exact e.elim
  ·exact e.elim
 case mset =>
  simp only[za]at e
  unfold VY at e
  split at e
  ·rename_i r j n v
   split at e
   ·rename_i es he
    split at e
    ·rename_i es' hs
     refine⟨0,.bad,{ S with h:=S.h.set r (some (.map es')) },?_,_,h.put he,e⟩
     simp only[wg,AOp.cl,Wy,zfe,(h.raw he).1,hs]
    ·exact e.elim
   ·exact e.elim
  ·exact e.elim
 case mdel =>
  simp only[za]at e
  unfold V1 at e
  split at e
  ·exact⟨0,.bad,S,rfl,L,h,e⟩
  ·rename_i r j n
   split at e
   ·rename_i es he
    split at e
    ·rename_i es' hs
     refine⟨0,.bad,{ S with h:=S.h.set r (some (.map es')) },?_,_,h.put he,e⟩
     simp only[wg,AOp.cl,Wy,zdm,(h.raw he).1,hs]
    ·exact e.elim
   ·exact e.elim
  ·exact e.elim
 case app size bytes =>
  simp only[za]at e
  unfold Xh at e
  split at e
  ·rename_i a len cap ex b n _ _
   split at e
   ·rename_i new hn
    obtain⟨v,S',h1,h2⟩:=zh9 h e.2
    refine⟨0,v,S',?_,h2⟩
    simp only[wg,AOp.cl,Wy,zis,wM h hn,e.1,cond_true,h1]
   ·exact e.elim
  ·exact e.elim
 case clr z =>
  simp only[za]at e
  unfold ziv at e
  split at e
  ·rename_i a n _ _
   split at e
   ·rename_i h0
    exact⟨0,.bad,S,by simp only[wg,AOp.cl,Wy,zh0,zp,h0,decide_true,cond_true],L,h,e⟩
   ·rename_i h0
    split at e
    ·rename_i a
     split at e
     ·rename_i L' hw
      obtain⟨h',hw',hm⟩:=zbA h hw
      exact⟨0,.bad,{ S with h:=h' },by simp only[wg,AOp.cl,Wy,zh0,zp,h0,decide_false,cond_false,hw'],L',hm,e⟩
     ·exact e.elim
    ·exact e.elim
  ·exact e.elim
 case cpy size =>
  simp only[za]at e
  unfold zjk at e
  split at e
  ·rename_i a dl _ _ b sl _ _
   split at e
   ·rename_i vs hv
    split at e
    ·rename_i h0
     have h9:=wM h hv
     rw[h0]at h9
     exact⟨0,.i .i64 0,S,by simp only[wg,AOp.cl,Wy,zhZ,zp,h0,h9,decide_true,cond_true],L,h,e⟩
    ·rename_i h0
     split at e
     ·rename_i a
      split at e
      ·rename_i L' hw
       obtain⟨h',hw',hm⟩:=zbA h hw
       exact⟨0,.i .i64 (Nat.min sl dl:Nat),{ S with h:=h' },by simp only[wg,AOp.cl,Wy,zhZ,wM h hv,zp,h0,decide_false,cond_false,hw'];rfl,L',hm,e⟩
      ·exact e.elim
     ·exact e.elim
   ·exact e.elim
  ·exact e.elim
 case call f =>
  obtain⟨n,v,S',h1,h2⟩:=e S h
  exact⟨n,v,S',h1,h2⟩
 case callv =>
  simp only[za]at e
  unfold zgW at e
  split at e
  ·obtain⟨n,v,S',h1,h2⟩:=e S h
   exact⟨n,v,S',h1,h2⟩
  ·exact e.elim
 all_goals exact⟨0,zhj h rfl _ e⟩
end
section
variable {F:Nat→Option AFn}
theorem zfm {n m:Nat}(h:n≤m):Sub (xn F (Z1 F n)) (xn F (Z1 F m)):=Vu (X9 h)
theorem zdz (n:Nat)(v:AV)(l:List (Nat×AV)):yn (ziy n v l)=Env.put (yn l) n v:=by
 funext m
 rw[Yw]
 unfold Env.put
 rw[zp]
 by_cases h:m=n
 ·subst h;simp
 ·simp[h,Ne.symm h]
theorem zdy (n:Nat)(v:AV)(l:List (Nat×AV)):yn ((n,v)::l)=Env.put (yn l) n v:=rfl
theorem Wa (T:Tm)(x:Opd):evO (yn T.l) (yn T.r) x=x.ev T:=by cases x<;>rfl
theorem V8 (T:Tm):∀(as:List Opd),zir (yn T.l) (yn T.r) as=evs T as
 | []=>rfl
 | x::r=>by
  show evO _ _ x::zir _ _ r=x.ev T::evs T r
  rw[Wa,V8 T r]
theorem zeq (T:Tm)(d:Dst)(v:AV):putL (yn T.l) d v=yn (T.put v d).l:=by cases d<;>simp[putL,Tm.put,zdz]
theorem zen (T:Tm)(d:Dst)(v:AV):zik (yn T.r) d v=yn (T.put v d).r:=by cases d<;>simp[zik,Tm.put,zdy]
theorem zco:∀(vs:List AV) (i:Nat),zJ vs i=yn (za3 vs i)
 | [],_=>rfl
 | v::r,i=>by
  show (zJ r (Nat.succ i)).put i v=_
  rw[zco r]
  rfl
theorem zbE {S:St}{L:Lg}(h:Mod S L){o:Op1}{T:Tm}{k:AV→Lg→Prop}(e:zcM F o (yn T.l) (yn T.r) L k) :
  ∃n v S',wJ (xn F (Z1 F n)) o T S=some (T.put v o.dst,S')∧∃L',Mod S' L'∧k v L':=by
 unfold zcM at e
 split at e
 ·rename_i d x
  rw[Wa]at e
  exact⟨0,x.ev T,S,by simp only[wJ,ZH,wg,AOp.cl,opR,vT,rMv,zgj,zhT],L,h,e⟩
 ·rename_i d op args _
  rw[V8]at e
  obtain⟨n,v,S',h1,h2⟩:=zdQ h e
  exact⟨n,v,S',by simp only[wJ,ZH,h1],h2⟩
 ·rename_i d c w op args
  rw[Wa,V8]at e
  unfold zi at e
  split at e
  ·rename_i x hx
   by_cases hxw:x=w
   ·obtain⟨n,v,S',h1,h2⟩:=zdQ h (e.1 hxw)
    exact⟨n,v,S',by simp only[wJ,ZH,hx,hxw,beq_self_eq_true,h1],h2⟩
   ·have hb:(x==w)=false:=by simpa using hxw
    exact⟨0,.tup [],S,by simp only[wJ,ZH,hx,hb],L,h,e.2 (by cases x<;>cases w<;>simp_all)⟩
  ·exact e.elim
  ·rename_i h1 h2
   refine⟨0,.tup [],S,?_,L,h,e⟩
   have:ZH T (some (c,w))=some false:=by
    unfold ZH
    simp only
   simp only[wJ,this]
theorem W5 {n m:Nat}(h:n≤m){o:Op1}{T:Tm}{S:St}{r:Tm×St}(hs:wJ (xn F (Z1 F n)) o T S=some r):wJ (xn F (Z1 F m)) o T S=some r:=Xx (zfm h) hs
theorem zbD:∀{ops:List Op1} {T:Tm} {S:St} {L:Lg} {k:Env→Env→Lg→Prop},Mod S L→zfO F ops (yn T.l) (yn T.r) L k →
  ∃n T' S',Z7 (xn F (Z1 F n)) ops T S=some (T',S')∧∃L',Mod S' L'∧k (yn T'.l) (yn T'.r) L'
 | [],T,S,L,k,h,e=>⟨0,T,S,rfl,L,h,e⟩
 | o::r,T,S,L,k,h,e=>by
  have e':zcM F o (yn T.l) (yn T.r) L (fun v L'=>zfO F r (putL (yn T.l) o.dst v) (zik (yn T.r) o.dst v) L' k):=e
  obtain⟨n,v,S',h1,L',h2,h3⟩:=zbE h e'
  rw[zeq,zen]at h3
  obtain⟨m,T'',S'',h4,h5⟩:=zbD h2 h3
  refine⟨max n m,T'',S'',?_,h5⟩
  rw[wK,W5 (Nat.le_max_left n m) h1]
  exact YE (zfm (Nat.le_max_right n m)) h4
def zdG (tr:List (Env×Env×Lg))(hs:List (Tm×St)):Prop:=tr.length=hs.length∧∀(i:Nat) l t L,tr[i]?=some (l,t,L)→∃T S,hs[i]?=some (T,S)∧l=yn T.l∧t=yn T.r∧Mod S L
theorem zdG.snoc {tr:List (Env×Env×Lg)}{hs:List (Tm×St)}(h:zdG tr hs){T:Tm}{L:Lg}{S:St}(m:Mod S L):zdG (tr++[(yn T.l,yn T.r,L)]) (hs++[(T,S)]):=by
 refine⟨by simp[h.1],fun i l t L' e=>?_⟩
 rw[List.getElem?_append]at e ⊢
 rw[←h.1]
 split at e
 ·rename_i hi
  simp only[hi,if_true]
  exact h.2 i l t L' e
 ·rename_i hi
  simp only[hi,if_false]
  cases hj:i-tr.length with
  | zero=>rw[hj]at e;simp at e;obtain⟨rfl,rfl,rfl⟩:=e;exact⟨T,S,by simp,rfl,rfl,m⟩
  | succ j=>rw[hj]at e;simp at e
theorem zay {o:AOp}{vs:List AV}{L L':Lg}{S S':St}(h:Mod S L)(h':Mod S' L')(e:z8 o vs L L'):∃v v',vT o S.h vs=some v∧vT o S'.h vs=some v'∧vk v v'=true:=by
 unfold z8 at e
 split at e
 ·rename_i v v' h1 h2;exact⟨v,v',VL h h1,VL h' h2,e⟩
 ·exact e.elim
theorem zfw {ops:List Op1}{tr:List (Env×Env×Lg)}{hs:List (Tm×St)}(h:zdG tr hs){c:Nat×Nat}(e:zfx ops tr c):YN ops hs c=true:=by
 unfold zfx at e
 split at e
 ·rename_i o l t L l' t' L' h1 h2 h3
  obtain⟨T,S,h4,rfl,rfl,m⟩:=h.2 _ _ _ _ h2
  obtain⟨T',S',h5,_,_,m'⟩:=h.2 _ _ _ _ h3
  rw[V8]at e
  unfold YN
  simp only[h1,h4,h5]
  split at e
  ·rename_i hg
   obtain⟨v,v',e1,e2,e3⟩:=zay m m' e
   simp only[hg,ZH,e1,e2,e3]
  ·rename_i g w hg
   rw[Wa]at e
   simp only[hg,ZH]
   unfold Y7 at e
   split at e
   ·rename_i x hx
    simp only[hx]
    by_cases hxw:x=w
    ·obtain⟨v,v',e1,e2,e3⟩:=zay m m' (e hxw)
     simp only[hxw,beq_self_eq_true,e1,e2,e3]
    ·have hb:(x==w)=false:=by simpa using hxw
     simp only[hb]
   ·exact e.elim
   ·rename_i a1 a2
    generalize hz:g.ev T=z at *
    cases z<;>first | rfl | (exfalso;first | exact a1 _ rfl | exact a2 rfl)
 ·exact e.elim
theorem zaz {ops:List Op1}{tr:List (Env×Env×Lg)}{hs:List (Tm×St)}(h:zdG tr hs):∀{chk:List (Nat×Nat)},zfy ops tr chk→∀c,c∈chk→YN ops hs c=true
 | [],_,c,hc=>by cases hc
 | d::r,e,c,hc=>by
  rcases List.mem_cons.1 hc with rfl | hc
  ·exact zfw h e.1
  ·exact zaz h e.2 c hc
theorem Uw {ops:List Op1}{chk:List (Nat×Nat)}:∀{rest:List Op1} {tr:List (Env×Env×Lg)} {hs:List (Tm×St)} {T:Tm} {S:St} {L:Lg} {k:Kn},zdG tr hs→Mod S L→zdP F ops chk rest tr (yn T.l) (yn T.r) L k →
  ∃n t,Zz (xn F (Z1 F n)) rest T S=some t∧(∀c,c∈chk→YN ops (hs++t) c=true)∧∃T' S',ZD t=some (T',S')∧∃L',Mod S' L'∧k (yn T'.l) (yn T'.r) L'
 | [],tr,hs,T,S,L,k,hh,h,e=>⟨0,[(T,S)],rfl,zaz (hh.snoc h) e.1,T,S,rfl,L,h,e.2⟩
 | o::r,tr,hs,T,S,L,k,hh,h,e=>by
  have e':zcM F o (yn T.l) (yn T.r) L (fun v L'=>zdP F ops chk r (tr++[(yn T.l,yn T.r,L)]) (putL (yn T.l) o.dst v) (zik (yn T.r) o.dst v) L' k):=e
  obtain⟨n,v,S',h1,L',h2,h3⟩:=zbE h e'
  rw[zeq,zen]at h3
  obtain⟨m,t,h4,h5,h6⟩:=Uw (hh.snoc h) h2 h3
  obtain⟨T'',S'',h7,h8⟩:=h6
  refine⟨max n m,(T,S)::t,?_,?_,T'',S'',?_,h8⟩
  ·unfold Zz
   rw[W5 (Nat.le_max_left n m) h1]
   simp only[Xu (zfm (Nat.le_max_right n m)) h4,Option.map_some]
  ·intro c hc;have:=h5 c hc;rwa [List.append_assoc]at this
  ·cases t with
   | nil=>cases h7
   | cons a q=>exact h7
theorem zg2 (F:Nat→Option AFn)(a b:ACode)(l t:Env)(L:Lg)(k:Kn)(ke:Nat→Kn)(kr:Kn):wp F (.seq a b) l t L k ke kr=wp F a l t L (fun l t L=>wp F b l t L k ke kr) ke kr:=rfl
theorem zfM (F:Nat→Option AFn)(c:Opd)(x y:ACode)(l t:Env)(L:Lg)(k:Kn)(ke:Nat→Kn)(kr:Kn):wp F (.cond c x y) l t L k ke kr=zn (evO l t c) (wp F x l t L k ke kr) (wp F y l t L k ke kr):=rfl
theorem zfL (F:Nat→Option AFn)(c:ACode)(l t:Env)(L:Lg)(k:Kn)(ke:Nat→Kn)(kr:Kn):wp F (.loop c) l t L k ke kr=xC (fun l t L k=>wp F c l t L (fun l _ L=>k l L) ke kr) l L:=rfl
def Ends (F:Nat→Option AFn)(c:ACode)(T:Tm)(S:St)(k:Kn)(ke:Nat→Kn)(kr:Kn):Prop :=
 ∃n x T' S',Z1 F n c T S=some (x,T',S')∧∃L',Mod S' L'∧match x with
  | .norm=>k (yn T'.l) (yn T'.r) L'
  | .ex j=>ke j (yn T'.l) (yn T'.r) L'
  | .ret=>kr (yn T'.l) (yn T'.r) L'
theorem zaH:∀(c:ACode) {T:Tm} {S:St} {L:Lg} {k:Kn} {ke:Nat→Kn} {kr:Kn},Mod S L→wp F c (yn T.l) (yn T.r) L k ke kr→Ends F c T S k ke kr
 | .skip,T,S,L,k,ke,kr,h,e=>⟨1,.norm,T,S,rfl,L,h,e⟩
 | .exit id,T,S,L,k,ke,kr,h,e=>⟨1,.ex id,T,S,rfl,L,h,e⟩
 | .ret,T,S,L,k,ke,kr,h,e=>⟨1,.ret,T,S,rfl,L,h,e⟩
 | .reg ops,T,S,L,k,ke,kr,h,e=>by
  obtain⟨n,T',S',h1,L',h2,h3⟩:=zbD (T:={ T with r:=[] }) h e
  exact⟨n+1,.norm,T',S',by simp only[y4,xK,zgz,h1],L',h2,h3⟩
 | .regD ops chk,T,S,L,k,ke,kr,h,e=>by
  obtain⟨n,t,h1,h2,T',S',h3,L',h4,h5⟩:=Uw (T:={ T with r:=[] }) (hs:=[]) (tr:=[]) ⟨rfl,fun i l t L h=>by simp at h⟩ h e
  refine⟨n+1,.norm,T',S',?_,L',h4,h5⟩
  have:chk.all (YN ops t)=true:=List.all_eq_true.2 h2
  simp only[y4,xK,zcL,h1,this,cond_true,h3,Option.map_some]
 | .seq a b,T,S,L,k,ke,kr,h,e=>by
  have e':wp F a (yn T.l) (yn T.r) L (fun l t L=>wp F b l t L k ke kr) ke kr:=e
  obtain⟨n,x,T',S',h1,L',h2,h3⟩:=zaH a h e'
  cases x with
  | norm =>
   obtain⟨m,y,T'',S'',h4,h5⟩:=zaH b h2 h3
   refine⟨max n m+1,y,T'',S'',?_,h5⟩
   simp only[y4,xK,zgy,X9 (Nat.le_max_left n m) _ _ _ _ h1,X9 (Nat.le_max_right n m) _ _ _ _ h4]
  | ex j=>exact⟨n+1,.ex j,T',S',by simp only[y4,xK,zgy,h1],L',h2,h3⟩
  | ret=>exact⟨n+1,.ret,T',S',by simp only[y4,xK,zgy,h1],L',h2,h3⟩
 | .cond c x y,T,S,L,k,ke,kr,h,e=>by
  have e':zn (evO (yn T.l) (yn T.r) c) (wp F x (yn T.l) (yn T.r) L k ke kr) (wp F y (yn T.l) (yn T.r) L k ke kr):=e
  rw[Wa]at e'
  unfold zn at e'
  split at e'
  ·rename_i b hb
   cases b with
   | true =>
    obtain⟨n,z,T',S',h1,h2⟩:=zaH x h (e'.1 rfl)
    exact⟨n+1,z,T',S',by simp only[y4,xK,zaG,hb,h1],h2⟩
   | false =>
    obtain⟨n,z,T',S',h1,h2⟩:=zaH y h (e'.2 rfl)
    exact⟨n+1,z,T',S',by simp only[y4,xK,zaG,hb,h1],h2⟩
  ·exact e'.elim
 | .block id c,T,S,L,k,ke,kr,h,e=>by
  have e':wp F c (yn T.l) (yn T.r) L k (fun j l t L=>bif Nat.beq j id then k l t L else ke j l t L) kr:=e
  obtain⟨n,x,T',S',h1,L',h2,h3⟩:=zaH c h e'
  cases x with
  | norm=>exact⟨n+1,.norm,T',S',by simp only[y4,xK,Z3,h1],L',h2,h3⟩
  | ret=>exact⟨n+1,.ret,T',S',by simp only[y4,xK,Z3,h1],L',h2,h3⟩
  | ex j =>
   simp only[zp]at h3
   by_cases hj:j=id
   ·simp only[hj,decide_true,cond_true]at h3
    exact⟨n+1,.norm,T',S',by simp only[y4,xK,Z3,h1,zp,hj,decide_true,cond_true],L',h2,h3⟩
   ·simp only[hj,decide_false,cond_false]at h3
    exact⟨n+1,.ex j,T',S',by simp only[y4,xK,Z3,h1,zp,hj,decide_false,cond_false],L',h2,h3⟩
 | .loop c,T,S,L,k,ke,kr,h,e=>by
  obtain⟨I,⟨n,hn⟩,hI⟩:=e
  have key:∀n,∀T S L,Mod S L→I n (yn T.l) L→Ends F (.loop c) T S k ke kr:=by
   intro n
   induction n using Nat.strongRecOn with
   | ind n ih =>
    intro T S L h hn
    have e':wp F c (yn T.l) (yn T.r) L (fun l _ L=>∃m,m<n∧I m l L) ke kr:=hI n _ (yn T.r) L hn
    obtain⟨a,x,T',S',h1,L',h2,h3⟩:=zaH c h e'
    cases x with
    | norm =>
     obtain⟨m,hm,h3⟩:=h3
     obtain⟨b,y,T'',S'',h4,h5⟩:=ih m hm T' S' L' h2 h3
     refine⟨max a b+1,y,T'',S'',?_,h5⟩
     simp only[y4,xK,Uu,X9 (Nat.le_max_left a b) _ _ _ _ h1,X9 (Nat.le_max_right a b) _ _ _ _ h4]
    | ex j=>exact⟨a+1,.ex j,T',S',by simp only[y4,xK,Uu,h1],L',h2,h3⟩
    | ret=>exact⟨a+1,.ret,T',S',by simp only[y4,xK,Uu,h1],L',h2,h3⟩
  exact key n T S L h hn
theorem zc0 {T:Tm}{S:St}{L:Lg}(h:Mod S L){r:ResV}{v:AV}(e:YF (yn T.l) (yn T.r) L r=some v):W8 T S.h r=some v:=by
 cases r with
 | tmp t=>simp only[YF,Wa]at e;exact e
 | cell t sz =>
  simp only[YF,Wa]at e
  unfold W8
  simp only at e ⊢
  split at e
  ·rename_i a ha;simp only[ha];exact zgK h e
  ·cases e
theorem zbY {T:Tm}{S:St}{L:Lg}(h:Mod S L):∀{rs:List ResV} {l:List AV},zaS (yn T.l) (yn T.r) L rs=some l→zgI T S.h rs=some l
 | [],l,e=>e
 | r::rs,l,e=>by
  unfold zaS at e
  unfold zgI
  split at e
  ·rename_i v hv
   simp only[zc0 h hv]
   rw[Option.map_eq_some_iff]at e ⊢
   obtain⟨u,hu,e⟩:=e
   exact⟨u,zbY h hu,e⟩
  ·cases e
theorem zf0 {T:Tm}{S:St}{L:Lg}(h:Mod S L){rs:List ResV}{v:AV}(e:yz (yn T.l) (yn T.r) L rs=some v):zec T S.h rs=some v:=by
 unfold yz at e
 unfold zec
 cases hl:zaS (yn T.l) (yn T.r) L rs with
 | none=>rw[hl]at e;cases e
 | some l =>
  rw[hl]at e
  rw[zbY h hl]
  match l with
  | []=>exact e
  | [x]=>exact e
  | x::y::z=>exact e
def zl (v:Option AV)(Q:AV→Lg→Prop)(L:Lg):Prop:=match v with
 | some v=>∃L',zu L L'∧Q v L'
 | none=>False
def fin (rs:List ResV)(Q:AV→Lg→Prop):Kn:=fun l t L=>zl (yz l t L rs) Q L
theorem Wx {f:Nat}{fn:AFn}(hf:F f=some fn){vs:List AV}{L:Lg}{Q:AV→Lg→Prop}
  (e:wp F fn.body (zJ vs 0) Env.nil L (fin fn.res Q) (fun _ _ _ _=>False) (fin fn.res Q)):zd F f vs L Q:=by
 intro S h
 rw[zco]at e
 obtain⟨n,x,T',S',h1,L',h2,h3⟩:=zaH (T:=zgd vs) fn.body h e
 have key:fin fn.res Q (yn T'.l) (yn T'.r) L'→∃v L'',zec T' S'.h fn.res=some v∧Mod S' L''∧Q v L'':=by
  intro h3
  unfold fin zl at h3
  split at h3
  ·rename_i v hv
   obtain⟨L'',hs,hq⟩:=h3
   exact⟨v,L'',zf0 h2 hv,hs _ h2,hq⟩
  ·exact h3.elim
 cases x with
 | norm =>
  obtain⟨v,L'',h4,h5,h6⟩:=key h3
  exact⟨n,v,S',by simp only[zaA,xn,hf,h1,h4,Option.map_some],L'',h5,h6⟩
 | ret =>
  obtain⟨v,L'',h4,h5,h6⟩:=key h3
  exact⟨n,v,S',by simp only[zaA,xn,hf,h1,h4,Option.map_some],L'',h5,h6⟩
 | ex j=>exact h3.elim
theorem zd.mono {f:Nat}{vs:List AV}{L:Lg}{Q Q':AV→Lg→Prop}(h:zd F f vs L Q)(hq:∀v L,Q v L→Q' v L):zd F f vs L Q':=by
 intro S m
 obtain⟨n,v,S',h1,L',h2,h3⟩:=h S m
 exact⟨n,v,S',h1,L',h2,hq _ _ h3⟩
theorem zd.sees {f:Nat}{vs:List AV}{L:Lg}{Q Q':AV→Lg→Prop}(h:zd F f vs L Q)(hq:∀v L,Q v L→∃L',zu L L'∧Q' v L'):zd F f vs L Q':=by
 intro S m
 obtain⟨n,v,S',h1,L',h2,h3⟩:=h S m
 obtain⟨L'',h4,h5⟩:=hq _ _ h3
 exact⟨n,v,S',h1,L'',h4 _ h2,h5⟩
theorem zd.pre {f:Nat}{vs:List AV}{L L':Lg}{Q:AV→Lg→Prop}(hs:zu L L')(h:zd F f vs L' Q):zd F f vs L Q:=fun S m=>h S (hs S m)
theorem zd.unfold {f:Nat}{vs:List AV}{L:Lg}{Q:AV→Lg→Prop}{r:Nat}{P:Hp→Prop}(e:L r=some (.abs P))
  (h:∀hm,P hm→∃M,Sat M hm∧((∀b c,M b=some c→b≠r→L b=none)→zd F f vs (M.over (L.del r)) Q)):zd F f vs L Q:=by
 intro S m
 obtain⟨hm,hP,hM⟩:=m.unfold e
 obtain⟨M,hs,hc⟩:=h hm hP
 obtain⟨m1,hf⟩:=hM M hs
 exact hc hf S m1
end
end
section
theorem zK {α:Type}{a b:α}(h:a=b):a=b:=h
def zch {α:Type}(x:α):α:=if 0=0 then x else x
@[simp] theorem zf {α:Type}(x:α):zch x=x:=by simp[zch]
@[congr] theorem zih {F o vs vs' L k}(h:zch vs=vs'):za F o vs L k=za F o vs' L k:=by rw[←h,zf]
@[congr] theorem ziq {F v v' w o vs L k}(h:zch v=v'):zi F v w o vs L k=zi F v' w o vs L k:=by rw[←h,zf]
@[congr] theorem zh4 {v v' X Y}(h:zch v=v'):zn v X Y=zn v' X Y:=by rw[←h,zf]
@[congr] theorem zij {r r' L k}(h:zch r=r'):WC r L k=WC r' L k:=by rw[←h,zf]
@[congr] theorem zil {f vs vs' L k}(h:zch vs=vs'):Xp f vs L k=Xp f vs' L k:=by rw[←h,zf]
@[congr] theorem zif {F f vs vs' L Q}(h:zch vs=vs'):zd F f vs L Q=zd F f vs' L Q:=by rw[←h,zf]
@[congr] theorem ziL {sz L k vs vs'}(h:zch vs=vs'):stL sz L k vs=stL sz L k vs':=by rw[←h,zf]
@[congr] theorem zhE {L k vs vs'}(h:zch vs=vs'):VY L k vs=VY L k vs':=by rw[←h,zf]
@[congr] theorem zhG {L k vs vs'}(h:zch vs=vs'):V1 L k vs=V1 L k vs':=by rw[←h,zf]
@[congr] theorem ziz {s b L k vs vs'}(h:zch vs=vs'):Xh s b L k vs=Xh s b L k vs':=by rw[←h,zf]
@[congr] theorem ziu {z L k vs vs'}(h:zch vs=vs'):ziv z L k vs=ziv z L k vs':=by rw[←h,zf]
@[congr] theorem zit {s L k vs vs'}(h:zch vs=vs'):zjk s L k vs=zjk s L k vs':=by rw[←h,zf]
@[simp] theorem Env.put_apply (l:Env)(n:Nat)(v:AV)(m:Nat):(l.put n v) m=if n=m then v else l m:=by
 unfold Env.put;rw[zp];by_cases h:n=m<;>simp[h]
section
variable (F:Nat→Option AFn)
theorem wT (x w:Bool)(o vs L k):zi F (.b x) w o vs L k=((x=w→za F o vs L k)∧(x=(!w)→k (.tup []) L)):=zK rfl
@[simp] theorem zx (w:Bool)(o vs L k):zi F (.b w) w o vs L k=za F o vs L k:=by simp[wT]
@[simp] theorem YJ (o vs L k):zi F (.b true) false o vs L k=k (.tup []) L:=by simp[wT]
@[simp] theorem Ze (o vs L k):zi F (.b false) true o vs L k=k (.tup []) L:=by simp[wT]
@[simp] theorem gdOp_dt (p:Prop)[Decidable p](o vs L k):zi F (.b (decide p)) true o vs L k=((p→za F o vs L k)∧(¬p→k (.tup []) L)):=by simp[wT]
@[simp] theorem gdOp_df (p:Prop)[Decidable p](o vs L k):zi F (.b (decide p)) false o vs L k=((¬p→za F o vs L k)∧(p→k (.tup []) L)):=by simp[wT]
@[simp] theorem xv (l w o vs L k):zi F (.tup l) w o vs L k=k (.tup []) L:=zK rfl
theorem xE (x:Bool)(X Y:Prop):zn (.b x) X Y=((x=true→X)∧(x=false→Y)):=zK rfl
@[simp] theorem zZ (X Y:Prop):zn (.b true) X Y=X:=by simp[xE]
@[simp] theorem zB (X Y:Prop):zn (.b false) X Y=Y:=by simp[xE]
@[simp] theorem zR (p:Prop)[Decidable p](X Y:Prop):zn (.b (decide p)) X Y=((p→X)∧(¬p→Y)):=by simp[xE]
@[simp] theorem condW_nd (p:Prop)[Decidable p](X Y:Prop):zn (.b (!decide p)) X Y=((¬p→X)∧(p→Y)):=by simp[xE]
@[simp] theorem gdOp_ndt (p:Prop)[Decidable p](o vs L k):zi F (.b (!decide p)) true o vs L k=((¬p→za F o vs L k)∧(p→k (.tup []) L)):=by simp[wT]
@[simp] theorem gdOp_ndf (p:Prop)[Decidable p](o vs L k):zi F (.b (!decide p)) false o vs L k=((p→za F o vs L k)∧(¬p→k (.tup []) L)):=by simp[wT]
variable (L:Lg) (k:AV→Lg→Prop)
@[simp] theorem yk (x:AV):za F .mv [x] L k=k x L:=zK rfl
theorem zdO (c:Bool)(x y:AV):za F .pick [.b c,x,y] L k=k (bif c then x else y) L:=zK rfl
@[simp] theorem zT (x y:AV):za F .pick [.b true,x,y] L k=k x L:=zK rfl
@[simp] theorem zX (x y:AV):za F .pick [.b false,x,y] L k=k y L:=zK rfl
@[simp] theorem zg3 (c d:Bool):za F .pick [.b c,.b d,.b false] L k=k (.b (c&&d)) L:=by rw[zdO];cases c<;>rfl
@[simp] theorem zig (c d:Bool):za F .pick [.b c,.b true,.b d] L k=k (.b (c||d)) L:=by rw[zdO];cases c<;>rfl
@[simp] theorem wp_build (z ps vs):za F (.build z ps) vs L k=WC ((zE z ps vs).map .agg) L k:=zK rfl
@[simp] theorem zh (v):WC (some v) L k=k v L:=zK rfl
@[simp] theorem zg (a):za F .nilchk [.p (some a)] L k=k (.p (some a)) L:=zK rfl
@[simp] theorem zg4 (f a b):za F .nilchk [.fn f a b] L k=k (.fn f a b) L:=zK rfl
@[simp] theorem xl (a b:Int)(j):za F (.bin .add) [.i j a,.i j b] L k=k (.i j (wr j (a+b))) L:=by
 have:kEq j j=true:=by cases j<;>rfl
 simp[za,yB,vT,zb2,za2,this,zcA]
@[simp] theorem zbB (a b:Int)(j):za F (.bin .sub) [.i j a,.i j b] L k=k (.i j (wr j (a-b))) L:=by
 have:kEq j j=true:=by cases j<;>rfl
 simp[za,yB,vT,zb2,za2,this,zcA]
@[simp] theorem wp_mul (a b:Int)(j):za F (.bin .mul) [.i j a,.i j b] L k=k (.i j (wr j (a * b))) L:=by
 have:kEq j j=true:=by cases j<;>rfl
 simp[za,yB,vT,zb2,za2,this,zcA]
theorem Wm (a b:Int):(a==b)=decide (a=b):=by rw[Bool.eq_iff_iff];simp
theorem Uv (a b:Int)(j)(h:b≠0):za F (.bin .quo) [.i j a,.i j b] L k=k (.i j (wr j (a.tdiv b))) L:=by
 have:kEq j j=true:=by cases j<;>rfl
 simp[za,yB,vT,zb2,za2,this,zcA,wR,Wm,h]
theorem zgA (a b:Int)(j)(h:b≠0):za F (.bin .rem) [.i j a,.i j b] L k=k (.i j (a.tmod b)) L:=by
 have:kEq j j=true:=by cases j<;>rfl
 simp[za,yB,vT,zb2,za2,this,zcA,wR,Wm,h]
@[simp] theorem xL (a b:Int)(j):za F (.bin .eql) [.i j a,.i j b] L k=k (.b (decide (a=b))) L:=by
 have:kEq j j=true:=by cases j<;>rfl
 simp[za,yB,vT,zb2,za2,this,zcA,wR,Wm]
@[simp] theorem w7 (a b:Int)(j):za F (.bin .neq) [.i j a,.i j b] L k=k (.b (decide (a≠b))) L:=by
 have:kEq j j=true:=by cases j<;>rfl
 simp[za,yB,vT,zb2,za2,this,zcA,wR,Wm]
@[simp] theorem y0 (a b:Int)(j):za F (.bin .lss) [.i j a,.i j b] L k=k (.b (decide (a<b))) L:=by
 have:kEq j j=true:=by cases j<;>rfl
 simp[za,yB,vT,zb2,za2,this,zcA,Za]
@[simp] theorem zbC (a b:Int)(j):za F (.bin .leq) [.i j a,.i j b] L k=k (.b (decide (a≤b))) L:=by
 have:kEq j j=true:=by cases j<;>rfl
 simp[za,yB,vT,zb2,za2,this,zcA,Za,←Int.not_lt]
@[simp] theorem vQ (a b:Int)(j):za F (.bin .gtr) [.i j a,.i j b] L k=k (.b (decide (b<a))) L:=by
 have:kEq j j=true:=by cases j<;>rfl
 simp[za,yB,vT,zb2,za2,this,zcA,Za]
@[simp] theorem vK (a b:Int)(j):za F (.bin .geq) [.i j a,.i j b] L k=k (.b (decide (b≤a))) L:=by
 have:kEq j j=true:=by cases j<;>rfl
 simp[za,yB,vT,zb2,za2,this,zcA,Za,←Int.not_lt]
@[simp] theorem wp_sbin (o x y):za F (.sbin o) [.s x,.s y] L k=WC (binS o x y) L k:=zK rfl
@[simp] theorem wp_eqb (ng:Bool)(x y:Bool):za F (.eq ng .bool) [.b x,.b y] L k=k (.b ((x==y) != ng)) L:=zK rfl
theorem ziG (ng:Bool)(x y):za F (.eq ng .ptr) [.p x,.p y] L k=WC ((zhX L x y).map fun r=>.b (r != ng)) L k:=zK rfl
@[simp] theorem Z4 (ng:Bool):za F (.eq ng .ptr) [.p none,.p none] L k=k (.b (!ng)) L:=by cases ng<;>rfl
@[simp] theorem wI (ng:Bool)(a):za F (.eq ng .ptr) [.p (some a),.p none] L k=k (.b ng) L:=by cases ng<;>rfl
@[simp] theorem ziF (ng:Bool)(a):za F (.eq ng .ptr) [.p none,.p (some a)] L k=k (.b ng) L:=by cases ng<;>rfl
@[simp] theorem ziE (ng:Bool)(a b c):za F (.eq ng .slnil) [.sl none a b c,.sl none 0 0 0] L k=k (.b (!ng)) L:=by cases ng<;>rfl
@[simp] theorem ziD (ng:Bool)(r a b c):za F (.eq ng .slnil) [.sl (some r) a b c,.sl none 0 0 0] L k=k (.b ng) L:=by cases ng<;>rfl
@[simp] theorem wp_eqm_n (ng:Bool):za F (.eq ng .mapnil) [.m none,.m none] L k=k (.b (!ng)) L:=by cases ng<;>rfl
@[simp] theorem wp_eqm_s (ng:Bool)(r):za F (.eq ng .mapnil) [.m (some r),.m none] L k=k (.b ng) L:=by cases ng<;>rfl
theorem zfN (ng:Bool)(fs x y):za F (.eq ng (.agg fs)) [.agg x,.agg y] L k=WC ((zgR x y fs).map fun r=>.b (r != ng)) L k:=zK rfl
@[simp] theorem yf (x:Bool):za F (.un .not) [.b x] L k=k (.b (!x)) L:=zK rfl
@[simp] theorem ziC (n:Int)(j):za F (.un .neg) [.i j n] L k=k (.i j (wr j (0-n))) L:=zK rfl
@[simp] theorem wp_cvtI (n:Int)(i j):za F (.cvtI j) [.i i n] L k=k (.i j (wr j n)) L:=zK rfl
@[simp] theorem wp_cvtS (x):za F .cvtS [.s x] L k=k (.s x) L:=zK rfl
@[simp] theorem wp_mkif (t x):za F (.mkif t) [x] L k=k (.ifc t x) L:=zK rfl
@[simp] theorem wp_mkfn (f n vs):za F (.mkfn f n) vs L k=k (.fn f (vs.take n) (vs.drop n)) L:=zK rfl
@[simp] theorem YQ (s lo hi mx vs):za F (.slc s lo hi mx) vs L k=WC (zaP s lo hi mx vs) L k:=zK rfl
@[simp] theorem wp_slcS (lo hi vs):za F (.slcS lo hi) vs L k=WC (zhg lo hi vs) L k:=zK rfl
@[simp] theorem zj (off n o):za F (.fad off) [.p (some (n,o))] L k=k (.p (some (n,o+off))) L:=zK rfl
@[simp] theorem wp_fld (off sz l):za F (.fld off sz) [.agg l] L k=WC (zO l off sz) L k:=zK rfl
theorem zhr (s n o len c e:Nat)(i)(x:Int)(h0:0≤x)(h1:x<len)(h:PM AB):rIad s h [.sl (some (n,o)) len c e,.i i x]=some (.p (some (n,o+x.toNat * s))):=by
 obtain⟨m,rfl⟩:=Int.eq_ofNat_of_zero_le h0
 have:Nat.blt m len=true:=by rw[yU];simp;omega
 show (bif Nat.blt m len then _ else _)=_
 rw[this];rfl
theorem yF (s n o len c e:Nat)(i)(x:Int)(h0:0≤x)(h1:x<len):za F (.iad s) [.sl (some (n,o)) len c e,.i i x] L k=k (.p (some (n,o+x.toNat * s))) L:=by
 simp[za,yB,vT,zhr s n o len c e i x h0 h1]
@[simp] theorem yb (n l):za F (.ext n) [.tup l] L k=WC l[n]? L k:=zK rfl
@[simp] theorem wp_lenSl (a n c e):za F .lenSl [.sl a n c e] L k=k (.i .i64 n) L:=zK rfl
@[simp] theorem wp_lenS (x):za F .lenS [.s x] L k=k (.i .i64 x.length) L:=zK rfl
@[simp] theorem wp_lenC (n x):za F (.lenC n) [x] L k=k (.i .i64 n) L:=zK rfl
@[simp] theorem wp_min2 (a b:Int)(j):za F .min [.i j a,.i j b] L k=k (.i j (min a b)) L:=by
 have:kEq j j=true:=by cases j<;>rfl
 simp only[za,yB,vT,rMin,zfH,this,cond_true,WC,Za]
 congr 2
 by_cases h:b<a
 ·simp[h];omega
 ·simp[h];omega
@[simp] theorem wp_max2 (a b:Int)(j):za F .max [.i j a,.i j b] L k=k (.i j (max a b)) L:=by
 have:kEq j j=true:=by cases j<;>rfl
 simp only[za,yB,vT,ziO,zfH,this,cond_true,WC,Za]
 congr 2
 by_cases h:a<b
 ·simp[h];omega
 ·simp[h];omega
@[simp] theorem wp_max3 (a b c:Int)(j):za F .max [.i j a,.i j b,.i j c] L k=k (.i j (max (max a b) c)) L:=by
 have:kEq j j=true:=by cases j<;>rfl
 simp only[za,yB,vT,ziO,zfH,this,cond_true,WC,Za]
 congr 2
 by_cases h:a<b
 ·simp only[h,decide_true,cond_true]
  by_cases h2:b<c
  ·simp[h2];omega
  ·simp[h2];omega
 ·simp only[h,decide_false,cond_false]
  by_cases h2:a<c
  ·simp[h2];omega
  ·simp[h2];omega
@[simp] theorem zt (sz a):za F (.ld sz) [.p (some a)] L k=WC (rdL L a sz) L k:=zK rfl
@[simp] theorem zg7 (z ok vs):za F (.lkup z ok) vs L k=WC (w9 z ok L vs) L k:=zK rfl
@[simp] theorem wp_mlen (vs):za F .mlen vs L k=WC (zb1 L vs) L k:=zK rfl
@[simp] theorem xa (z):za F (.alloc z) [] L k=∀b,L b=none→k (.p (some (b,0))) (L.put b (.raw (.cells z))):=zK rfl
@[simp] theorem vR (z len size ps vs):za F (.bslice z len size ps) vs L k=Xp (Zo z len size ps) vs L k:=zK rfl
@[simp] theorem ZB (v):za F .box [v] L k=Xp zbt [v] L k:=zK rfl
@[simp] theorem wp_mkmap:za F .mkmap [] L k=∀b,L b=none→k (.m (some b)) (L.put b (.raw (.map []))):=zK rfl
theorem zg5 (z bytes i j)(l c:Nat)(h:l≤c)(h2:c * bytes≤70368744177664):za F (.mksl z bytes) [.i i l,.i j c] L k=∀b,L b=none→k (.sl (some (b,0)) l c 0) (L.put b (.raw (.cells (y5 z c)))):=by
 have e:∀b,zfA z bytes b [.i i l,.i j c]=some (.cells (y5 z c),.sl (some (b,0)) l c 0):=by
  intro b
  show (bif Nat.ble l c&&Nat.ble (c * bytes) 70368744177664 then _ else _)=_
  simp[zq,h,h2]
 simp[za,Xp,e]
@[simp] theorem yv (sz a v):za F (.st sz) [.p (some a),v] L k=stL sz L k [.p (some a),v]:=zK rfl
@[simp] theorem wp_mset (vs):za F .mset vs L k=VY L k vs:=zK rfl
@[simp] theorem wp_mdel (vs):za F .mdel vs L k=V1 L k vs:=zK rfl
@[simp] theorem WU (s b vs):za F (.app s b) vs L k=Xh s b L k vs:=zK rfl
@[simp] theorem wp_clr (z vs):za F (.clr z) vs L k=ziv z L k vs:=zK rfl
@[simp] theorem wp_cpy (s vs):za F (.cpy s) vs L k=zjk s L k vs:=zK rfl
@[simp] theorem xG (f vs):za F (.call f) vs L k=zd F f vs L k:=zK rfl
@[simp] theorem wp_callv (f fst cap vs):za F .callv (.fn f fst cap::vs) L k=zd F f (fst++vs++cap) L k:=zK rfl
end
@[simp] theorem zjc (v:AV)(Q:AV→Lg→Prop)(L:Lg):zl (some v) Q L=∃L',zu L L'∧Q v L':=zK rfl
@[simp] theorem zii (c:List AV)(n:Nat):zo c n []=c:=by simp[zo]
@[simp] theorem zjp (x):(AV.b x).cellsOf=some [.b x]:=zK rfl
@[simp] theorem zjo (j x):(AV.i j x).cellsOf=some [.i j x]:=zK rfl
@[simp] theorem zjl (x):(AV.s x).cellsOf=some [.s x]:=zK rfl
@[simp] theorem zjm (x):(AV.p x).cellsOf=some [.p x]:=zK rfl
@[simp] theorem zjn (x):(AV.m x).cellsOf=some [.m x]:=zK rfl
@[simp] theorem ziw (a b c d):(AV.sl a b c d).cellsOf=some [.sl a b c d]:=zK rfl
@[simp] theorem zix (a b c):(AV.fn a b c).cellsOf=some [.fn a b c]:=zK rfl
@[simp] theorem zh6 (a b):(AV.ifc a b).cellsOf=some [.ifc a b]:=zK rfl
@[simp] theorem zgU:(AV.nili).cellsOf=some [.nili]:=zK rfl
@[simp] theorem zgV:(AV.nilf).cellsOf=some [.nilf]:=zK rfl
theorem ZR (l:List AV)(h:l.all AV.one=true):(AV.agg l).cellsOf=some l:=by simp[AV.cellsOf,h]
@[simp] theorem one_b (x):(AV.b x).one=true:=zK rfl
@[simp] theorem one_i (j x):(AV.i j x).one=true:=zK rfl
@[simp] theorem one_s (x):(AV.s x).one=true:=zK rfl
@[simp] theorem one_p (x):(AV.p x).one=true:=zK rfl
@[simp] theorem one_m (x):(AV.m x).one=true:=zK rfl
@[simp] theorem one_sl (a b c d):(AV.sl a b c d).one=true:=zK rfl
@[simp] theorem one_fn (a b c):(AV.fn a b c).one=true:=zK rfl
abbrev TF:=Nat→Option AFn
abbrev TQ:=AV→Lg→Prop
abbrev TK:=Env→Lg→Prop
def nE:Nat→Kn:=fun _ _ _ _=>False
section
variable {F:TF} {l t:Env} {L:Lg} {k:Kn} {ke:Nat→Kn} {kr:Kn} {Z:Prop}
theorem wpS {a b:ACode}{G:Kn}(h:∀l t L,wp F b l t L k ke kr=G l t L)(e:wp F a l t L G ke kr=Z):wp F (.seq a b) l t L k ke kr=Z:=by
 rw[←e,zg2]
 exact congrArg (fun X:Kn=>wp F a l t L X ke kr) (funext fun l=>funext fun t=>funext fun L=>h l t L)
theorem wpC {c:Opd}{x y:ACode}{X Y:Prop}(hx:wp F x l t L k ke kr=X)(hy:wp F y l t L k ke kr=Y)(e:zn (evO l t c) X Y=Z):wp F (.cond c x y) l t L k ke kr=Z:=by
 rw[←e,zfM,hx,hy]
theorem wpL {c:ACode}{B:Env→Env→Lg→TK→Prop}(h:∀l t L (k:TK),wp F c l t L (fun l _ L=>k l L) ke kr=B l t L k)(e:xC B l L=Z):wp F (.loop c) l t L k ke kr=Z:=by
 rw[←e,zfL]
 exact congrArg (fun B=>xC B l L) (funext fun l=>funext fun t=>funext fun L=>funext fun k=>h l t L k)
end
end
section
def Lg.two (r b:Nat)(c d:LC):Lg:=fun m=>if m=r then some c else if m=b then some d else none
theorem zb8 (L:Lg){r b:Nat}(h:b≠r)(c d:LC):(Lg.two r b c d).over L=(L.put b d).put r c:=by
 funext m
 unfold Lg.over Lg.two Lg.put
 by_cases h1:m=r
 ·simp[h1]
 ·by_cases h2:m=b
  ·subst h2;simp[h1]
  ·simp[h1,h2]
theorem zb9 (M L:Lg){r:Nat}(h:M r≠none):M.over (L.del r)=M.over L:=by
 funext m
 unfold Lg.over Lg.del
 by_cases h1:m=r
 ·subst h1
  cases h2:M m with
  | none=>exact absurd h2 h
  | some c=>rfl
 ·simp[h1]
theorem yX {F:Nat→Option AFn}{f:Nat}{vs:List AV}{L:Lg}{Q:AV→Lg→Prop}{r:Nat}{P:Hp→Prop}(e:L r=some (.abs P))
  (h:∀hm,P hm→∃M:Lg,Sat M hm∧M r≠none∧((∀b c,M b=some c→b≠r→L b=none)→zd F f vs (M.over L) Q)):zd F f vs L Q:=by
 apply zd.unfold e
 intro hm hP
 obtain⟨M,hs,hr,hc⟩:=h hm hP
 refine⟨M,hs,fun hf=>?_⟩
 rw[zb9 M L hr]
 exact hc hf
theorem zu.shut {L M:Lg}{r:Nat}{P:Hp→Prop}(hf:∀b c,M b=some c→b≠r→L b=none)(hr:(∃cs,M r=some (.raw (.cells cs)))∨∃Q,M r=some (.abs Q))(hP:∀h,Sat M h→P h):zu (M.over L) (L.put r (.abs P)):=by
 have h1:=zfC (L:=M.over L) (M:=M) (r:=r) (P:=P) (fun b c hb=>by simp[Lg.over,hb]) hr hP
 have h2:((M.over L).minus M).put r (.abs P)=L.put r (.abs P):=by
  funext m
  unfold Lg.put
  by_cases hm:m=r
  ·simp[hm]
  ·simp only[hm,if_false]
   cases h3:M m with
   | none=>simp[Lg.over,Lg.minus,h3]
   | some c=>simp only[Lg.minus,h3];exact (hf m c h3 hm).symm
 rw[h2]at h1
 exact h1
theorem yW {L Lf:Lg}{r:Nat}{P:Hp→Prop}(ids:Nat→Prop)(hr:ids r)(h1:∀b c,¬ids b→L b=some c→Lf b=some c)(h2:∀b,ids b→b≠r→L b=none)
  (h3:(∃cs,Lf r=some (.raw (.cells cs)))∨∃Q,Lf r=some (.abs Q)) (hP:∀(M:Lg) h,(∀b,ids b→M b=Lf b)→(∀b,¬ids b→M b=none)→Sat M h→P h):zu Lf (L.put r (.abs P)):=by
 classical
 let M:Lg:=fun b=>if ids b then Lf b else none
 have hM:∀b,ids b→M b=Lf b:=fun b hb=>by simp[M,hb]
 have hN:∀b,¬ids b→M b=none:=fun b hb=>by simp[M,hb]
 have e1:zu Lf (M.over L):=by
  apply zu.drop
  intro b c hb
  unfold Lg.over at hb
  by_cases hi:ids b
  ·rw[hM b hi]at hb
   cases h4:Lf b with
   | some d=>rw[h4]at hb;exact hb
   | none =>
    rw[h4]at hb
    by_cases hbr:b=r
    ·subst hbr;rcases h3 with⟨cs,h3⟩ | ⟨Q,h3⟩<;>rw[h3]at h4<;>cases h4
    ·rw[h2 b hi hbr]at hb;cases hb
  ·rw[hN b hi]at hb
   exact h1 b c hi hb
 refine e1.trans (zu.shut ?_ ?_ fun h hs=>hP M h hM hN hs)
 ·intro b c hb hbr
  by_cases hi:ids b
  ·exact h2 b hi hbr
  ·rw[hN b hi]at hb;cases hb
 ·rw[hM r hr];exact h3
theorem vJ {F:Nat→Option AFn}{f:Nat}{vs:List AV}{L:Lg}{Q:AV→Lg→Prop}{r:Nat}{P:Hp→Prop}(e:L r=some (.abs P))
  (h:∀hm,P hm→∃b c d,b≠r∧Sat (Lg.two r b c d) hm∧(L b=none→zd F f vs ((L.put b d).put r c) Q)):zd F f vs L Q:=by
 apply yX e
 intro hm hP
 obtain⟨b,c,d,hb,hs,hc⟩:=h hm hP
 refine⟨Lg.two r b c d,hs,by simp[Lg.two],fun hf=>?_⟩
 rw[zb8 L hb]
 exact hc (hf b d (by simp[Lg.two,hb]) hb)
theorem wH {L:Lg}{r b:Nat}{cs:List AV}{d:LC}{P:Hp→Prop}(hb:b≠r)(hf:L b=none)(hP:∀h,Sat (Lg.two r b (.raw (.cells cs)) d) h→P h):zu ((L.put b d).put r (.raw (.cells cs))) (L.put r (.abs P)):=by
 rw[←zb8 L hb]
 refine zu.shut ?_ (.inl ⟨cs,by simp[Lg.two]⟩) hP
 intro b' c' h1 h2
 unfold Lg.two at h1
 simp only[h2,if_false]at h1
 split at h1
 ·rename_i h3;subst h3;exact hf
 ·cases h1
theorem zid (L:Lg){n m:Nat}(h:n≠m)(c d e:LC):((L.put n c).put m d).put n e=(L.put n e).put m d:=by
 rw[yJ _ (Ne.symm h),zA]
@[simp] theorem kEq_self (j:IntKind):kEq j j=true:=by cases j<;>rfl
theorem Uj (n:Nat):Nat.beq n n=true:=by rw[zp];simp
@[simp] theorem sameV_i (j:IntKind)(x:Int):vk (.i j x) (.i j x)=true:=by simp[vk,YD,wR]
@[simp] theorem sameV_b (x:Bool):vk (.b x) (.b x)=true:=by simp[vk,YD]
@[simp] theorem sameV_p (x:Option (Nat×Nat)):vk (.p x) (.p x)=true:=by cases x<;>simp[vk,YD,Uj]
@[simp] theorem sameV_m (x:Option Nat):vk (.m x) (.m x)=true:=by cases x<;>simp[vk,YD,Uj]
@[simp] theorem sameV_sl (a:Option (Nat×Nat))(n c e:Nat):vk (.sl a n c e) (.sl a n c e)=true:=by cases a<;>simp[vk,YD,Uj]
theorem xf (c:List AV)(o:Nat)(v:AV)(h:o<c.length):zo c o [v]=c.set o v:=by
 unfold zo
 rw[List.set_eq_take_append_cons_drop]
 simp[h]
theorem zk {L:Lg}{b o:Nat}{c:List AV}(h:L b=some (.raw (.cells c))):rdL L (b,o) none=c[o]?:=by
 simp[rdL,h,AB.read,zO]
theorem yj {L:Lg}{b o n:Nat}{c:List AV}(h:L b=some (.raw (.cells c)))(hn:o+n≤c.length):rdL L (b,o) (some n)=some (.agg ((c.drop o).take n)):=by
 simp[rdL,h,AB.read,zO,cut,zq,hn]
theorem zgJ {L:Lg}{b o:Nat}{c:List AV}(h:L b=some (.raw (.ro c))):rdL L (b,o) none=c[o]?:=by
 simp[rdL,h,AB.read,zO]
theorem zaT {L:Lg}{b o n:Nat}{c:List AV}(h:L b=some (.raw (.ro c)))(hn:o+n≤c.length):rdL L (b,o) (some n)=some (.agg ((c.drop o).take n)):=by
 simp[rdL,h,AB.read,zO,cut,zq,hn]
theorem zH {L:Lg}{b o:Nat}{c:List AV}{v:AV}{k:AV→Lg→Prop}(h:L b=some (.raw (.cells c)))(ho:o<c.length)(hv:v.cellsOf=some [v]):stL 1 L k [.p (some (b,o)),v]=k .bad (L.put b (.raw (.cells (c.set o v)))):=by
 have h1:v.one=true:=by
  have:=vF hv
  simpa using this
 have h2:o+1≤c.length:=ho
 simp[stL,hv,wrL,h,h1,xf c o v ho,h2]
theorem zw {L:Lg}{b o n:Nat}{c l:List AV}{k:AV→Lg→Prop}(h:L b=some (.raw (.cells c)))(hl:l.all AV.one=true)(hn:l.length=n)(ho:o+n≤c.length):stL n L k [.p (some (b,o)),.agg l]=k .bad (L.put b (.raw (.cells (zo c o l)))):=by
 subst hn
 have hl':∀x,x∈l→x.one=true:=List.all_eq_true.1 hl
 simp only[stL,ZR l hl,if_true,wrL,h,ho,hl,and_self]
theorem xT (l:List AV):(AV.agg l).cellsOf=if l.all AV.one=true then some l else none:=by
 simp only[AV.cellsOf]
 cases h:l.all AV.one<;>simp
theorem Yh (v:AV)(L:Lg)(k:AV→Lg→Prop){l:List AV}(hv:v.cellsOf=some l):Xp zbt [v] L k=∀b,L b=none→k (.p (some (b,0))) (L.put b (.raw (.cells l))):=by
 simp[Xp,zbt,hv]
theorem zN (l:List AV)(L:Lg)(k:AV→Lg→Prop)(h:l.all AV.one=true):Xp zbt [.agg l] L k=∀b,L b=none→k (.p (some (b,0))) (L.put b (.raw (.cells l))):=Yh _ L k (ZR l h)
@[simp] theorem zf7 (x y:AV)(L:Lg)(k:AV→Lg→Prop)(h1:x.one=true)(h2:y.one=true):Xp zbt [.agg [x,y]] L k=∀b,L b=none→k (.p (some (b,0))) (L.put b (.raw (.cells [x,y]))):=zN _ L k (by simp[h1,h2])
@[simp] theorem zf6 (x y z:AV)(L:Lg)(k:AV→Lg→Prop)(h1:x.one=true)(h2:y.one=true)(h3:z.one=true):Xp zbt [.agg [x,y,z]] L k=∀b,L b=none→k (.p (some (b,0))) (L.put b (.raw (.cells [x,y,z]))):=zN _ L k (by simp[h1,h2,h3])
@[simp] theorem zf5 (x y z u v:AV)(L:Lg)(k:AV→Lg→Prop)(h1:x.one=true)(h2:y.one=true)(h3:z.one=true)(h4:u.one=true)(h5:v.one=true):Xp zbt [.agg [x,y,z,u,v]] L k=∀b,L b=none→k (.p (some (b,0))) (L.put b (.raw (.cells [x,y,z,u,v]))):=zN _ L k (by simp[h1,h2,h3,h4,h5])
@[simp] theorem zin (j n)(L:Lg)(k:AV→Lg→Prop):Xp zbt [.i j n] L k=∀b,L b=none→k (.p (some (b,0))) (L.put b (.raw (.cells [.i j n]))):=Yh _ L k rfl
@[simp] theorem zio (n)(L:Lg)(k:AV→Lg→Prop):Xp zbt [.b n] L k=∀b,L b=none→k (.p (some (b,0))) (L.put b (.raw (.cells [.b n]))):=Yh _ L k rfl
@[simp] theorem zim (n)(L:Lg)(k:AV→Lg→Prop):Xp zbt [.p n] L k=∀b,L b=none→k (.p (some (b,0))) (L.put b (.raw (.cells [.p n]))):=Yh _ L k rfl
@[simp] theorem zhC (a b c d)(L:Lg)(k:AV→Lg→Prop):Xp zbt [.sl a b c d] L k=∀r,L r=none→k (.p (some (r,0))) (L.put r (.raw (.cells [.sl a b c d]))):=Yh _ L k rfl
theorem yg {z:List AV}{len size:Nat}{ps:List Nat}{vs c:List AV}(L:Lg)(k:AV→Lg→Prop)(h:zE (y5 z len) (ps.map fun i=>(i * size,size)) vs=some c)(h1:c.all AV.one=true) :
  Xp (Zo z len size ps) vs L k=∀b,L b=none→k (.sl (some (b,0)) len len 0) (L.put b (.raw (.cells c))):=by
 simp[Xp,Zo,h,h1]
theorem UR (v:AV):∀n,y5 [v] n=List.replicate n v
 | 0=>rfl
 | n+1=>by simp[y5,UR v n,List.replicate_succ]
theorem zQ {B:Env→Env→Lg→(Env→Lg→Prop)→Prop}{l:Env}{L:Lg}(I:Nat→Env→Lg→Prop)(n:Nat)(h0:I n l L)(h:∀n l t L,I n l L→B l t L (fun l L=>∃m,m<n∧I m l L)):xC B l L:=⟨I,⟨n,h0⟩,h⟩
@[simp] theorem zip (v:AV)(r:List AV)(i:Nat):zJ (v::r) i=(zJ r (i+1)).put i v:=rfl
@[simp] theorem ziV (i n:Nat):zJ [] i n=.bad:=rfl
@[simp] theorem evO_c (l t:Env)(v:AV):evO l t (.c v)=v:=rfl
theorem zU (L:Lg){b o n:Nat}{c:List AV}(v:AV)(h:L b=some (.raw (.cells c)))(hn:o+n≤c.length):yz Env.nil Env.nil L [.cell (.c (.p (some (b,o)))) (some n),.tmp (.c v)]=some (.tup [.agg ((c.drop o).take n),v]):=by
 simp[yz,zaS,YF,yj h hn]
def ZA (L:Lg)(v:AV)(cs:List AV)(n size:Nat):Prop :=
 (n=0∧cs=[]∧v=.sl none 0 0 0)∨∃b,0<n∧v=.sl (some (b,0)) n n size∧L b=some (.raw (.cells cs))∧cs.length=n * size
def slB:AV→Option Nat
 | .sl (some (b,_)) _ _ _=>some b
 | _=>none
def Lg.delO (L:Lg):Option Nat→Lg
 | none=>L
 | some b=>L.del b
def xu (L:Lg)(v:AV)(cs:List AV)(n size:Nat)(L':Lg):Prop :=
 (n=0∧cs=[]∧v=.sl none 0 0 0∧L'=L)∨∃b ex,L b=none∧0<n∧v=.sl (some (b,0)) n n ex∧cs.length=n * size∧L'=L.put b (.raw (.cells cs))
def yq (L L':Lg):Prop:=∀b c,L b=some c→L' b=some c
theorem yq.refl (L:Lg):yq L L:=fun _ _ h=>h
theorem yq.trans {L M K:Lg}(h:yq L M)(k:yq M K):yq L K:=fun b c e=>k b c (h b c e)
theorem yq.put {L M:Lg}(h:yq L M){b:Nat}(hb:L b=none)(c:LC):yq L (M.put b c):=fun d e hd=>by
 have:d≠b:=by rintro rfl;rw[hb]at hd;cases hd
 rw[zb _ _ _ this];exact h d e hd
theorem yq.del {L M:Lg}(h:yq L M){b:Nat}(hb:L b=none):yq L (M.del b):=fun d e hd=>by
 have:d≠b:=by rintro rfl;rw[hb]at hd;cases hd
 rw[yM,if_neg this];exact h d e hd
theorem yq.delO {L M:Lg}(h:yq L M){o:Option Nat}(hb:∀b,o=some b→L b=none):yq L (M.delO o):=by
 cases o with
 | none=>exact h
 | some b=>exact h.del (hb b rfl)
theorem yq.none {L M:Lg}(h:yq L M){b:Nat}(hb:M b=none):L b=none:=by
 cases e:L b with
 | none=>rfl
 | some c=>rw[h b c e]at hb;cases hb
theorem yq.sees {L M:Lg}(h:yq L M):zu M L:=zu.drop h
theorem ZA.app {L:Lg}{v:AV}{cs:List AV}{n size bytes:Nat}(h:ZA L v cs n size)(hsz:0<size){src:AV}{new:List AV}{m c e:Nat}{a:Option (Nat×Nat)}(hs:src=.sl a m c e)(hm:0<m)(hr:zF L a (m * size)=some new)(hn:new.length=m * size)(h1:new.all AV.one=true)(hb:(n+m) * bytes≤70368744177664)
  {k:AV→Lg→Prop} (hk:∀b,L b=none→k (.sl (some (b,0)) (n+m) (n+m) size) ((L.delO (slB v)).put b (.raw (.cells (cs++new))))):Xh size bytes L k [v,src]:=by
 subst hs
 rcases h with⟨rfl,rfl,rfl⟩ | ⟨b,h0,rfl,hL,hl⟩
 ·simp only[Xh,hr,zdJ,h1,true_and]
  have h2:¬(0+m≤0):=by omega
  simp only[h2,if_false,hb,true_and,Nat.zero_mul,zF,Zd,if_true,List.nil_append]
  exact hk
 ·simp only[Xh,hr,zdJ,h1,true_and]
  have h2:¬(n+m≤n):=by omega
  have h3:zF L (some (b,0)) (n * size)=some cs:=by
   simp only[zF,hL,AB.read,cut,zq,Nat.zero_add,hl,Nat.le_refl,decide_true,cond_true,List.drop_zero]
   rw[←hl,List.take_length]
  have h4:¬size=0:=by omega
  simp only[h2,if_false,hb,true_and,h3,Zd,h4,if_true,hL]
  exact hk
theorem ZA.of_app {L:Lg}{v:AV}{cs new:List AV}{n m size b:Nat}(h:ZA L v cs n size)(hm:0<m)(hn:new.length=m * size):ZA ((L.delO (slB v)).put b (.raw (.cells (cs++new)))) (.sl (some (b,0)) (n+m) (n+m) size) (cs++new) (n+m) size:=by
 refine .inr ⟨b,by omega,rfl,ze _ _ _,?_⟩
 rcases h with⟨rfl,rfl,rfl⟩ | ⟨b,h0,rfl,hL,hl⟩
 ·simp[hn]
 ·simp[hl,hn,Nat.add_mul]
theorem wV {L L':Lg}{size bytes len cap ex m c e:Nat}{a b:Option (Nat×Nat)}{new old:List AV}{k:AV→Lg→Prop}(hr:zF L b (m * size)=some new)(h1:new.all AV.one=true)(hlt:¬len+m≤cap)
  (hb:(len+m) * bytes≤70368744177664) (ho:zF L a (len * size)=some old) (hg:Zd L a ex size=some L') (hk:∀b,L b=none→k (.sl (some (b,0)) (len+m) (len+m) size) (L'.put b (.raw (.cells (old++new))))) :
  Xh size bytes L k [.sl a len cap ex,.sl b m c e]:=by
 simp only[Xh,hr,zdJ,h1,true_and,hlt,if_false,hb,ho,hg]
 exact hk
theorem Wp {L L':Lg}{size bytes len cap ex m c e r o:Nat}{b:Option (Nat×Nat)}{new:List AV}{k:AV→Lg→Prop}(hr:zF L b (m * size)=some new)(h1:new.all AV.one=true)(hle:len+m≤cap)(hm:m≠0)
  (hw:wrL L (r,o+len * size) new=some L') (hk:k (.sl (some (r,o)) (len+m) cap ex) L'):Xh size bytes L k [.sl (some (r,o)) len cap ex,.sl b m c e]:=by
 simp only[Xh,hr,zdJ,h1,true_and,hle,if_true,hm,if_false,hw]
 exact hk
end
section
open Go.RowKit
structure AR (W:World)(S:St)(β:Bt)(L:Lg):Prop where
 mod:Mod S L
 rel:Rel β W.heap.size S.h W
 wf:S.wf
 free:∀k,S.nx≤k→β k=none
theorem AR.nil (W:World):AR W ⟨.nil,0⟩ (fun _=>none) Lg.nil:=⟨zhF 0,zhk W,ziH 0,fun _ _=>rfl⟩
def Bt.put (β:Bt)(n:Nat)(x:Nat×Nat×Nat):Bt:=fun m=>if m=n then some x else β m
theorem AR.ext {W:World}{S:St}{β:Bt}{L:Lg}(h:AR W S β L)(x:Nat×Nat×Nat):Ext β (Bt.put β S.nx x):=by
 intro n y e
 unfold Bt.put
 split
 ·rename_i h9;subst h9;rw[h.free _ (Nat.le_refl _)]at e;cases e
 ·exact e
theorem AR.slice {W:World}{S:St}{β:Bt}{L:Lg}(h:AR W S β L){b off:Nat}{c:List AV}{cur t fr}(hb:W.heap[b]?=some (.cells cur t fr))(hc:vh β c off cur) :
  AR W ⟨S.h.set S.nx (some (.ro c)),S.nx+1⟩ (Bt.put β S.nx (b,off,0)) (L.put S.nx (.raw (.ro c))):=by
 have he:=h.ext (b,off,0)
 have hlt:b<W.heap.size:=(Array.getElem?_eq_some_iff.1 hb).1
 refine⟨h.mod.new _,⟨?_,?_,?_,h.rel.le⟩,?_,?_⟩
 ·intro n bl b' o z hg hn
  rw[zP]at hg
  unfold Bt.put at hn
  split at hg
  ·rename_i h9
   rw[if_pos h9]at hn
   cases hg;cases hn
   exact⟨cur,t,fr,hb,hc.mono he⟩
  ·rename_i h9
   rw[if_neg h9]at hn
   exact (h.rel.blk n bl b' o z hg hn).mono he
 ·intro n m bl bm b' x y hg hm ho hn hm2
  rw[zP]at hg hm
  unfold Bt.put at hn hm2
  split at hg
  ·cases hg;simp[AB.own]at ho
  ·rename_i h9
   rw[if_neg h9]at hn
   have hbase:=(h.rel.blk n bl b' x.1 x.2 hg hn).le ho
   split at hm
   ·rename_i h8
    rw[if_pos h8]at hm2
    simp only[Option.some.injEq,Prod.mk.injEq]at hm2
    have:=hm2.1
    have h3:=h.rel.lt n b' x hn
    have h4:=h.rel.le
    omega
   ·rename_i h8
    rw[if_neg h8]at hm2
    exact h.rel.inj n m bl bm b' x y hg hm ho hn hm2
 ·intro n b' x hn
  unfold Bt.put at hn
  split at hn
  ·cases hn;exact hlt
  ·exact h.rel.lt n b' x hn
 ·intro n bl hg
  rw[zP]at hg
  split at hg
  ·rename_i h9;subst h9;exact Nat.lt_succ_self _
  ·exact Nat.lt_succ_of_lt (h.wf n bl hg)
 ·intro k hk
  have h9:k≠S.nx:=by have:S.nx+1≤k:=hk;omega
  unfold Bt.put
  rw[if_neg h9]
  exact h.free k (by have:S.nx+1≤k:=hk;omega)
theorem AR.calls {W:World}{S:St}{β:Bt}{L:Lg}(h:AR W S β L){P:Program}{F:Nat→Option AFn}(hm:P.follows .mixedOrders=true)(hF:WP P F){f:Nat}{vs:List AV}{as:Array Value}(hv:VRs β vs as.toList)
  (hc:zd F f vs L fun v _=>v=.b true):Calls P f as W fun e w'=>e=.returned (.bool true)∧Below W.heap.size W w':=by
 obtain⟨n,v,S',h1,L',h2,rfl⟩:=hc S h.mod
 exact zdx hm hF h1 h.wf hv h.rel (fun k h3 _=>h.free k h3)
def zaC (L:Lg)(v:AV)(cs:List AV)(n size:Nat):Prop:=cs.length=n * size∧((n=0∧v=.sl none 0 0 0)∨∃b cap,v=.sl (some (b,0)) n cap 0∧L b=some (.raw (.ro cs)))
theorem zaC.len {F:Nat→Option AFn}{L:Lg}{a:AV}{cs:List AV}{n size:Nat}(h:zaC L a cs n size)(M:Lg)(k:AV→Lg→Prop):za F .lenSl [a] M k=k (.i .i64 n) M:=by
 obtain⟨_,⟨rfl,rfl⟩ | ⟨b,cap,rfl,_⟩⟩:=h
 ·simp
 ·simp
theorem zaC.get {L:Lg}{a:AV}{cs:List AV}{n size:Nat}(h:zaC L a cs n size){i:Nat}(hi:i<n):∃b cap,a=.sl (some (b,0)) n cap 0∧L b=some (.raw (.ro cs)):=by
 obtain⟨_,⟨rfl,rfl⟩ | ⟨b,cap,rfl,e⟩⟩:=h
 ·omega
 ·exact⟨b,cap,rfl,e⟩
def icl (l:List Int):List AV:=l.map fun n=>.i .i64 n
end
section
open Go.RowKit
theorem zcv {X:Type}{f:X→List AV}{z:Nat}:∀(l:List X),(∀x∈l,(f x).length=z)→∀(k:Nat) (v:AV),(l.flatMap f)[k]?=some v→∃i j x,l[i]?=some x∧(f x)[j]?=some v∧k=i * z+j
 | [],_,k,v,h=>by simp at h
 | y::r,hz,k,v,h=>by
  have hy:=hz y (by simp)
  rw[List.flatMap_cons]at h
  by_cases hk:k<z
  ·rw[List.getElem?_append_left (by omega)]at h
   exact⟨0,k,y,rfl,h,by omega⟩
  ·rw[List.getElem?_append_right (by omega),hy]at h
   obtain⟨i,j,x,h1,h2,h3⟩:=zcv r (fun x hx=>hz x (by simp[hx])) (k-z) v h
   exact⟨i+1,j,x,by simpa using h1,h2,by rw[Nat.add_mul];omega⟩
theorem zcu {X:Type}{f:X→List AV}{z:Nat}:∀(l:List X),(∀x∈l,(f x).length=z)→(l.flatMap f).length=l.length * z
 | [],_=>by simp
 | y::r,hz=>by
  rw[List.flatMap_cons,List.length_append,hz y (by simp),zcu r (fun x hx=>hz x (by simp[hx])),List.length_cons,Nat.add_mul]
  omega
theorem AR.rows {X:Type}[Inhabited X](f:X→List AV){z:Nat}{H:Type}{enc:TypeId×Value→H}{P:Program}{W:World}{S:St}{β:Bt}{L:Lg}(h:AR W S β L){t e:TypeId}{v:Value}{d:DataW H}{ps:List MemPlace}(ht:P.underlying t=some (.slice e))(hc:P.cellsOf e=z)(hfz:∀x,(f x).length=z)
  (hX:∀n cs y,DataW.trod enc P W 0 (fun _=>true) true n e cs=some y→∃x,VRs (fun _=>none) (f x) cs) {base:Nat} (hval:Value.okWide P W .any base t v) (hd:DataW.Trod enc P W 0 (fun _=>true) true t v d ps) :
  ∃(l:List X) (S':St) (β':Bt) (L':Lg) (a:AV),AR W S' β' L'∧Ext β β'∧yq L L'∧VR β' a v∧zaC L' a (l.flatMap f) l.length z:=by
 obtain⟨a0,len,cap,rfl⟩:=Go.WideShapes.okWide_slice ht hval
 obtain⟨fuel,hf⟩:=hd
 have hf:DataW.trod enc P W 0 (fun _=>true) true fuel t [.slice a0 len cap]=some (d,ps):=hf
 rcases DataW.trod_slice ht hf with⟨h0,_⟩ | ⟨a,len',cap',elems,rest,n,_,h0,_,hb,hl,hm,hlen,hel,_,_⟩
 ·cases h0
  exact⟨[],S,β,L,_,h,Ext.refl β,yq.refl L,.sln,by simp,.inl ⟨rfl,rfl⟩⟩
 ·cases h0
  have hok:Cell.ok P W .any base t (.slice (some a) len cap):=by
   simp only[Value.okWide,ht,Cell.okWide]at hval
   exact hval
  simp only[Cell.ok,ht]at hok
  obtain⟨_,_,_,hsp,row,cells,hsh,_⟩:=hok
  obtain⟨ab,aoff,asp⟩:=a
  simp only at hsp
  subst hsp
  have hsh':∃cur t fr,W.heap[ab]?=some (.cells cur t fr):=by
   unfold World.shape? at hsh
   split at hsh
   ·rename_i cur el fr hh;exact⟨_,_,_,hh⟩
   ·cases hsh
  obtain⟨cur,tt,fr,hh⟩:=hsh'
  have hx:∀i,∃x:X,i<len→∀(j:Nat) (u:AV),(f x)[j]?=some u→∃w,cur[aoff+(i * z+j)]?=some w∧VR (fun _=>none) u w:=by
   intro i
   by_cases hi:i<len
   ·have h1:=hel i hi
    have h2:∃y,elems[i]?=some y:=⟨_,List.getElem?_eq_getElem (by omega)⟩
    obtain⟨y,hy⟩:=h2
    rw[hy,Option.bind_eq_some_iff]at h1
    obtain⟨cs,hcs,hty⟩:=h1
    obtain⟨x,hxv⟩:=hX _ _ _ hty
    refine⟨x,fun _ j u hu=>?_⟩
    obtain⟨w,hw,hr⟩:=hxv.get hu
    refine⟨w,?_,hr⟩
    unfold World.cells? at hcs
    rw[if_pos (by omega)]at hcs
    have hjz:j<z:=by have:=(List.getElem?_eq_some_iff.1 hu).1;rw[hfz]at this;exact this
    have:=mapM_some_get hcs j j (by simp[hc,hjz])
    rw[hw,hc,Go.WideShapes.add_plain,Go.WideShapes.add_plain]at this
    simp only[World.cell?,hh,Option.isSome_none,Bool.false_eq_true,if_false]at this
    rw[←this,Nat.add_assoc]
   ·exact⟨default,fun h9=>absurd h9 hi⟩
  obtain⟨g,hg⟩:=Classical.axiomOfChoice hx
  have hall:∀x∈(List.range len).map g,(f x).length=z:=fun x _=>hfz x
  have hcr:vh β (((List.range len).map g).flatMap f) aoff cur:=by
   intro k u hu
   obtain⟨i,j,x,h1,h2,h3⟩:=zcv _ hall k u hu
   rw[List.getElem?_map]at h1
   simp only[Option.map_eq_some_iff]at h1
   obtain⟨i',h4,h5⟩:=h1
   have hi:i<len∧i'=i:=by
    have h6:=List.getElem?_eq_some_iff.1 h4
    obtain⟨h7,h8⟩:=h6
    simp at h7 h8
    exact⟨h7,h8.symm⟩
   obtain⟨hi,rfl⟩:=hi
   subst h5
   obtain⟨w,hw,hr⟩:=hg i' hi j u h2
   rw[h3]
   exact⟨w,hw,hr.mono (fun _ _ h9=>by cases h9)⟩
  have hlen2:((List.range len).map g).length=len:=by simp
  refine⟨(List.range len).map g,_,_,_,.sl (some (S.nx,0)) len cap 0,h.slice hh hcr,h.ext _,?_,?_,?_⟩
  ·exact (yq.refl L).put (h.mod.fresh (Nat.le_refl _)) _
  ·exact .sl (b:=ab) (o:=aoff) (z:=0) (by simp[Bt.put]) hl (Nat.le_refl _) (fun _=>rfl) (fun h9=>absurd rfl h9) (.inr (by simp))
  ·exact⟨zcu _ hall,.inr ⟨S.nx,cap,by rw[hlen2],ze _ _ _⟩⟩
def t3 (x:Int×Int×Int):List AV:=[.i .i64 x.1,.i .i64 x.2.1,.i .i64 x.2.2]
def tcl (l:List (Int×Int×Int)):List AV:=l.flatMap t3
theorem zhz {H:Type}{enc:TypeId×Value→H}{P:Program}{W:World}{e ti:TypeId}{fs:Array Field}(he:P.underlying e=some (.struct fs))(h3:fs.size=3)(hfs:∀(i:Nat) (f:Field),fs[i]?=some f→f.offset=i∧f.type=ti)(hi:P.underlying ti=some (.int .i64))(hc1:P.cellsOf ti=1)(hc3:P.cellsOf e=3)
  (n:Nat) (cs:List Value) (y:DataW H×List MemPlace) (h:DataW.trod enc P W 0 (fun _=>true) true n e cs=some y):∃x,VRs (fun _=>none) (t3 x) cs:=by
 obtain⟨xs,m,_,_,hl,hxl,hf⟩:=DataW.trod_struct he h
 rw[hc3]at hl
 match cs,hl with
 | [c0,c1,c2],_ =>
  have one:∀i,i<3→∃k,([c0,c1,c2].drop i).take 1=[.int .i64 k]:=by
   intro i hi3
   have h5:∃f,fs[i]?=some f:=⟨_,Array.getElem?_eq_getElem (by omega)⟩
   obtain⟨f,hfi⟩:=h5
   have h6:=hf i f hfi
   obtain⟨o1,o2⟩:=hfs i f hfi
   rw[o1,o2,hc1]at h6
   have h7:∃y,xs[i]?=some y:=⟨_,List.getElem?_eq_getElem (by omega)⟩
   obtain⟨y',hy'⟩:=h7
   rw[hy']at h6
   obtain⟨k,hk,_⟩:=DataW.trod_int hi h6
   exact⟨k,hk⟩
  obtain⟨k0,e0⟩:=one 0 (by omega)
  obtain⟨k1,e1⟩:=one 1 (by omega)
  obtain⟨k2,e2⟩:=one 2 (by omega)
  simp at e0 e1 e2
  subst e0 e1 e2
  exact⟨(k0,k1,k2),.cons (.i _ _) (.cons (.i _ _) (.cons (.i _ _) .nil))⟩
theorem AR.acts {H:Type}{enc:TypeId×Value→H}{P:Program}{W:World}{S:St}{β:Bt}{L:Lg}(h:AR W S β L){t e ti:TypeId}{fs:Array Field}{v:Value}{d:DataW H}{ps:List MemPlace}(ht:P.underlying t=some (.slice e))(he:P.underlying e=some (.struct fs))(h3:fs.size=3)(hfs:∀(i:Nat) (f:Field),fs[i]?=some f→f.offset=i∧f.type=ti)
  (hi:P.underlying ti=some (.int .i64)) (hc1:P.cellsOf ti=1) (hc3:P.cellsOf e=3) {base:Nat} (hval:Value.okWide P W .any base t v) (hd:DataW.Trod enc P W 0 (fun _=>true) true t v d ps) :
  ∃(l:List (Int×Int×Int)) (S':St) (β':Bt) (L':Lg) (a:AV),AR W S' β' L'∧Ext β β'∧yq L L'∧VR β' a v∧zaC L' a (tcl l) l.length 3 :=
 h.rows t3 ht hc3 (fun x=>rfl) (fun n cs y hy=>zhz he h3 hfs hi hc1 hc3 n cs y hy) hval hd
end
section
section
variable {M L:Lg} {r b:Nat} {d:LC}
theorem xp (M L:Lg)(b:Nat)(d:LC):(M.over L).put b d=(M.put b d).over L:=by
 funext m;unfold Lg.put Lg.over;by_cases h:m=b<;>simp[h]
theorem yH (h:M b=none)(d:LC):(M.over L).put b d=M.over (L.put b d):=by
 funext m;unfold Lg.put Lg.over;by_cases hm:m=b
 ·subst hm;simp[h]
 ·simp[hm]
theorem zY (h:M b=some d):(M.over L) b=some d:=by simp[Lg.over,h]
theorem yG (h:M b=none):(M.over L) b=L b:=by simp[Lg.over,h]
theorem yI:(M.over L) b=none↔M b=none∧L b=none:=by
 unfold Lg.over;cases h:M b<;>simp
def yi (M L:Lg)(r:Nat):Prop:=∀b,b≠r→M b≠none→L b=none
theorem yi.low (h:yi M L r)(hb:b≠r)(e:L b=some d):M b=none:=by
 cases h1:M b with
 | none=>rfl
 | some c=>have:=h b hb (by rw[h1];simp);rw[e]at this;cases this
theorem yi.get (h:yi M L r)(hb:b≠r)(e:L b=some d):(M.over L) b=some d:=by rw[yG (h.low hb e)];exact e
theorem yi.putL (h:yi M L r)(hb:M b=none)(d:LC):yi M (L.put b d) r:=by
 intro c hc hM
 have:c≠b:=by rintro rfl;exact hM hb
 rw[zb _ _ _ this];exact h c hc hM
theorem yi.put (h:yi M L r)(hb:b=r∨L b=none)(d:LC):yi (M.put b d) L r:=by
 intro c hc hM
 by_cases e:c=b
 ·subst e;rcases hb with h1 | h1
  ·exact absurd h1 hc
  ·exact h1
 ·rw[zb _ _ _ e]at hM;exact h c hc hM
theorem yi.own (h:yi M L r)(hb:M b≠none)(d:LC):yi (M.put b d) L r:=h.put (by by_cases e:b=r;exact .inl e;exact .inr (h b e hb)) d
def zgx (D:Lg→Prop)(hp:Hp):Prop:=∃M,D M∧Sat M hp
theorem zbz {F:Nat→Option AFn}{f:Nat}{vs:List AV}{Q:AV→Lg→Prop}{D:Lg→Prop}(e:L r=some (.abs (zgx D)))(hr:∀M,D M→M r≠none)
  (H:∀M,D M→yi M L r→zd F f vs (M.over L) Q):zd F f vs L Q:=by
 apply yX e
 rintro hm ⟨M,hD,hs⟩
 refine⟨M,hs,hr M hD,fun hf=>H M hD ?_⟩
 intro c hc hM
 cases h1:M c with
 | none=>exact absurd h1 hM
 | some x=>exact hf c x h1 hc
theorem Vy {D:Lg→Prop}(hD:D M)(hr:∃cs,M r=some (.raw (.cells cs)))(ha:yi M L r):zu (M.over L) (L.put r (.abs (zgx D))) :=
 zu.shut (fun b c h hb=>ha b hb (by rw[h];simp)) (.inl hr) fun h hs=>⟨M,hD,hs⟩
theorem zdC {D:Lg→Prop}(hD:D M)(hr:∃cs,M r=some (.raw (.cells cs)))(ha:yi M L r)(e:L r=some (.abs (zgx D))):zu (M.over L) L:=by
 have:=Vy hD hr ha
 rwa [yc L r _ e]at this
theorem zu.junk {M L:Lg}(hb:L b=none)(d:LC):zu (M.over (L.put b d)) (M.over L):=by
 apply zu.drop
 intro c e hc
 cases h1:M c with
 | some x=>rw[zY h1]at hc ⊢;exact hc
 | none =>
  rw[yG h1]at hc ⊢
  rw[zb _ _ _ (by rintro rfl;rw[hb]at hc;cases hc)];exact hc
end
def OSl (K:Lg)(v:AV)(cs:List AV)(n size:Nat):Prop :=
 (n=0∧cs=[]∧v=.sl none 0 0 0)∨∃b ex,0<n∧v=.sl (some (b,0)) n n ex∧(ex=0∨ex=size)∧K b=some (.raw (.cells cs))∧cs.length=n * size
section
variable {K K':Lg} {v:AV} {cs:List AV} {n size:Nat}
theorem OSl.nil (K:Lg)(size:Nat):OSl K (.sl none 0 0 0) [] 0 size:=.inl ⟨rfl,rfl,rfl⟩
theorem OSl.mono (h:OSl K v cs n size)(e:∀b,slB v=some b→K' b=K b):OSl K' v cs n size:=by
 rcases h with h | ⟨b,ex,h1,h2,h3,h4,h5⟩
 ·exact .inl h
 ·exact .inr ⟨b,ex,h1,h2,h3,by rw[e b (by rw[h2];rfl)];exact h4,h5⟩
theorem OSl.block (h:OSl K v cs n size){b:Nat}(e:slB v=some b):K b=some (.raw (.cells cs)):=by
 rcases h with⟨_,_,h3⟩ | ⟨b',ex,h1,h2,h3,h4,h5⟩
 ·rw[h3]at e;cases e
 ·rw[h2]at e;simp[slB]at e;subst e;exact h4
theorem OSl.len {F:Nat→Option AFn}(h:OSl K v cs n size)(L:Lg)(k:AV→Lg→Prop):za F .lenSl [v] L k=k (.i .i64 n) L:=by
 rcases h with⟨h1,_,h3⟩ | ⟨b',ex,h1,h2,h3,h4,h5⟩
 ·rw[h3,h1];simp
 ·rw[h2];simp
theorem OSl.iad {F:Nat→Option AFn}(h:OSl K v cs n size){x:Int}(h0:0≤x)(h1:x<n):∃b,slB v=some b∧K b=some (.raw (.cells cs))∧cs.length=n * size∧∀(L:Lg) (k:AV→Lg→Prop) (j:IntKind),za F (.iad size) [v,.i j x] L k=k (.p (some (b,x.toNat * size))) L:=by
 rcases h with⟨e1,_,h3⟩ | ⟨b',ex,g1,g2,g3,g4,g5⟩
 ·omega
 ·refine⟨b',by rw[g2];rfl,g4,g5,fun L k j=>?_⟩
  rw[g2,yF F L k size b' 0 n n ex j x h0 h1]
  simp
theorem OSl.one (h:OSl K v cs n size):v.one=true:=by
 rcases h with⟨_,_,h3⟩ | ⟨b',ex,g1,g2,g3,g4,g5⟩
 ·rw[h3];rfl
 ·rw[g2];rfl
theorem OSl.cellsOf (h:OSl K v cs n size):v.cellsOf=some [v]:=by
 rcases h with⟨_,_,h3⟩ | ⟨b',ex,g1,g2,g3,g4,g5⟩
 ·rw[h3];rfl
 ·rw[g2];rfl
theorem OSl.rdAll (h:OSl K v cs n size):∃a ex,v=.sl a n n ex∧zF K a (n * size)=some cs∧(n=0→ex=0):=by
 rcases h with⟨h1,h2,h3⟩ | ⟨b',ex,g1,g2,g3,g4,g5⟩
 ·exact⟨none,0,by rw[h3,h1],by simp[zF,h1,h2],fun _=>rfl⟩
 ·refine⟨_,ex,g2,?_,fun h=>by omega⟩
  simp only[zF,g4,AB.read,cut,zq,Nat.zero_add,g5,Nat.le_refl,decide_true,cond_true,List.drop_zero]
  rw[←g5,List.take_length]
structure Grown (K:Lg)(v:AV)(b:Nat)(cs:List AV)(K1:Lg):Prop where
 fresh:K b=none
 now:K1 b=some (.raw (.cells cs))
 same:∀r,r≠b→slB v≠some r→K1 r=K r
 gone:∀r,r≠b→K1 r=none∨K1 r=K r
theorem OSl.app {bytes m:Nat}{src:AV}{new:List AV}(h:OSl K v cs n size)(hsz:0<size){a:Option (Nat×Nat)}{c e:Nat}(hs:src=.sl a m c e)(hm:0<m)(hr:zF K a (m * size)=some new)(hn:new.length=m * size)(h1:new.all AV.one=true)
  (hb:(n+m) * bytes≤70368744177664) {k:AV→Lg→Prop} (hk:∀b K1,Grown K v b (cs++new) K1→OSl K1 (.sl (some (b,0)) (n+m) (n+m) size) (cs++new) (n+m) size→k (.sl (some (b,0)) (n+m) (n+m) size) K1):Xh size bytes K k [v,src]:=by
 subst hs
 obtain⟨av,ex,hv,hrd,hz⟩:=h.rdAll
 have hlen:cs.length=n * size:=by
  rcases h with⟨h1,h2,h3⟩ | ⟨b',ex,g1,g2,g3,g4,g5⟩
  ·simp[h1,h2]
  ·exact g5
 have key:∀K1:Lg,(K1=K∨∃q,slB v=some q∧K1=K.del q)→Zd K av ex size=some K1→Xh size bytes K k [v,.sl a m c e]:=by
  intro K1 hK1 hg
  rw[hv]
  refine wV (L':=K1) hr h1 (by omega) hb hrd hg ?_
  intro b hbn
  refine hk b _ ⟨hbn,ze _ _ _,?_,?_⟩ (.inr ⟨b,size,by omega,rfl,.inr rfl,ze _ _ _,by simp[hlen,hn,Nat.add_mul]⟩)
  ·intro r hr hq
   rw[zb _ _ _ hr]
   rcases hK1 with rfl | ⟨q,hq1,rfl⟩
   ·rfl
   ·rw[yM,if_neg];rintro rfl;exact hq hq1
  ·intro r hr
   rw[zb _ _ _ hr]
   rcases hK1 with rfl | ⟨q,hq1,rfl⟩
   ·exact .inr rfl
   ·rw[yM];split
    ·exact .inl rfl
    ·exact .inr rfl
 rcases h with⟨h1,h2,h3⟩ | ⟨b',ex',g1,g2,g3,g4,g5⟩
 ·have:ex=0:=hz h1
  exact key K (.inl rfl) (by rw[this];simp[Zd])
 ·have hv2:=hv
  rw[g2]at hv2
  cases hv2
  rcases g3 with g3 | g3
  ·exact key K (.inl rfl) (by simp[Zd,g3])
  ·refine key (K.del b') (.inr ⟨b',by rw[g2];rfl,rfl⟩) ?_
   have:¬size=0:=by omega
   simp[Zd,this,g4,g3]
theorem OSl.app0 {bytes:Nat}{src:AV}(h:OSl K v cs n size){a:Option (Nat×Nat)}{c e:Nat}(hs:src=.sl a 0 c e)(hr:zF K a 0=some []){k:AV→Lg→Prop}(hk:k v K):Xh size bytes K k [v,src]:=by
 subst hs
 rcases h with⟨h1,h2,h3⟩ | ⟨b',ex',g1,g2,g3,g4,g5⟩
 ·rw[h3];rw[h3]at hk
  simp only[Xh,Nat.zero_mul,hr,zdJ]
  simpa using hk
 ·rw[g2];rw[g2]at hk
  simp only[Xh,Nat.zero_mul,hr,zdJ]
  simpa using hk
end
def zm {α:Type}(f:α→List AV):List α→List AV
 | []=>[]
 | x::r=>f x++zm f r
section
variable {α:Type} {f:α→List AV} {k:Nat}
theorem ya:∀(a b:List α),zm f (a++b)=zm f a++zm f b
 | [],_=>rfl
 | x::r,b=>by simp[zm,ya r b]
theorem zV (hf:∀x,(f x).length=k):∀(a:List α),(zm f a).length=a.length * k
 | []=>by simp[zm]
 | x::r=>by
  simp only[zm,List.length_append,hf,zV hf r,List.length_cons,Nat.add_mul,Nat.one_mul];omega
theorem Yo (h1:∀x,(f x).all AV.one=true):∀(a:List α),(zm f a).all AV.one=true
 | []=>rfl
 | x::r=>by simp[zm,List.all_append,h1,Yo h1 r]
theorem wa (hf:∀x,(f x).length=k):∀(l:List α) (i:Nat) (x:α),l[i]?=some x→((zm f l).drop (i * k)).take k=f x∧i * k+k≤(zm f l).length
 | [],i,x,h=>by simp at h
 | a::r,0,x,h=>by
  simp at h;subst h
  have:=hf a
  simp only[zm,Nat.zero_mul,List.drop_zero,List.length_append,this,Nat.zero_add]
  exact⟨by rw[←this,List.take_left],by omega⟩
 | a::r,i+1,x,h=>by
  have:=wa hf r i x (by simpa using h)
  have e:(i+1) * k=(f a).length+i * k:=by rw[hf,Nat.add_mul];omega
  rw[e]
  simp only[zm,List.length_append]
  rw[←List.drop_drop,List.drop_left]
  exact⟨this.1,by omega⟩
theorem vo (hf:∀x,(f x).length=k)(l:List α)(i j:Nat)(x:α)(h:l[i]?=some x)(hj:j<k):(zm f l)[i * k+j]?=(f x)[j]?:=by
 have h1:=wa hf l i x h
 rw[←h1.1,List.getElem?_take_of_lt hj,List.getElem?_drop]
theorem xj (hf:∀x,(f x).length=k):∀(l:List α) (i:Nat) (x y:α) (j:Nat) (v:AV),l[i]?=some x→j<k→(f x).set j v=f y→(zm f l).set (i * k+j) v=zm f (l.set i y)
 | [],i,x,y,j,v,h,_,_=>by simp at h
 | a::r,0,x,y,j,v,h,hj,e=>by
  simp at h;subst h
  have:=hf a
  simp only[zm,Nat.zero_mul,Nat.zero_add,List.set_cons_zero]
  rw[List.set_append_left _ _ (by omega),e]
 | a::r,i+1,x,y,j,v,h,hj,e=>by
  have:=xj hf r i x y j v (by simpa using h) hj e
  have e2:(i+1) * k+j=(f a).length+(i * k+j):=by rw[hf,Nat.add_mul];omega
  rw[e2]
  simp only[zm,List.set_cons_succ]
  rw[List.set_append_right _ _ (by omega),Nat.add_sub_cancel_left,this]
end
end
section
def sA:ACode→ACode | .seq a _=>a | _=>.skip
def sB:ACode→ACode | .seq _ b=>b | _=>.skip
def sC:ACode→Opd | .cond c _ _=>c | _=>.l 0
def sX:ACode→ACode | .cond _ x _=>x | _=>.skip
def sY:ACode→ACode | .cond _ _ y=>y | _=>.skip
def sI:ACode→Nat | .block i _=>i | _=>0
def sD:ACode→ACode | .block _ c=>c | _=>.skip
def sL:ACode→ACode | .loop c=>c | _=>.skip
section
variable {F:TF} {c:ACode} {l t:Env} {L:Lg} {k:Kn} {ke:Nat→Kn} {kr:Kn} {X Y Z:Prop}
theorem lf {A:Prop}(B:Prop)(h:A=B:=by kernel_rfl):A=B:=h
theorem wS {G:Kn}(h:∀l t L,wp F (sB c) l t L k ke kr=G l t L)(e:wp F (sA c) l t L G ke kr=Z)(q:c=.seq (sA c) (sB c):=by kernel_rfl):wp F c l t L k ke kr=Z:=(congrArg (fun c=>wp F c l t L k ke kr) q).trans (wpS h e)
theorem wC (hx:wp F (sX c) l t L k ke kr=X)(hy:wp F (sY c) l t L k ke kr=Y)(e:zn (evO l t (sC c)) X Y=Z)(q:c=.cond (sC c) (sX c) (sY c):=by kernel_rfl):wp F c l t L k ke kr=Z:=(congrArg (fun c=>wp F c l t L k ke kr) q).trans (wpC hx hy e)
theorem wB (h:wp F (sD c) l t L k (fun j l t L=>bif Nat.beq j (sI c)then k l t L else ke j l t L) kr=Z)(q:c=.block (sI c) (sD c):=by kernel_rfl):wp F c l t L k ke kr=Z:=(congrArg (fun c=>wp F c l t L k ke kr) q).trans h
theorem wL {B:Env→Env→Lg→TK→Prop}(h:∀l t L (k:TK),wp F (sL c) l t L (fun l _ L=>k l L) ke kr=B l t L k)(e:xC B l L=Z)(q:c=.loop (sL c):=by kernel_rfl):wp F c l t L k ke kr=Z:=(congrArg (fun c=>wp F c l t L k ke kr) q).trans (wpL h e)
end
theorem cw {F:TF}{f:Nat}{fn:AFn}(h:F f=some fn){vs:List AV}{L:Lg}{Q:TQ}{Z:Env→Env→Lg→Prop}(p:∀l t L,wp F fn.body l t L (fin fn.res Q) nE (fin fn.res Q)=Z l t L){W:Prop}(e:W)(q:Z (zJ vs 0) Env.nil L=W:=by kernel_rfl):zd F f vs L Q :=
 Wx h (Eq.mpr ((p (zJ vs 0) Env.nil L).trans q) e)
def zD (o:Option AFn):AFn:=match o with | some f=>f | none=>⟨.ret,[]⟩
def zgX (l:List (Nat×Nat))(f:Nat):Option Nat:=match l with | []=>none | (a,b)::r=>bif Nat.beq a f then some b else zgX r f
def zhc (P:Program)(l:List (Nat×Nat))(f:Nat):Option AFn:=match zgX l f,P.funcs[f]? with | some b,some g=>Wi P b g | _,_=>none
theorem zbM (P:Program)(l:List (Nat×Nat)):WP P (zhc P l):=by
 intro f fn h
 unfold zhc at h
 split at h
 ·rename_i b g _ hg;exact .inl ⟨b,g,hg,h⟩
 ·cases h
theorem zhd {P:Program}{t:Nat→Option AFn}(h:WP P t){a:Nat}(ka:Zp P a):WP P (fun f=>bif Nat.beq f a then some zc9 else t f):=by
 intro f fn e
 cases hc:Nat.beq f a with
 | true =>
  simp only[hc,cond_true]at e
  cases e
  rw[zp,decide_eq_true_eq]at hc
  subst hc
  exact .inr ⟨rfl,ka⟩
 | false =>
  simp only[hc,cond_false]at e
  exact h f fn e
end
end Go.AM
