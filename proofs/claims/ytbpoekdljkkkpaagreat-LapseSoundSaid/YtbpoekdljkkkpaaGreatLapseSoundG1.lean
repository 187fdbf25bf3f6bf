/- The texts AmN, AmO, AmP, AmQ, AmR, AmS, LgA, LgB, LgC, LgD, LgE, LgR, LgT, LgO, LgQ of a proof of LapseSound, merged. -/
import Derived.Test.YtbpoekdljkkkpaaGreatLapseSoundG0
import Derived.LoopN
import Derived.ChangeSlices
import Derived.WideShapes
import Derived.ChangeOld
import Derived.Carry
import Derived.ChangeArms
import Derived.KernelRfl
set_option linter.unusedVariables false
set_option linter.unusedSimpArgs false
namespace Go.AM
section
open Go.RowKit (Below)
structure Gr (S S':St):Prop where
 nx:S.nx≤S'.nx
 wf:S.wf→S'.wf
 ro:∀n bl,S'.h.get n=some bl→bl.own=false→S.h.get n=some bl
theorem Gr.refl (S:St):Gr S S:=⟨Nat.le_refl _,id,fun _ _ h _=>h⟩
theorem Gr.trans {S S1 S2:St}(h:Gr S S1)(k:Gr S1 S2):Gr S S2:=⟨Nat.le_trans h.nx k.nx,fun w=>k.wf (h.wf w),fun n bl hb ho=>h.ro n bl (k.ro n bl hb ho) ho⟩
theorem Gr.old {S:St}{n:Nat}{PU:AB}(hg:S.h.get n=some PU){bl:AB}(ho:bl.own=true):Gr S { S with h:=S.h.set n (some bl) }:=by
 refine⟨Nat.le_refl _,fun w m bm hm=>?_,fun m bm hm hr=>?_⟩<;>simp only[zS]at hm<;>split at hm
 ·rename_i e;subst e;exact w _ _ hg
 ·exact w _ _ hm
 ·cases hm;rw[ho]at hr;cases hr
 ·exact hm
theorem Gr.gone (S:St)(n:Nat):Gr S { S with h:=S.h.set n none }:=by
 refine⟨Nat.le_refl _,fun w m bm hm=>?_,fun m bm hm hr=>?_⟩<;>simp only[zS]at hm<;>split at hm
 ·cases hm
 ·exact w _ _ hm
 ·cases hm
 ·exact hm
theorem Gr.new (S:St){bl:AB}(ho:bl.own=true):Gr S { h:=S.h.set S.nx (some bl),nx:=S.nx+1 }:=by
 refine⟨Nat.le_succ _,fun w m bm hm=>?_,fun m bm hm hr=>?_⟩<;>simp only[zS]at hm<;>split at hm
 ·rename_i e;subst e;exact Nat.lt_succ_self _
 ·exact Nat.lt_succ_of_lt (w _ _ hm)
 ·cases hm;rw[ho]at hr;cases hr
 ·exact hm
theorem Zz {S:St}{a:Nat×Nat}{vs:List AV}{h:PM AB}(hw:wb S.h a vs=some h):Gr S { S with h:=h }:=by
 unfold wb at hw
 split at hw
 ·rename_i c hg
  rw[cond_eq_ite]at hw
  split at hw
  ·cases hw;exact Gr.old hg rfl
  ·cases hw
 ·cases hw
theorem zia {S:St}{a:Option (Nat×Nat)}{ex size:Nat}{h:PM AB}(hg:gone S.h a ex size=some h):Gr S { S with h:=h }:=by
 unfold gone at hg
 rw[cond_eq_ite]at hg
 split at hg
 ·cases hg;exact Gr.refl S
 ·rw[cond_eq_ite]at hg
  split at hg
  ·split at hg
   ·rw[cond_eq_ite]at hg
    split at hg
    ·cases hg;exact Gr.gone S _
    ·cases hg
   ·cases hg
  ·cases hg
theorem ziw {size bytes:Nat}{S:St}{a:Option (Nat×Nat)}{len cap ex n:Nat}{new:List AV}{v:AV}{S':St}(h:ziY size bytes S a len cap ex n new=some (v,S')):Gr S S':=by
 unfold ziY at h
 rw[cond_eq_ite]at h
 split at h
 ·split at h
  ·cases h;exact Gr.refl S
  ·rw[cond_eq_ite]at h
   split at h
   ·cases h;exact Gr.refl S
   ·split at h
    ·rename_i hw;cases h;exact Zz hw
    ·cases h
 ·rw[cond_eq_ite]at h
  split at h
  ·split at h
   ·rename_i old h1 _ hg
    cases h
    exact (zia hg).trans (Gr.new { S with h:=h1 } rfl)
   ·cases h
  ·cases h
def W6 (call:cZ):Prop:=∀f vs S v S',call f vs S=some (v,S')→Gr S S'
theorem zhD {o:cV}{call:cZ}(cu:W6 call){S:St}{vs:List AV}{v:AV}{S':St}(h:WI o call S vs=some (v,S')):Gr S S':=by
 cases o<;>simp only[WI]at h<;>try (cases h;done)
 case st sz =>
  unfold eSt at h
  split at h
  ·split at h
   ·rw[cond_eq_ite]at h
    split at h
    ·split at h
     ·rename_i hw;cases h;exact Zz hw
     ·cases h
    ·cases h
   ·cases h
  ·cases h
 case oh =>
  unfold zfy at h
  split at h
  ·split at h
   ·rename_i hg
    split at h
    ·cases h;exact Gr.old hg rfl
    ·cases h
   ·cases h
  ·cases h
 case om =>
  unfold zdF at h
  split at h
  ·cases h;exact Gr.refl S
  ·split at h
   ·rename_i hg
    split at h
    ·cases h;exact Gr.old hg rfl
    ·cases h
   ·cases h
  ·cases h
 case app size bytes =>
  unfold ziQ at h
  split at h
  ·split at h
   ·rw[cond_eq_ite]at h
    split at h
    ·exact ziw h
    ·cases h
   ·cases h
  ·cases h
 case Nn z =>
  unfold P1 at h
  split at h
  ·rw[cond_eq_ite]at h
   split at h
   ·cases h;exact Gr.refl S
   ·split at h
    ·split at h
     ·rename_i hw;cases h;exact Zz hw
     ·cases h
    ·cases h
  ·cases h
 case TW size =>
  unfold P2 at h
  split at h
  ·split at h
   ·rw[cond_eq_ite]at h
    split at h
    ·cases h;exact Gr.refl S
    ·split at h
     ·split at h
      ·rename_i hw;cases h;exact Zz hw
      ·cases h
     ·cases h
   ·cases h
  ·cases h
 case call f=>exact cu _ _ _ _ _ h
 case eX =>
  obtain⟨f,fst,cap,us,rfl,h⟩:=Z0 h
  exact cu _ _ _ _ _ h
theorem zca {o:cV}{nx:Nat}{vs:List AV}{cr:AB}{v:AV}(h:H9 o nx vs=some (cr,v)):cr.own=true:=by
 cases o<;>simp only[H9]at h<;>try (cases h;done)
 ·unfold zfV at h;split at h<;>cases h;rfl
 ·unfold Fl at h
  split at h
  ·split at h<;>cases h;rfl
  ·cases h
 ·unfold Zx at h
  split at h
  ·rw[cond_eq_ite]at h
   split at h<;>cases h;rfl
  ·cases h
 ·unfold zfU at h
  split at h
  ·rw[cond_eq_ite]at h
   split at h<;>cases h;rfl
  ·cases h
 ·cases h;rfl
theorem zgg {o:cV}{call:cZ}(cu:W6 call){S:St}{vs:List AV}{v:AV}{S':St}(h:wm o call S vs=some (v,S')):Gr S S':=by
 cases cQ:o.cl<;>simp only[wm,cQ]at h
 ·unfold RL at h
  split at h<;>cases h
  exact Gr.refl S
 ·unfold opA at h
  split at h
  ·rename_i cr u he
   cases h
   exact Gr.new S (zca he)
  ·cases h
 ·exact zhD cu h
theorem Xt {call:cZ}(cu:W6 call){o:cM}{T T':Tm}{S S':St}(h:wT call o T S=some (T',S')):Gr S S':=by
 unfold wT at h
 split at h
 ·split at h
  ·rename_i v S1 he
   cases h
   exact zgg cu he
  ·cases h
 ·cases h;exact Gr.refl S
 ·cases h
theorem XM {call:cZ}(cu:W6 call):∀{l:List cM} {T T':Tm} {S S':St},Yh call l T S=some (T',S')→Gr S S'
 | [],T,T',S,S',h=>by cases h;exact Gr.refl S
 | o::r,T,T',S,S',h=>by
  rw[wU]at h
  split at h
  ·rename_i T1 S1 he
   exact (Xt cu he).trans (XM cu h)
  ·cases h
noncomputable def Tm.at (ps:Nat)(T:Tm)(t:Nat):AV:=(Et ps t).ev T
def P0 (ps:Nat):Option Tmp→Nw
 | none=>.no
 | some d=>bif aK ps d then .l d else .t d
structure di (β:Bt)(ps nt:Nat)(T:Tm)(a:Act):Prop where
 sz:nt≤a.tmps.size
 tm:∀t,t<nt→VR β (T.at ps t) (a.tmps.getD t undef)
 df:a.defers=[]
theorem di.mono {β γ:Bt}{ps nt:Nat}{T:Tm}{a:Act}(h:di β ps nt T a)(e:Ext β γ):di γ ps nt T a:=⟨h.sz,fun t ht=>(h.tm t ht).mono e,h.df⟩
theorem YE (n:Nat)(v:AV):∀(l:List (Nat×AV)) (m:Nat),yp (ziW n v l) m=if m=n then v else yp l m
 | [],m=>by
  simp only[zgP,Zw,zcU,zq]
  by_cases h:m=n
  ·subst h;simp
  ·rw[if_neg h,show decide (n=m)=false from decide_eq_false (fun e=>h e.symm)];rfl
 | (k,u)::r,m=>by
  simp only[zfN,zq]
  by_cases hk:k=n
  ·subst hk
   simp only[decide_true,cond_true,Zw,zq]
   by_cases h:m=k
   ·subst h;simp
   ·rw[if_neg h,show decide (k=m)=false from decide_eq_false (fun e=>h e.symm)];rfl
  ·simp only[hk,decide_false,cond_false,Zw,zq]
   by_cases h:m=n
   ·subst h
    rw[if_pos rfl,show decide (k=m)=false from decide_eq_false hk,YE,if_pos rfl];rfl
   ·rw[if_neg h,YE,if_neg h]
theorem WB (ps:Nat)(T:Tm)(v:AV)(d t:Nat):(T.put v (P0 ps (some d))).at ps t=if t=d then v else T.at ps t:=by
 cases hd:aK ps d<;>cases ht:aK ps t<;>simp only[Tm.at,Et,P0,hd,ht,cond_true,cond_false,Tm.put,fT.ev]
 ·simp only[Zw,zq]
  by_cases h:t=d
  ·subst h;simp
  ·rw[if_neg h,show decide (d=t)=false from decide_eq_false (fun e=>h e.symm)];rfl
 ·rw[if_neg (fun e=>by subst e;rw[hd]at ht;cases ht)]
 ·rw[if_neg (fun e=>by subst e;rw[hd]at ht;cases ht)]
 ·exact YE d v T.l t
theorem di.put {β:Bt}{ps nt:Nat}{T:Tm}{a:Act}(h:di β ps nt T a){v:AV}{v':Value}(hv:VR β v v')(d:Option Tmp)(hd:∀x,d=some x→x<nt):di β ps nt (T.put v (P0 ps d)) (a.put d v'):=by
 cases d with
 | none=>exact h
 | some d =>
  have hd:=hd d rfl
  refine⟨by simpa[Act.put]using h.sz,fun t ht=>?_,h.df⟩
  rw[WB]
  simp only[Act.put]
  by_cases e:t=d
  ·subst e
   rw[if_pos rfl]
   have hs:=h.sz
   have:(a.tmps.setIfInBounds t v').getD t undef=v':=by
    rw[Array.getD_eq_getD_getElem?,Array.getElem?_setIfInBounds_self_of_lt (by omega)];rfl
   rw[this];exact hv
  ·rw[if_neg e]
   have:(a.tmps.setIfInBounds d v').getD t undef=a.tmps.getD t undef:=by
    rw[Array.getD_eq_getD_getElem?,Array.getD_eq_getD_getElem?,Array.getElem?_setIfInBounds_ne (fun h=>e h.symm)]
   rw[this];exact h.tm t ht
theorem di.clear {β:Bt}{ps nt:Nat}{T:Tm}{a:Act}(h:di β ps nt T a):di β ps nt { T with r:=[] } a:=by
 refine⟨h.sz,fun t ht=>?_,h.df⟩
 have:=h.tm t ht
 revert this
 unfold Tm.at Et
 cases aK ps t
 ·intro _;exact .bad _
 ·exact id
theorem zg8 {β:Bt}{ps nt:Nat}{T:Tm}{a:Act}(h:di β ps nt T a){x:Operand}{y:fT}(hc:w8 ps nt x=some y):VR β (y.ev T) (a.eval x):=by
 cases x with
 | tmp t =>
  simp only[w8,yV]at hc
  by_cases ht:t<nt
  ·simp only[ht,decide_true,cond_true,Option.some.injEq]at hc
   subst hc
   exact h.tm t ht
  ·simp[ht]at hc
 | const v =>
  simp only[w8,Option.map_eq_some_iff]at hc
  obtain⟨u,hu,rfl⟩:=hc
  exact za2 hu
 | global g=>cases hc
 | func f=>cases hc;exact .fn f .nil .nil
theorem zeP {β:Bt}{ps nt:Nat}{T:Tm}{a:Act}(h:di β ps nt T a):∀{xs:List Operand} {ys:List fT},vZ (w8 ps nt) xs=some ys→aS β (G2 T ys) (xs.map a.eval)
 | [],ys,hc=>by simp[vZ]at hc;subst hc;exact .nil
 | x::xs,ys,hc=>by
  unfold vZ at hc
  split at hc
  ·rename_i y hy
   rw[Option.map_eq_some_iff]at hc
   obtain⟨zs,hz,rfl⟩:=hc
   exact .cons (zg8 h hy) (zeP h hz)
  ·cases hc
theorem ZH {P:Program}{ps nt:Nat}{ops:Array Oper}{o:Oper}{o1:cM}(h:Uy P ps ops nt o=some o1) :
  ∃xs,Zv P o=some (o1.op,xs)∧vx ps ops nt o.guard=some o1.gd∧vZ (w8 ps nt) xs=some o1.args∧o1.dst=P0 ps o.dst∧∀d,o.dst=some d→d<nt:=by
 unfold Uy at h
 split at h
 ·rename_i op xs gd h1 h2
  split at h
  ·rename_i args h3
   split at h
   ·rename_i hd
    cases h
    exact⟨xs,h1,h2,h3,by rw[hd];rfl,fun d hh=>by rw[hd]at hh;cases hh⟩
   ·rename_i d hd
    rw[yV]at h
    by_cases hlt:d<nt
    ·simp only[hlt,decide_true,cond_true]at h
     cases h
     exact⟨xs,h1,h2,h3,by rw[hd];rfl,fun d' hh=>by rw[hd]at hh;cases hh;exact hlt⟩
    ·simp[hlt]at h
  ·cases h
 ·cases h
theorem Vb {β:Bt}{ps nt:Nat}{T:Tm}{a:Act}(h:di β ps nt T a){ops:Array Oper}{o:Oper}{gd:Option (fT×Bool)}(hc:vx ps ops nt o.guard=some gd){r:Bool}(hw:ZS T gd=some r) :
  Region.wanted o (yielded ops a.tmps)=r:=by
 unfold vx at hc
 split at hc
 ·rename_i hg
  cases hc
  cases hw
  simp[Region.wanted,hg]
 ·rename_i j w hg
  split at hc
  ·rename_i t ht
   rw[yV]at hc
   by_cases hlt:t<nt
   ·simp only[hlt,decide_true,cond_true,Option.some.injEq]at hc
    subst hc
    have h1:=h.tm t hlt
    simp only[ZS]at hw
    have hsz:t<a.tmps.size:=Nat.lt_of_lt_of_le hlt h.sz
    have ig:a.tmps[t]?=some (a.tmps.getD t undef):=by
     rw[Array.getD_eq_getD_getElem?,Array.getElem?_eq_getElem hsz];rfl
    have hy:yielded ops a.tmps j=match a.tmps.getD t undef with | .bool b=>some b | _=>none:=by
     simp only[yielded,ht,Option.bind_some,ig]
     cases a.tmps.getD t undef<;>rfl
    have dy:VR β ((Et ps t).ev T) (a.tmps.getD t undef):=h1
    clear h1
    generalize a.tmps.getD t undef=y at dy hy
    simp only[Region.wanted,hg,hy]
    generalize (Et ps t).ev T=x at dy hw
    cases dy<;>first | (cases hw;done) | (simp only[Option.some.injEq]at hw;subst hw;simp;done) | (simp only[Option.some.injEq]at hw;subst hw;rfl)
   ·simp[hlt]at hc
  ·cases hc
section
variable {P:Program} {β:Bt} {B0:Nat} {S:St} {w:World} {ps nt:Nat} {ops:Array Oper}
theorem zde {call:cZ}(cu:Xf P B0 call){T:Tm}{a:Act}(hwf:S.wf)(hR:Rel β B0 S.h w)(hT:di β ps nt T a){i:Nat}{o:Oper}(ho:ops[i]?=some o){o1:cM}(hc:Uy P ps ops nt o=some o1){T':Tm}{S':St}
  (hs:wT call o1 T S=some (T',S')) (hfree:WG β S.nx S'.nx) {K:Act→World→Prop} {Q:Exit→Act→World→Prop}
  (h:∀γ v v' w',T'=T.put v o1.dst→VR γ v v'→dB B0 β S w γ S' w'→K (a.put o.dst v') w'):wpOp P ops Q i K a w:=by
 obtain⟨xs,h1,h2,h3,h4,h5⟩:=ZH hc
 unfold wpOp
 simp only[ho]
 unfold wT at hs
 split at hs
 ·rename_i hw
  rw[Vb hT h2 hw,if_pos rfl]
  split at hs
  ·rename_i v S1 he
   cases hs
   exact .inl (zct hwf hR h1 (zeP hT h3) cu he hfree fun γ v' w' g1 g2=>h γ v v' w' rfl g1 g2)
  ·cases hs
 ·rename_i hw
  rw[Vb hT h2 hw,if_neg (by simp)]
  cases hs
  exact h β (.ay []) undef w rfl (.ay .nil) (dB.refl hR)
 ·cases hs
theorem U7 {call:cZ}(cu:Xf P B0 call)(GY:W6 call){l:List cM}(hl:vZ (Uy P ps ops nt) ops.toList=some l){Q:Exit→Act→World→Prop}{T':Tm}{S':St} :
  ∀(n i:Nat),i+n=ops.size→∀{β:Bt} {S:St} {w:World} {T:Tm} {a:Act},S.wf→Rel β B0 S.h w→di β ps nt T a→Yh call (l.drop i) T S=some (T',S')→WG β S.nx S'.nx →
   (∀γ a' w',di γ ps nt T' a'→dB B0 β S w γ S' w'→Q .normal a' w')→wpOps P ops Q (List.range' i n) a w:=by
 have hlen:ops.size=l.length:=by have:=vl hl;simpa using this
 intro n
 induction n with
 | zero =>
  intro i hi β S w T a hwf hR hT hs hfree h
  rw[List.drop_of_length_le (by omega)]at hs
  cases hs
  exact h β a w hT (dB.refl hR)
 | succ n ih =>
  intro i hi β S w T a hwf hR hT hs hfree h
  rw[List.range'_succ,wpOps_cons]
  have hi2:i<ops.size:=by omega
  have ho:ops[i]?=some ops[i]:=Array.getElem?_eq_getElem hi2
  obtain⟨o1,hc,dN⟩:=vF hl i ops[i] (by simp)
  have hd:l.drop i=o1::l.drop (i+1):=by
   rw[List.drop_eq_getElem_cons (by omega)]
   congr 1
   rw[List.getElem?_eq_getElem (by omega)]at dN
   exact Option.some.inj dN
  rw[hd]at hs
  rw[wU]at hs
  split at hs
  ·rename_i T1 S1 he
   have nh:=(XM GY hs).nx
   obtain⟨_,_,_,_,h4,h5⟩:=ZH hc
   refine zde cu hwf hR hT ho hc he (hfree.left nh) fun γ v v' w' hT1 g1 g2=>?_
   subst hT1
   refine ih (i+1) (by omega) ((Xt GY he).wf hwf) g2.rel ?_ hs (hfree.right g2) fun δ a' w'' g3 g4=>h δ a' w'' g3 (g2.trans g4)
   rw[h4]
   exact (hT.mono g2.ext).put g1 _ h5
  ·cases hs
end
end
section
open Go.RowKit (Below)
def WE (E:Ec):Prop:=∀c T S x T' S',E c T S=some (x,T',S')→Gr S S'
theorem Xc {F:Nat→Option aT}{E:Ec}(h:WE E):W6 (xp F E):=by
 intro f vs S v S' hs
 unfold xp at hs
 split at hs
 ·cases hs
 ·split at hs
  ·rename_i T' S1 he
   rw[Option.map_eq_some_iff]at hs
   obtain⟨u,_,hu⟩:=hs
   cases hu
   exact h _ _ _ _ _ _ he
  ·rename_i T' S1 he
   rw[Option.map_eq_some_iff]at hs
   obtain⟨u,_,hu⟩:=hs
   cases hu
   exact h _ _ _ _ _ _ he
  ·cases hs
theorem zb1 {call:cZ}(cu:W6 call):∀{l:List cM} {T:Tm} {S:St} {tr:List (Tm×St)},ZJ call l T S=some tr→∀{p:Tm×St},ZO tr=some p→Gr S p.2
 | [],T,S,tr,h,p,hp=>by cases h;cases hp;exact Gr.refl _
 | o::r,T,S,tr,h,p,hp=>by
  unfold ZJ at h
  split at h
  ·rename_i T1 S1 he
   rw[Option.map_eq_some_iff]at h
   obtain⟨u,hu,rfl⟩:=h
   have h1:=Xt cu he
   cases u with
   | nil =>
    exfalso
    revert hu
    cases r with
    | nil=>unfold ZJ;intro h;cases h
    | cons o r =>
     unfold ZJ
     split
     ·rw[Option.map_eq_some_iff];rintro⟨_,_,h⟩;cases h
     ·intro h;cases h
   | cons y u=>exact h1.trans (zb1 cu hu (by simpa[ZO]using hp))
  ·cases h
theorem zbu {F:Nat→Option aT}{E:Ec}(h:WE E):WE (xQ F E):=by
 have hc:=Xc (F:=F) h
 intro c T S x T' S' hs
 cases c with
 | skip=>cases hs;exact Gr.refl _
 | reg ops =>
  simp only[xQ,NA]at hs
  split at hs
  ·rename_i he;cases hs;exact XM hc he
  ·cases hs
 | IF ops Ag =>
  simp only[xQ,zc2]at hs
  split at hs
  ·rename_i tr he
   rw[cond_eq_ite]at hs
   split at hs
   ·rw[Option.map_eq_some_iff]at hs
    obtain⟨p,hp,hq⟩:=hs
    cases hq
    exact zb1 hc he hp
   ·cases hs
  ·cases hs
 | seq a b =>
  simp only[xQ,NB]at hs
  split at hs
  ·rename_i he;exact (h _ _ _ _ _ _ he).trans (h _ _ _ _ _ _ hs)
  ·exact h _ _ _ _ _ _ hs
 | cond c x y =>
  simp only[xQ,Qc]at hs
  split at hs
  ·exact h _ _ _ _ _ _ hs
  ·exact h _ _ _ _ _ _ hs
  ·cases hs
 | block id c =>
  simp only[xQ,Yb]at hs
  split at hs
  ·rename_i he
   rw[cond_eq_ite]at hs
   split at hs<;>(cases hs;exact h _ _ _ _ _ _ he)
  ·exact h _ _ _ _ _ _ hs
 | loop c =>
  simp only[xQ,UJ]at hs
  split at hs
  ·rename_i he;exact (h _ _ _ _ _ _ he).trans (h _ _ _ _ _ _ hs)
  ·exact h _ _ _ _ _ _ hs
 | exit id=>cases hs;exact Gr.refl _
 | ret=>cases hs;exact Gr.refl _
theorem VK (F:Nat→Option aT):∀n,WE (Z9 F n)
 | 0=>fun _ _ _ _ _ _ h=>by cases h
 | n+1=>zbu (VK F n)
section
variable {P:Program} {β:Bt} {B0:Nat} {h:PM AB} {w:World} {ps nt:Nat}
def zex (tmps:Array Value):ResultVar→Sem Value
 | .tmp t=>pure (tmps.getD t undef)
 | .cell a t=>do loadVar t (←asAddr (tmps.getD a undef))
theorem zdh (fn:Func)(tmps:Array Value):results fn tmps=(do let vs ←fn.results.mapM (zex tmps);pure (if h:vs.size=1 then vs[0]else .tuple vs)):=by
 unfold results
 congr 1
theorem zdi (hR:Rel β B0 h w){T:Tm}{a:Act}(hT:di β ps nt T a){r:ResultVar}{s:iq}(hc:YT P ps nt r=some s){v:AV}(hv:Vo T h s=some v) :
  ∃v',(zex a.tmps r).run P w=.ok v' w∧VR β v v':=by
 cases r with
 | tmp t =>
  simp only[YT,yV]at hc
  by_cases ht:t<nt
  ·simp only[ht,decide_true,cond_true,Option.some.injEq]at hc
   subst hc
   cases hv
   exact⟨_,rfl,hT.tm t ht⟩
  ·simp[ht]at hc
 | cell t ty =>
  simp only[YT,yV]at hc
  by_cases ht:t<nt
  ·simp only[ht,decide_true,cond_true,Option.map_eq_some_iff]at hc
   obtain⟨sz,hsz,rfl⟩:=hc
   simp only[Vo]at hv
   have h1:VR β ((Et ps t).ev T) (a.tmps.getD t undef):=hT.tm t ht
   show ∃v',(do loadVar ty (←asAddr (a.tmps.getD t undef)):Sem Value).run P w=.ok v' w∧VR β v v'
   generalize a.tmps.getD t undef=y at h1 ⊢
   generalize (Et ps t).ev T=x at h1 hv
   split at hv
   ·rename_i ad
    obtain⟨v',h2,h3⟩:=zm4 (P:=P) hR hsz (.cons h1 .nil) (vs:=[.p (some ad)]) (v:=v) hv
    cases h1
    refine⟨v',?_,h3⟩
    simpa[Instr.loadAt,Instr.sureAddr,asAddr]using h2
   ·cases hv
  ·simp[ht]at hc
theorem zcf (hR:Rel β B0 h w){T:Tm}{a:Act}(hT:di β ps nt T a):∀{rs:List ResultVar} {ss:List iq},vZ (YT P ps nt) rs=some ss→∀{vs:List AV},ND T h ss=some vs →
  ∃vs',(rs.mapM (zex a.tmps)).run P w=.ok vs' w∧aS β vs vs'
 | [],ss,hc,vs,hv=>by simp[vZ]at hc;subst hc;cases hv;exact⟨[],rfl,.nil⟩
 | r::rs,ss,hc,vs,hv=>by
  unfold vZ at hc
  split at hc
  ·rename_i s hs
   rw[Option.map_eq_some_iff]at hc
   obtain⟨ss',hss,rfl⟩:=hc
   simp only[ND]at hv
   split at hv
   ·rename_i v LX
    rw[Option.map_eq_some_iff]at hv
    obtain⟨vs1,hvs,rfl⟩:=hv
    obtain⟨v',h1,h2⟩:=zdi hR hT hs LX
    obtain⟨vs',h3,h4⟩:=zcf hR hT hss hvs
    refine⟨v'::vs',?_,.cons h2 h4⟩
    simp only[List.mapM_cons,Sem.run_bind,h1,Result.andThen_ok,h3,Sem.run_pure]
   ·cases hv
  ·cases hc
theorem Yj (hR:Rel β B0 h w){T:Tm}{a:Act}(hT:di β ps nt T a){fn:Func}{ss:List iq}(hc:vZ (YT P ps nt) fn.results.toList=some ss){v:AV}(hv:Is T h ss=some v) :
  ∃v',(results fn a.tmps).run P w=.ok v' w∧VR β v v':=by
 unfold Is at hv
 have key:∀vs,ND T h ss=some vs→∃vs',(results fn a.tmps).run P w=.ok (if h:vs'.length=1 then vs'[0]else .tuple vs'.toArray) w∧aS β vs vs':=by
  intro vs hvs
  obtain⟨vs',h1,h2⟩:=zcf hR hT hc hvs
  refine⟨vs',?_,h2⟩
  rw[zdh,Array.mapM_eq_mapM_toList]
  simp only[Sem.run_bind,map_eq_pure_bind,Sem.run_pure,h1,Result.andThen_ok,List.size_toArray]
  rfl
 split at hv
 ·rename_i u hu
  cases hv
  obtain⟨vs',h1,h2⟩:=key _ hu
  cases h2 with
  | cons h3 h4=>cases h4;exact⟨_,h1,h3⟩
 ·rename_i vs hne hu
  cases hv
  obtain⟨vs',h1,h2⟩:=key _ hu
  refine⟨_,h1,?_⟩
  rw[dif_neg (fun e=>?_)]
  ·exact .ay h2
  ·have:=h2.length
   rw[e]at this
   match vs,this with
   | [x],_=>exact hne x rfl
 ·cases hv
end
def VJ:Ex→Exit
 | .norm=>.normal
 | .ex id=>.exit id
 | .ret=>.ret
def Says (P:Program)(B0 ps nt:Nat)(c:Code)(T:Tm)(S:St)(x:Ex)(T':Tm)(S':St):Prop :=
 ∀β w a (Q:Exit→Act→World→Prop),S.wf→Rel β B0 S.h w→di β ps nt T a→WG β S.nx S'.nx →
  (∀γ a' w',di γ ps nt T' a'→dB B0 β S w γ S' w'→Q (VJ x) a' w')→c.wp P Q a w
def ziA (P:Program)(B0:Nat)(F:Nat→Option aT)(E:Ec):Prop :=
 ∀ps nt id ops d c,zbC P ps nt ops d=some c→∀T S x T' S',xQ F E c T S=some (x,T',S')→Says P B0 ps nt (.region id ops d) T S x T' S'
def zaQ (P:Program)(B0:Nat)(E:Ec):Prop :=
 ∀ps nt c c',xN P ps nt c=some c'→∀T S x T' S',E c' T S=some (x,T',S')→Says P B0 ps nt c T S x T' S'
def zhk (P:Program)(B0:Nat)(E:Ec)(n:Nat):Prop :=
 ∀ps nt c c',xN P ps nt c=some c'→∀T S x T' S',E (.loop c') T S=some (x,T',S') →
  ∀β w a (Q:Exit→Act→World→Prop),S.wf→Rel β B0 S.h w→di β ps nt T a→WG β S.nx S'.nx →
  (∀γ a' w',di γ ps nt T' a'→dB B0 β S w γ S' w'→Q (VJ x) a' w')→Code.rounds P c Q n a w
theorem zam:∀(vs:List AV) (k t:Nat),yp (P8 vs k) t=if k≤t then (vs[t-k]?).getD .bad else .bad
 | [],k,t=>by simp[P8,zcU]
 | v::vs,k,t=>by
  simp only[P8,Zw,zq]
  by_cases h:k=t
  ·subst h;simp
  ·simp only[h,decide_false,cond_false]
   rw[zam vs (k+1) t]
   by_cases h1:k≤t
   ·rw[if_pos (by omega),if_pos h1,show t-k=(t-(k+1))+1 by omega];rfl
   ·rw[if_neg (by omega),if_neg h1]
theorem ze3 {β:Bt}{ps nt:Nat}{vs:List AV}{as:Array Value}(h:aS β vs as.toList):di β ps nt (zgA vs) { tmps:=as++Array.replicate (nt-as.size) undef,defers:=[] }:=by
 refine⟨by simp;omega,fun t ht=>?_,rfl⟩
 unfold Tm.at Et
 cases aK ps t
 ·exact .bad _
 ·show VR β (yp (P8 vs 0) t) _
  rw[zam,if_pos (Nat.zero_le _)]
  cases hg:vs[t-0]? with
  | none=>exact .bad _
  | some v =>
   obtain⟨v',h1,h2⟩:=h.get hg
   have:(as++Array.replicate (nt-as.size) undef).getD t undef=v':=by
    have hlt:t<as.size:=by
     have:=(List.getElem?_eq_some_iff.1 h1).1
     simpa using this
    rw[Array.getD_eq_getD_getElem?,Array.getElem?_append_left hlt]
    rw[Nat.sub_zero,Array.getElem?_toList]at h1
    rw[h1];rfl
   rw[this];exact h2
section
variable {P:Program} {B0:Nat} {F:Nat→Option aT}
def zds:aT:=⟨.ret,[.tmp (.c (.b true))]⟩
def Zy (P : Program) (f : Nat) : Prop := (∃ fn, P.funcs[f]? = some fn ∧ fn.body.isSome = true ∧ (fn.name == "runtime.NumGoroutine") = false) ∧
 ∀as w,Calls P f as w fun e w'=>e=.returned (.bool true)∧Below w.heap.size w w'
def W5 (P:Program)(F:Nat→Option aT):Prop:=∀f fn,F f=some fn→(∃ps g,P.funcs[f]?=some g∧Ws P ps g=some fn)∨(fn=zds∧Zy P f)
def zjW (E:Ec):Prop:=∀T S r,E .ret T S=some r→r=(.ret,T,S)
theorem zcO (F:Nat→Option aT):∀n,zjW (Z9 F n)
 | 0=>by intro T S r h;cases h
 | n+1=>by intro T S r h;cases h;rfl
theorem zem {β:Bt}{S:St}{w w':World}(hR:Rel β B0 S.h w)(hb:Below w.heap.size w w'):dB B0 β S w β S w':=by
 have hsz:=hb.size
 refine⟨Ext.refl β,fun n h1 h2=>absurd h1 h2,⟨fun n bl b o z hg hn=>(hR.cr n bl b o z hg hn).congr (hb.block b (hR.lt n b _ hn)),hR.inj,fun n b x hn=>?_,?_⟩,⟨hb.os,hb.tape,hb.output,hb.size,fun k hk=>hb.block k ?_⟩,fun b hlt _=>hb.block b hlt,fun b ho=>.inr ho,fun _ _ _=>rfl,Nat.le_refl _⟩
 ·have:=hR.lt n b x hn;omega
 ·have:=hR.le;omega
 ·have:=hR.le;omega
theorem zfK (hF:W5 P F){E:Ec}(hE:zaQ P B0 E)(MR:zjW E):Xf P B0 (xp F E):=by
 intro f vs S v S' hs
 unfold xp at hs
 split at hs
 ·cases hs
 ·rename_i fn hf
  rcases hF f fn hf with⟨ps,g,hg,hc⟩ | ⟨hk,hkn,hk2⟩
  case inr =>
   subst hk
   have fin:v=.b true∧S'=S:=by
    split at hs
    ·rename_i T' S1 he
     cases MR _ _ _ he
    ·rename_i T' S1 he
     cases MR _ _ _ he
     simp only[zds,Is,ND,Vo,fT.ev,Option.map_some,Option.some.injEq,Prod.mk.injEq]at hs
     exact⟨hs.1.symm,hs.2.symm⟩
    ·cases hs
   obtain⟨rfl,rfl⟩:=fin
   refine⟨hkn,fun β w as hwf hvs hR hfree=>(hk2 as w).mono ?_⟩
   rintro e w' ⟨rfl,hb⟩
   exact⟨β,.bool true,rfl,.b true,zem hR hb⟩
  unfold Ws at hc
  split at hc
  ·cases hc
  ·rename_i c hb
   rw[cond_eq_ite]at hc
   split at hc
   ·rename_i hname
    split at hc
    ·rename_i b r hcb EJ
     cases hc
     simp only at hs
     refine⟨⟨g,hg,by rw[hb];rfl,by simpa using hname⟩,fun β w as hwf hvs hR hfree=>?_⟩
     have fin:∀x T' S1,E b (zgA vs) S=some (x,T',S1)→(∀R:Exit→Act→World→Prop,True)→(VJ x=.normal∨VJ x=.ret)→(Is T' S1.h r).map (fun v=>(v,S1))=some (v,S') →
       Calls P f as w fun e w'=>∃γ v',e=.returned v'∧VR γ v v'∧dB B0 β S w γ S' w':=by
      intro x T' S1 he _ hx hr
      rw[Option.map_eq_some_iff]at hr
      obtain⟨u,hu,hq⟩:=hr
      cases hq
      refine calls_of_wp hg hb (hE ps g.ntmps c b hcb _ _ _ _ _ he β w _ _ hwf hR (ze3 hvs) hfree fun γ a' w' h1 h2=>?_)
      obtain⟨v',h3,h4⟩:=Yj h2.rel h1 EJ hu
      rcases hx with hx | hx<;>rw[hx]<;>exact⟨h1.df,v',h3,γ,v',rfl,h4,h2⟩
     split at hs
     ·rename_i T' S1 he
      exact fin _ _ _ he (fun _=>trivial) (.inl rfl) hs
     ·rename_i T' S1 he
      exact fin _ _ _ he (fun _=>trivial) (.inr rfl) hs
     ·cases hs
    ·cases hc
   ·cases hc
theorem zfm (zpe:∀E,zaQ P B0 E→WE E→zjW E→ziA P B0 F E):∀n,zaQ P B0 (Z9 F n)∧zhk P B0 (Z9 F n) n:=by
 intro n
 induction n with
 | zero =>
  refine⟨?_,?_⟩
  ·intro ps nt c c' hc T S x T' S' h;cases h
  ·intro ps nt c c' hc T S x T' S' h;cases h
 | succ n ih =>
  obtain⟨hE,hL⟩:=ih
  have hG:=VK F n
  have Oy:zhk P B0 (Z9 F (n+1)) (n+1):=by
   intro ps nt c c' hc T S x T' S' hs β w a Q hwf hR hT hfree h
   rw[rounds_succ]
   change UJ (Z9 F n) c' T S=_ at hs
   unfold UJ at hs
   split at hs
   ·rename_i T1 S1 he
    have hn:=(hG _ _ _ _ _ _ hs).nx
    have I0:=(hG _ _ _ _ _ _ he).wf hwf
    refine hE ps nt c c' hc _ _ _ _ _ he β w a _ hwf hR hT (hfree.left hn) fun γ a' w' h1 h2=>?_
    exact hL ps nt c c' hc _ _ _ _ _ hs γ w' a' Q I0 h2.rel h1 (hfree.right h2) fun δ a'' w'' h3 h4=>h δ a'' w'' h3 (h2.trans h4)
   ·rename_i he
    refine hE ps nt c c' hc _ _ _ _ _ hs β w a _ hwf hR hT hfree fun γ a' w' h1 h2=>?_
    have:=h γ a' w' h1 h2
    cases x with
    | norm=>exact absurd hs (he T' S')
    | ex id=>exact this
    | ret=>exact this
  refine⟨?_,Oy⟩
  intro ps nt c c' hc T S x T' S' hs
  have zls:=zpe (Z9 F n) hE hG (zcO F n)
  change xQ F (Z9 F n) c' T S=_ at hs
  intro β w a Q hwf hR hT hfree h
  cases c with
  | skip=>cases hc;cases hs;exact wp_skip (h β a w hT (dB.refl hR))
  | region id ops d=>exact zls ps nt id ops d c' hc T S x T' S' hs β w a Q hwf hR hT hfree h
  | seq y z =>
   simp only[xN]at hc
   split at hc
   ·rename_i y' z' hy hz
    cases hc
    change NB (Z9 F n) y' z' T S=_ at hs
    unfold NB at hs
    refine wp_seq ?_
    split at hs
    ·rename_i T1 S1 he
     have hn:=(hG _ _ _ _ _ _ hs).nx
     have I0:=(hG _ _ _ _ _ _ he).wf hwf
     refine hE ps nt y y' hy _ _ _ _ _ he β w a _ hwf hR hT (hfree.left hn) fun γ a' w' h1 h2=>?_
     exact hE ps nt z z' hz _ _ _ _ _ hs γ w' a' Q I0 h2.rel h1 (hfree.right h2) fun δ a'' w'' h3 h4=>h δ a'' w'' h3 (h2.trans h4)
    ·rename_i he
     refine hE ps nt y y' hy _ _ _ _ _ hs β w a _ hwf hR hT hfree fun γ a' w' h1 h2=>?_
     have:=h γ a' w' h1 h2
     cases x with
     | norm=>exact absurd hs (he T' S')
     | ex id=>exact this
     | ret=>exact this
   ·cases hc
  | cond b y z =>
   simp only[xN]at hc
   split at hc
   ·rename_i b' y' z' hb hy hz
    cases hc
    change Qc (Z9 F n) b' y' z' T S=_ at hs
    unfold Qc at hs
    have hbv:=zg8 hT hb
    split at hs
    ·rename_i he
     rw[he]at hbv
     have SA:a.eval b=.bool true:=by generalize a.eval b=q at hbv;cases hbv;rfl
     exact wp_cond_true SA (hE ps nt y y' hy _ _ _ _ _ hs β w a Q hwf hR hT hfree h)
    ·rename_i he
     rw[he]at hbv
     have SA:a.eval b=.bool false:=by generalize a.eval b=q at hbv;cases hbv;rfl
     exact wp_cond_false SA (hE ps nt z z' hz _ _ _ _ _ hs β w a Q hwf hR hT hfree h)
    ·cases hs
   ·cases hc
  | block id y =>
   simp only[xN,Option.map_eq_some_iff]at hc
   obtain⟨y',hy,rfl⟩:=hc
   change Yb (Z9 F n) id y' T S=_ at hs
   unfold Yb at hs
   refine wp_block ?_
   split at hs
   ·rename_i j T1 S1 he
    rw[zq]at hs
    by_cases hj:j=id
    ·simp only[hj,decide_true,cond_true]at hs
     cases hs
     refine hE ps nt y y' hy _ _ _ _ _ he β w a _ hwf hR hT hfree fun γ a' w' h1 h2=>?_
     have:=h γ a' w' h1 h2
     simp only[VJ,Exit.inBlock,hj,if_true]
     exact this
    ·simp only[hj,decide_false,cond_false]at hs
     cases hs
     refine hE ps nt y y' hy _ _ _ _ _ he β w a _ hwf hR hT hfree fun γ a' w' h1 h2=>?_
     have:=h γ a' w' h1 h2
     simp only[VJ,Exit.inBlock,hj,if_false]
     exact this
   ·rename_i he
    refine hE ps nt y y' hy _ _ _ _ _ hs β w a _ hwf hR hT hfree fun γ a' w' h1 h2=>?_
    have:=h γ a' w' h1 h2
    cases x with
    | norm=>exact this
    | ex j=>exact absurd hs (he j T' S')
    | ret=>exact this
  | loop y =>
   simp only[xN,Option.map_eq_some_iff]at hc
   obtain⟨y',hy,rfl⟩:=hc
   exact wp_loop_rounds (n+1) (Oy ps nt y y' hy T S x T' S' hs β w a Q hwf hR hT hfree h)
  | exit id=>cases hc;cases hs;exact wp_exit (h β a w hT (dB.refl hR))
  | ret=>cases hc;cases hs;exact wp_ret (h β a w hT (dB.refl hR))
  | _=>cases hc
theorem VC (hm:∀B0 E,zaQ P B0 E→WE E→zjW E→ziA P B0 F E){ps f:Nat}{g:Func}{fn:aT}(hg:P.funcs[f]?=some g)(hc:Ws P ps g=some fn){n:Nat}{x:Ex}{T':Tm}{S':St}
  (he:Z9 F n fn.body ⟨[],[]⟩ ⟨.nil,0⟩=some (x,T',S')) (hx:(match x with | .ex _=>false | _=>true)=true) (hv:Is T' S'.h fn.res=some (.b true)):Zy P f:=by
 unfold Ws at hc
 split at hc
 ·cases hc
 ·rename_i c hb
  rw[cond_eq_ite]at hc
  split at hc
  ·rename_i hname
   split at hc
   ·rename_i b r hcb EJ
    cases hc
    simp only at he hv
    refine⟨⟨g,hg,by rw[hb];rfl,by simpa using hname⟩,fun as w=>?_⟩
    have hR:Rel (fun _=>none) w.heap.size (PM.nil:PM AB) w:=by
     refine⟨?_,?_,?_,Nat.le_refl _⟩
     ·intro n bl b o z h;cases h
     ·intro n m bl bm b x y h;cases h
     ·intro n b x h;cases h
    refine calls_of_wp hg hb ((zfm (hm w.heap.size) n).1 ps g.ntmps c b hcb _ _ _ _ _ he (fun _=>none) w _ _ (fun m bl h=>by cases h) hR ⟨by simp;omega,fun t ht=>?_,rfl⟩ (fun _ _ _=>rfl) fun γ a' w' h1 h2=>?_)
    ·have:Tm.at ps ⟨[],[]⟩ t=.bad:=by unfold Tm.at Et;cases aK ps t<;>rfl
     rw[this];exact .bad _
    ·obtain⟨v',h3,h4⟩:=Yj h2.rel h1 EJ hv
     cases h4
     cases x with
     | norm=>exact⟨h1.df,_,h3,rfl,h2.ko⟩
     | ret=>exact⟨h1.df,_,h3,rfl,h2.ko⟩
     | ex j=>cases hx
   ·cases hc
  ·cases hc
end
end
section
open Go.RowKit (Below)
def Way (call:cZ)(l:List cM)(ts:Nat→Tm)(ss:Nat→St):Prop :=
 ∀i o,l[i]?=some o→wT call o (ts i) (ss i)=some (ts (i+1),ss (i+1))
theorem X7 {x y:Tm×St}{r:List (Tm×St)}:ZO (x::y::r)=ZO (y::r):=rfl
theorem YZ {call:cZ}:∀{l:List cM} {T:Tm} {S:St} {tr:List (Tm×St)},ZJ call l T S=some tr →
  ∃ts ss,ts 0=T∧ss 0=S∧Way call l ts ss∧(∀i,i≤l.length→tr[i]?=some (ts i,ss i))∧ZO tr=some (ts l.length,ss l.length)
 | [],T,S,tr,h=>by
  cases h
  refine⟨fun _=>T,fun _=>S,rfl,rfl,fun i o h=>by simp at h,fun i hi=>?_,rfl⟩
  have:i=0:=by simpa using hi
  subst this;rfl
 | o::r,T,S,tr,h=>by
  unfold ZJ at h
  split at h
  ·rename_i T1 S1 he
   rw[Option.map_eq_some_iff]at h
   obtain⟨u,hu,rfl⟩:=h
   obtain⟨ts,ss,h1,h2,h3,h4,h5⟩:=YZ hu
   refine⟨fun i=>match i with | 0=>T | i+1=>ts i,fun i=>match i with | 0=>S | i+1=>ss i,rfl,rfl,?_,?_,?_⟩
   ·intro i o' ho
    cases i with
    | zero =>
     simp only[List.getElem?_cons_zero,Option.some.injEq]at ho
     subst ho
     simp only[h1,h2]
     exact he
    | succ i=>exact h3 i o' (by simpa using ho)
   ·intro i hi
    cases i with
    | zero=>rfl
    | succ i=>simpa using h4 i (by simpa using hi)
   ·have h0:=h4 0 (Nat.zero_le _)
    cases u with
    | nil=>cases h0
    | cons y u=>rw[X7,h5];rfl
  ·cases h
theorem Y1 {call:cZ}:∀{l:List cM} {T:Tm} {S:St} {p:Tm×St},Yh call l T S=some p→∃tr,ZJ call l T S=some tr∧ZO tr=some p
 | [],T,S,p,h=>by cases h;exact⟨_,rfl,rfl⟩
 | o::r,T,S,p,h=>by
  rw[wU]at h
  split at h
  ·rename_i T1 S1 he
   obtain⟨u,h1,h2⟩:=Y1 h
   refine⟨(T,S)::u,by unfold ZJ;rw[he];simp only[h1,Option.map_some],?_⟩
   cases u with
   | nil=>cases h2
   | cons y u=>rw[X7,h2]
  ·cases h
theorem Y9 (acc:List Nat)(i:Nat):∀(ds:List Nat) (s:Nat),(ds.foldl (fun s e=>s ||| 2 ^ e ||| acc.getD e 0) s).testBit i=true→s.testBit i=true∨∃e∈ds,i=e∨(acc.getD e 0).testBit i=true
 | [],s,h=>.inl h
 | e::ds,s,h=>by
  rw[List.foldl_cons]at h
  rcases Y9 acc i ds _ h with h | ⟨e',he,h⟩
  ·simp only[Nat.testBit_or,Bool.or_eq_true,Nat.testBit_two_pow,decide_eq_true_eq]at h
   rcases h with (h | h) | h
   ·exact .inl h
   ·exact .inr ⟨e,by simp,.inl h.symm⟩
   ·exact .inr ⟨e,by simp,.inr h⟩
  ·exact .inr ⟨e',by simp[he],h⟩
theorem Xe (D:Nat→List Nat):∀(ds:List (List Nat)) (acc:List Nat),(∀k x,ds[k]?=some x→D (acc.length+k)=x) →
  (∀j i,(acc.getD j 0).testBit i=true→∃d∈D j,i=d∨(acc.getD d 0).testBit i=true) →
  ∀j i,((xB ds acc).getD j 0).testBit i=true→∃d∈D j,i=d∨((xB ds acc).getD d 0).testBit i=true
 | [],acc,_,h=>h
 | x::r,acc,hD,h=>by
  unfold xB
  have hx:D acc.length=x:=by simpa using hD 0 x (by simp)
  have ig:∀d,d<acc.length→∀m,(acc++[m]).getD d 0=acc.getD d 0:=fun d hd m=>by
   rw[List.getD_eq_getElem?_getD,List.getD_eq_getElem?_getD,List.getElem?_append_left hd]
  have hno:∀d,¬d<acc.length→∀i,(acc.getD d 0).testBit i=true→False:=fun d hd i hb=>by
   rw[List.getD_eq_getElem?_getD,List.getElem?_eq_none (by omega)]at hb
   simp at hb
  have lift:∀m d i,(acc.getD d 0).testBit i=true→((acc++[m]).getD d 0).testBit i=true:=fun m d i hb=>by
   by_cases hd:d<acc.length
   ·rw[ig d hd];exact hb
   ·exact (hno d hd i hb).elim
  refine Xe D r _ (fun k y hk=>?_) (fun j i hb=>?_)
  ·have:=hD (k+1) y (by simpa using hk)
   rw[←this]
   simp only[List.length_append,List.length_cons,List.length_nil]
   congr 1
   omega
  ·by_cases hj:j<acc.length
   ·rw[ig j hj]at hb
    obtain⟨d,hd,h1 | h1⟩:=h j i hb
    ·exact⟨d,hd,.inl h1⟩
    ·exact⟨d,hd,.inr (lift _ d i h1)⟩
   ·by_cases hj2:j=acc.length
    ·subst hj2
     rw[List.getD_eq_getElem?_getD,List.getElem?_append_right (Nat.le_refl _)]at hb
     simp only[Nat.sub_self,List.getElem?_cons_zero,Option.getD_some]at hb
     rcases Y9 acc i x 0 hb with h0 | ⟨e,he,h1⟩
     ·simp at h0
     ·rw[hx]
      refine⟨e,he,h1.imp id (lift _ e i)⟩
    ·rw[List.getD_eq_getElem?_getD,List.getElem?_eq_none (by simp;omega)]at hb
     simp at hb
def we (ops:Array Oper)(j:Nat):List Nat:=((ops.toList[j]?).map wG).getD []
theorem zgN {ops:Array Oper}{i j:Nat}(h:HW (xB (ops.toList.map wG) []) i j=true):∃d∈we ops j,i=d∨HW (xB (ops.toList.map wG) []) i d=true:=by
 refine Xe (we ops) _ [] (fun k x hk=>?_) (fun j i hb=>by simp at hb) j i h
 rw[List.getElem?_map]at hk
 show ((ops.toList[0+k]?).map wG).getD []=x
 rw[Nat.zero_add,hk];rfl
theorem Wx {ops:Array Oper}(h:Wy (ops.toList.map wG)=true){j d:Nat}(hd:d∈we ops j):d<j:=by
 unfold we at hd
 cases ho:ops.toList[j]? with
 | none=>rw[ho]at hd;simp at hd
 | some o =>
  rw[ho]at hd
  simp only[Option.map_some,Option.getD_some]at hd
  unfold Wy at h
  rw[List.all_eq_true]at h
  have h1:=h (wG o,j) (by rw[List.mem_zipIdx_iff_getElem?];rw[List.getElem?_map,ho];rfl)
  simp only[List.all_eq_true]at h1
  have:=h1 d hd
  rw[yV]at this
  exact of_decide_eq_true this
theorem wP {ops:Array Oper}(hb:Wy (ops.toList.map wG)=true){X:Nat→Prop}(hX:∀j,X j→∀d∈we ops j,X d):∀(j:Nat),(∀d∈we ops j,X d)→∀i,HW (xB (ops.toList.map wG) []) i j=true→X i:=by
 intro j
 induction j using Nat.strongRecOn with
 | _ j ih =>
  intro hj i h
  obtain⟨d,hd,h1 | h1⟩:=zgN h
  ·subst h1;exact hj i hd
  ·exact ih d (Wx hb hd) (hX d (hj d hd)) i h1
theorem Yt {l:List cM}{e:Nat}:e∈Ip l↔∃o,l[e]?=some o∧eR o=true:=by
 unfold Ip
 simp only[List.mem_map,List.mem_filter,Prod.exists,List.mem_zipIdx_iff_getElem?]
 constructor
 ·rintro⟨o,i,⟨h1,h2⟩,rfl⟩;exact⟨o,h1,h2⟩
 ·rintro⟨o,h1,h2⟩;exact⟨o,e,⟨h1,h2⟩,rfl⟩
theorem Vg {l:List cM}{b:List Nat}(h:YJ l b=true){i j d:Nat}{o p:cM}(hi:l[i]?=some o)(hd:o.dst.tm=some d)(hj:l[j]?=some p)(hn:d∈Vh p)(hij:i≠j) :
  (i<j∧HW b i j=true)∨(j<i∧HW b j i=true):=by
 unfold YJ at h
 rw[List.all_eq_true]at h
 have h1:=h (o,i) (by rw[List.mem_zipIdx_iff_getElem?];exact hi)
 simp only[hd]at h1
 rw[List.all_eq_true]at h1
 have h2:=h1 (p,j) (by rw[List.mem_zipIdx_iff_getElem?];exact hj)
 simp only[zq,Bool.or_eq_true,decide_eq_true_eq,Bool.not_eq_true',List.contains_eq_mem,decide_eq_false_iff_not]at h2
 rcases h2 with (h2 | h2) | h2
 ·exact absurd h2 hij
 ·exact absurd hn h2
 ·rw[yV]at h2
  by_cases hlt:i<j
  ·simp only[hlt,decide_true,cond_true]at h2
   exact .inl ⟨hlt,h2⟩
  ·simp only[hlt,decide_false,cond_false]at h2
   exact .inr ⟨by omega,h2⟩
theorem zgI {l:List cM}{b:List Nat}(h:zfx l b=true){i j:Nat}{o p:cM}(hi:l[i]?=some o)(ho:eR o=true)(hj:l[j]?=some p)(hp:eR p=true)(hij:i<j):HW b i j=true:=by
 unfold zfx at h
 rw[List.all_eq_true]at h
 have h1:=h (o,i) (by rw[List.mem_zipIdx_iff_getElem?];exact hi)
 simp only[ho,Bool.not_true,Bool.false_or]at h1
 rw[List.all_eq_true]at h1
 have h2:=h1 (p,j) (by rw[List.mem_zipIdx_iff_getElem?];exact hj)
 simpa[hp,yV,hij]using h2
theorem zis {l:List cM}{b:List Nat}{r p:Nat}{o:cM}(hr:l[r]?=some o)(hm:o.op.mem=true)(hp:p=0∨∃e,e∈Ip l∧p=e+1)(hf:Nj (Ip l) b r p=true)(hw:Mw (Ip l) r p=false):(r,p)∈zfH l b:=by
 unfold zfH
 simp only[List.mem_flatten,List.mem_map]
 refine⟨_,⟨(o,r),by rw[List.mem_zipIdx_iff_getElem?];exact hr,rfl⟩,?_⟩
 simp only[hm,cond_true,List.mem_map,List.mem_filter]
 refine⟨p,⟨?_,by simp[hf,hw]⟩,rfl⟩
 rcases hp with rfl | ⟨e,he,rfl⟩
 ·simp
 ·exact List.mem_cons_of_mem _ (List.mem_map.2 ⟨e,he,rfl⟩)
theorem zg9 (ps t:Nat):(Et ps t).tm=some t:=by
 unfold Et
 cases aK ps t<;>rfl
theorem zfz (ps:Nat)(d:Option Tmp):(P0 ps d).tm=d:=by
 cases d with
 | none=>rfl
 | some d=>simp only[P0];cases aK ps d<;>rfl
theorem zje {β:Bt}{ps nt:Nat}{T:Tm}{a:Act}{x:Operand}{y:fT}(hc:w8 ps nt x=some y)(h:∀t,y.tm=some t→t<nt→VR β (T.at ps t) (a.tmps.getD t undef)):VR β (y.ev T) (a.eval x):=by
 cases x with
 | tmp t =>
  simp only[w8,yV]at hc
  by_cases ht:t<nt
  ·simp only[ht,decide_true,cond_true,Option.some.injEq]at hc
   subst hc
   exact h t (zg9 ps t) ht
  ·simp[ht]at hc
 | const v =>
  simp only[w8,Option.map_eq_some_iff]at hc
  obtain⟨u,hu,rfl⟩:=hc
  exact za2 hu
 | global g=>cases hc
 | func f=>cases hc;exact .fn f .nil .nil
theorem zeO {β:Bt}{ps nt:Nat}{T:Tm}{a:Act}:∀{xs:List Operand} {ys:List fT},vZ (w8 ps nt) xs=some ys→(∀t,t∈ys.filterMap fT.tm→t<nt→VR β (T.at ps t) (a.tmps.getD t undef))→aS β (G2 T ys) (xs.map a.eval)
 | [],ys,hc,h=>by simp[vZ]at hc;subst hc;exact .nil
 | x::xs,ys,hc,h=>by
  unfold vZ at hc
  split at hc
  ·rename_i y hy
   rw[Option.map_eq_some_iff]at hc
   obtain⟨zs,hz,rfl⟩:=hc
   refine .cons (zje hy fun t ht=>h t ?_) (zeO hz fun t ht=>h t ?_)
   ·rw[List.mem_filterMap];exact⟨y,by simp,ht⟩
   ·rw[List.mem_filterMap]at ht ⊢
    obtain⟨z,h1,h2⟩:=ht
    exact⟨z,by simp[h1],h2⟩
  ·cases hc
theorem zf9 {β:Bt}{ps nt:Nat}{T:Tm}{a:Act}(hsz:nt≤a.tmps.size){ops:Array Oper}{o:Oper}{gd:Option (fT×Bool)}(hc:vx ps ops nt o.guard=some gd)
  (h:∀t,gd.bind (·.1.tm)=some t→t<nt→VR β (T.at ps t) (a.tmps.getD t undef)) {r:Bool} (hw:ZS T gd=some r):Region.wanted o (yielded ops a.tmps)=r:=by
 unfold vx at hc
 split at hc
 ·rename_i hg
  cases hc
  cases hw
  simp[Region.wanted,hg]
 ·rename_i j w hg
  split at hc
  ·rename_i t ht
   rw[yV]at hc
   by_cases hlt:t<nt
   ·simp only[hlt,decide_true,cond_true,Option.some.injEq]at hc
    subst hc
    have h1:=h t (zg9 ps t) hlt
    simp only[ZS]at hw
    have hsz:t<a.tmps.size:=Nat.lt_of_lt_of_le hlt hsz
    have ig:a.tmps[t]?=some (a.tmps.getD t undef):=by
     rw[Array.getD_eq_getD_getElem?,Array.getElem?_eq_getElem hsz];rfl
    have hy:yielded ops a.tmps j=match a.tmps.getD t undef with | .bool b=>some b | _=>none:=by
     simp only[yielded,ht,Option.bind_some,ig]
     cases a.tmps.getD t undef<;>rfl
    have dy:VR β ((Et ps t).ev T) (a.tmps.getD t undef):=h1
    clear h1
    generalize a.tmps.getD t undef=y at dy hy
    simp only[Region.wanted,hg,hy]
    generalize (Et ps t).ev T=x at dy hw
    cases dy<;>first | (cases hw;done) | (simp only[Option.some.injEq]at hw;subst hw;simp;done) | (simp only[Option.some.injEq]at hw;subst hw;rfl)
   ·simp[hlt]at hc
  ·cases hc
theorem zcd {β:Bt}{x y:AV}(h:Yg x y=true){v:Value}(hv:VR β y v):VR β x v:=by
 unfold Yg at h
 split at h
 ·rw[ZI,beq_iff_eq]at h
  rw[h];exact hv
 ·exact hv
 ·exact hv
 ·cases hv
 ·rw[beq_iff_eq]at h
  rw[h];exact hv
 ·simp only[Bool.and_eq_true,YP,wE,beq_iff_eq]at h
  rw[h.1,h.2];exact hv
 ·exact hv
 ·simp only[Bool.and_eq_true,zq,decide_eq_true_eq]at h
  rw[h.1,h.2];exact hv
 ·simp only[Bool.and_eq_true,zq,decide_eq_true_eq]at h
  rw[h.1.1,h.1.2,h.2];exact hv
 ·simp only[Bool.and_eq_true,zq,decide_eq_true_eq]at h
  rw[h.1.1.1.1,h.1.1.1.2,h.1.1.2,h.1.2,h.2];exact hv
 ·exact hv
 ·simp only[zq,decide_eq_true_eq]at h
  rw[h];exact hv
 ·cases h
theorem zcc {β:Bt}:∀{x y:List AV} {v:List Value},Qe x y=true→aS β y v→aS β x v
 | [],[],v,_,hv=>hv
 | a::r,b::q,v,h,hv=>by
  simp only[Qe,Bool.and_eq_true]at h
  cases hv with
  | cons h1 h2=>exact .cons (zcd h.1 h1) (zcc h.2 h2)
 | [],_::_,v,h,_=>by cases h
 | _::_,[],v,h,_=>by cases h
theorem zgi {β:Bt}{x y:AV}(h:ve x y=true){v:Value}(hv:VR β y v):VR β x v:=by
 unfold ve at h
 split at h
 ·cases hv with
  | agg h1=>exact .agg (zcc h h1)
 ·exact zcd h hv
theorem zgf {o:cV}(h:o.mem=false)(h1 h2:PM AB)(vs:List AV):Zd o h1 vs=Zd o h2 vs:=by
 cases o<;>simp only[cV.mem,Bool.true_eq_false]at h<;>try rfl
 rename_i ng k
 cases k<;>first | rfl | (simp only[cV.mem,Bool.true_eq_false]at h;done) | skip
 all_goals
  simp only[Zd]
  unfold IN
  split
  ·unfold FY
   split<;>first | rfl | contradiction
  ·rfl
end
section
open Go.RowKit (Below)
section
variable {l:List cM} {ss:Nat→St}
structure Path (l:List cM)(ss:Nat→St):Prop where
 gr:∀i,i<l.length→Gr (ss i) (ss (i+1))
 non:∀i o,l[i]?=some o→eR o=false→ss (i+1)=ss i∨∃cr,cr.own=true∧ss (i+1)={ h:=(ss i).h.set (ss i).nx (some cr),nx:=(ss i).nx+1 }
 wf:(ss 0).wf
theorem zba {call:cZ}(GY:W6 call){ts:Nat→Tm}(h:Way call l ts ss)(hwf:(ss 0).wf):Path l ss:=by
 refine⟨fun i hi=>Xt GY (h i l[i] (List.getElem?_eq_getElem hi)),fun i o ho hE=>?_,hwf⟩
 have hs:=h i o ho
 unfold wT at hs
 split at hs
 ·split at hs
  ·rename_i v S1 he
   injection hs with hs
   injection hs with h1 h2
   rw[←h2]
   unfold eR at hE
   cases cQ:o.op.cl<;>simp only[cQ]at hE<;>simp only[wm,cQ]at he
   ·unfold RL at he
    split at he<;>cases he
    exact .inl rfl
   ·unfold opA at he
    split at he
    ·rename_i cr u hb
     cases he
     exact .inr ⟨cr,zca hb,rfl⟩
    ·cases he
   ·cases hE
  ·cases hs
 ·injection hs with hs
  injection hs with h1 h2
  exact .inl h2.symm
 ·cases hs
variable (hp:Path l ss)
include hp
theorem Path.le {i j:Nat}(hij:i≤j)(hj:j≤l.length):Gr (ss i) (ss j):=by
 induction j with
 | zero=>have:i=0:=by omega
         subst this;exact Gr.refl _
 | succ j ih =>
  by_cases h:i=j+1
  ·subst h;exact Gr.refl _
  ·exact (ih (by omega) (by omega)).trans (hp.gr j (by omega))
theorem Path.nx {i j:Nat}(hij:i≤j)(hj:j≤l.length):(ss i).nx≤(ss j).nx:=(hp.le hij hj).nx
theorem Path.wfi {i:Nat}(hi:i≤l.length):(ss i).wf:=(hp.le (Nat.zero_le _) hi).wf hp.wf
theorem Path.keep {p q:Nat}(hpq:p≤q)(hq:q≤l.length)(hno:∀i o,p≤i→i<q→l[i]?=some o→eR o=false){n:Nat}(hn:n<(ss p).nx):(ss q).h.get n=(ss p).h.get n:=by
 induction q with
 | zero=>have:p=0:=by omega
         subst this;rfl
 | succ q ih =>
  by_cases h:p=q+1
  ·subst h;rfl
  ·have h1:=ih (by omega) (by omega) (fun i o h1 h2=>hno i o h1 (by omega))
   rw[←h1]
   have hnx:=hp.nx (i:=p) (j:=q) (by omega) (by omega)
   rcases hp.non q l[q] (List.getElem?_eq_getElem (by omega)) (hno q _ (by omega) (by omega) (List.getElem?_eq_getElem (by omega)))with e | ⟨cr,_,e⟩
   ·rw[e]
   ·rw[e]
    show ((ss q).h.set (ss q).nx (some cr)).get n=_
    rw[zS,if_neg (by omega)]
omit hp
def Vw (l:List cM)(ss:Nat→St)(q n:Nat)(bl:AB):Prop :=
 (n<(ss q).nx∧(ss q).h.get n=some bl)∨∃i o,q≤i∧l[i]?=some o∧eR o=false∧(ss i).nx≤n∧n<(ss (i+1)).nx∧(ss (i+1)).h.get n=some bl
structure dz (l:List cM)(ss:Nat→St)(B0:Nat)(eV:Bt)(w0:World)(X:Nat→Prop)(q:Nat)(β:Bt)(w:World):Prop where
 qN:q≤l.length
 qE:∀e o,l[e]?=some o→eR o=true→(X e↔e<q)
 cr:∀n bl b o z,Vw l ss q n bl→β n=some (b,o,z)→BR β B0 w.heap b o z bl
 inj:∀n m bl bm b x y,Vw l ss q n bl→Vw l ss q m bm→bl.own=true→β n=some (b,x)→β m=some (b,y)→n=m
 lt:∀n b x,β n=some (b,x)→b<w.heap.size
 le:B0≤w.heap.size
 dom:∀n,β n≠none→eV n≠none∨∃i,X i∧i<l.length∧(ss i).nx≤n∧n<(ss (i+1)).nx
 ext:Ext eV β
 phn:∀i o n,l[i]?=some o→eR o=false→¬X i→i<q→(ss i).nx≤n→n<(ss (i+1)).nx→(ss q).h.get n=(ss (i+1)).h.get n
 ko:Below B0 w0 w
 fr:∀c,c<w0.heap.size→¬Own eV (ss 0).h c→w.heap[c]?=w0.heap[c]?
 src:∀c n bl x,Vw l ss q n bl→bl.own=true→β n=some (c,x)→w0.heap.size≤c∨Own eV (ss 0).h c
 ph:∀n,n<(ss 0).nx→eV n=none→(ss q).h.get n=(ss 0).h.get n
variable {B0:Nat} {eV:Bt} {w0:World} {X:Nat→Prop} {q:Nat} {β:Bt} {w:World}
theorem dz.low (hp:Path l ss)(h:dz l ss B0 eV w0 X q β w){n:Nat}(hn:n<(ss 0).nx)(h0:eV n=none):β n=none:=by
 cases hb:β n with
 | none=>rfl
 | some x =>
  rcases h.dom n (by rw[hb];simp)with h1 | ⟨i,_,hi,h2,_⟩
  ·exact absurd h0 h1
  ·have:=hp.nx (Nat.zero_le i) (by omega)
   omega
theorem dz.open (hp:Path l ss)(h:dz l ss B0 eV w0 X q β w)(hfree:WG eV (ss 0).nx (ss l.length).nx){j n:Nat}(hj:j<l.length)(hX:¬X j)(h1:(ss j).nx≤n)(h2:n<(ss (j+1)).nx):β n=none:=by
 have a1:=hp.nx (Nat.zero_le j) (by omega)
 have a2:=hp.nx (i:=j+1) (j:=l.length) (by omega) (Nat.le_refl _)
 have h0:eV n=none:=hfree n (by omega) (by omega)
 cases hb:β n with
 | none=>rfl
 | some x =>
  rcases h.dom n (by rw[hb];simp)with h3 | ⟨i,hi,bK,h3,h4⟩
  ·exact absurd h0 h3
  ·exfalso
   rcases Nat.lt_trichotomy i j with hlt | heq | hgt
   ·have:=hp.nx (i:=i+1) (j:=j) (by omega) (by omega);omega
   ·subst heq;exact hX hi
   ·have:=hp.nx (i:=j+1) (j:=i) (by omega) (by omega);omega
theorem dz.rel (hp:Path l ss)(h:dz l ss B0 eV w0 X q β w){p:Nat}(hpq:p≤q)(hno:∀i o,p≤i→i<q→l[i]?=some o→eR o=false):Rel β B0 (ss p).h w:=by
 have hv:∀n bl,(ss p).h.get n=some bl→Vw l ss q n bl:=fun n bl hg=>by
  have hn:=hp.wfi (Nat.le_trans hpq h.qN) n bl hg
  refine .inl ⟨Nat.lt_of_lt_of_le hn (hp.nx hpq h.qN),?_⟩
  rw[hp.keep hpq h.qN hno hn]
  exact hg
 exact⟨fun n bl b o z hg=>h.cr n bl b o z (hv n bl hg),fun n m bl bm b x y hn hm=>h.inj n m bl bm b x y (hv n bl hn) (hv m bm hm),h.lt,h.le⟩
theorem dz.start (hp:Path l ss)(hR:Rel eV B0 (ss 0).h w)(hfree:WG eV (ss 0).nx (ss l.length).nx){q:Nat}(hq:q≤l.length)(hno:∀i o,i<q→l[i]?=some o→eR o=false):dz l ss B0 eV w (fun _=>False) q eV w:=by
 have hv:∀n bl x,Vw l ss q n bl→eV n=some x→(ss 0).h.get n=some bl:=by
  intro n bl x hV hb
  have zlF:n<(ss l.length).nx→n<(ss 0).nx:=fun h=>by
   rcases Nat.lt_or_ge n (ss 0).nx with h' | h'
   ·exact h'
   ·rw[hfree n h' h]at hb;cases hb
  rcases hV with⟨h1,h2⟩ | ⟨i,o,h1,h2,h3,h4,h5,h6⟩
  ·have:=zlF (Nat.lt_of_lt_of_le h1 (hp.nx hq (Nat.le_refl _)))
   rw[hp.keep (Nat.zero_le q) hq (fun i o _ h=>hno i o h) this]at h2
   exact h2
  ·have hi:i<l.length:=(List.getElem?_eq_some_iff.1 h2).1
   have:=zlF (Nat.lt_of_lt_of_le h5 (hp.nx (by omega) (Nat.le_refl _)))
   have:=hp.nx (Nat.zero_le i) (by omega)
   omega
 refine⟨hq,?_,fun n bl b o z h1 h2=>hR.cr n bl b o z (hv n bl _ h1 h2) h2,fun n m bl bm b x y h1 h2 h3 h4 h5=>hR.inj n m bl bm b x y (hv n bl _ h1 h4) (hv m bm _ h2 h5) h3 h4 h5,hR.lt,hR.le,
  fun n h=>.inl h,Ext.refl _,?_,Below.refl _ _,fun _ _ _=>rfl,fun c n bl x h1 h2 h3=>.inr ⟨n,bl,x,hv n bl _ h1 h3,h2,h3⟩,?_⟩
 ·intro e o he hE
  refine⟨False.elim,fun h=>?_⟩
  rw[hno e o h he]at hE;cases hE
 ·intro i o n hi hE _ HQ h1 h2
  exact hp.keep (by omega) hq (fun k o' Ii hk2=>hno k o' hk2) h2
 ·intro n hn _
  exact hp.keep (Nat.zero_le q) hq (fun i o _ h=>hno i o h) hn
theorem dz.Ns (h:dz l ss B0 eV w0 X q β w){j:Nat}{o:cM}(hj:l[j]?=some o)(hE:eR o=false):dz l ss B0 eV w0 (fun i=>X i∨i=j) q β w where
 qN:=h.qN
 qE:=fun e o' he OB=>by
  have:e≠j:=fun e'=>by subst e';rw[hj]at he;cases he;rw[hE]at OB;cases OB
  rw[←h.qE e o' he OB]
  exact⟨fun hx=>hx.resolve_right this,.inl⟩
 cr:=h.cr
 inj:=h.inj
 lt:=h.lt
 le:=h.le
 dom:=fun n hn=>(h.dom n hn).imp id fun⟨i,h1,h2⟩=>⟨i,.inl h1,h2⟩
 ext:=h.ext
 phn:=fun i o' n h1 h2 h3=>h.phn i o' n h1 h2 fun hx=>h3 (.inl hx)
 ko:=h.ko
 fr:=h.fr
 src:=h.src
 ph:=h.ph
theorem dz.zqt (hp:Path l ss)(h:dz l ss B0 eV w0 X q β w)(hfree:WG eV (ss 0).nx (ss l.length).nx){j:Nat}{o:cM}(hj:l[j]?=some o)(hE:eR o=false)(hX:¬X j){bl:AB}(hs:ss (j+1)={ h:=(ss j).h.set (ss j).nx (some bl),nx:=(ss j).nx+1 })
  (ho:bl.own=true) {x:Obj} {z:Nat} (Ae:BR (jt β (ss j).nx (w.heap.size,0,z)) B0 (w.alloc x).heap w.heap.size 0 z bl) :
  β (ss j).nx=none∧dz l ss B0 eV w0 (fun i=>X i∨i=j) q (jt β (ss j).nx (w.heap.size,0,z)) (w.alloc x):=by
 have hjl:j<l.length:=(List.getElem?_eq_some_iff.1 hj).1
 have hnx:(ss (j+1)).nx=(ss j).nx+1:=by rw[hs]
 have Ij:β (ss j).nx=none:=h.open hp hfree hjl hX (Nat.le_refl _) (by omega)
 have fC:=ZT (x:=(w.heap.size,0,z)) Ij
 have Sq:(ss (j+1)).h.get (ss j).nx=some bl:=by rw[hs];show ((ss j).h.set _ _).get _=_;rw[zS,if_pos rfl]
 have GV:(w.alloc x).heap=w.heap.push x:=rfl
 have gw:∀k,k<w.heap.size→(w.alloc x).heap[k]?=w.heap[k]?:=fun k hk=>by rw[GV,Array.getElem?_push,if_neg (by omega)]
 have hsz:(w.alloc x).heap.size=w.heap.size+1:=by rw[GV];simp
 have zo2:∀bm,Vw l ss q (ss j).nx bm→bm=bl:=by
  intro bm hV
  rcases hV with⟨h1,h2⟩ | ⟨i,o',h1,h2,h3,h4,h5,h6⟩
  ·have Fh:j<q:=by
    rcases Nat.lt_or_ge j q with h' | h'
    ·exact h'
    ·have:=hp.nx h' (by omega);omega
   rw[h.phn j o _ hj hE hX Fh (Nat.le_refl _) (by omega),Sq]at h2
   exact (Option.some.inj h2).symm
  ·have hi:i<l.length:=(List.getElem?_eq_some_iff.1 h2).1
   rcases Nat.lt_trichotomy i j with hlt | heq | hgt
   ·have:=hp.nx (i:=i+1) (j:=j) (by omega) (by omega);omega
   ·subst heq;rw[Sq]at h6;exact (Option.some.inj h6).symm
   ·have:=hp.nx (i:=j+1) (j:=i) (by omega) (by omega);omega
 have aI:∀m,m≠(ss j).nx→jt β (ss j).nx (w.heap.size,0,z) m=β m:=fun m hm=>by simp only[jt,if_neg hm]
 refine⟨Ij,⟨h.qN,(h.Ns hj hE).qE,?_,?_,?_,?_,?_,h.ext.trans fC,(h.Ns hj hE).phn,?_,?_,?_,h.ph⟩⟩
 ·intro n bm b o' z' hV hb
  by_cases hn:n=(ss j).nx
  ·subst hn
   rw[xq]at hb
   cases hb
   rw[zo2 bm hV]
   exact Ae
  ·rw[aI n hn]at hb
   exact ((h.cr n bm b o' z' hV hb).mono fC).congr (gw b (h.lt n b _ hb))
 ·intro n m bn bm b y y' hVn hVm I4 gD bX
  by_cases hn:n=(ss j).nx<;>by_cases hm:m=(ss j).nx
  ·rw[hn,hm]
  ·subst hn
   rw[xq]at gD
   rw[aI m hm]at bX
   cases gD
   have:=h.lt m _ _ bX
   omega
  ·subst hm
   rw[xq]at bX
   rw[aI n hn]at gD
   cases bX
   have:=h.lt n _ _ gD
   omega
  ·rw[aI n hn]at gD
   rw[aI m hm]at bX
   exact h.inj n m bn bm b y y' hVn hVm I4 gD bX
 ·intro n b y hb
  by_cases hn:n=(ss j).nx
  ·subst hn;rw[xq]at hb;cases hb;omega
  ·rw[aI n hn]at hb;have:=h.lt n b y hb;omega
 ·have:=h.le;omega
 ·intro n hn
  by_cases e:n=(ss j).nx
  ·subst e;exact .inr ⟨j,.inr rfl,hjl,Nat.le_refl _,by omega⟩
  ·rw[aI n e]at hn
   exact (h.dom n hn).imp id fun⟨i,h1,h2⟩=>⟨i,.inl h1,h2⟩
 ·exact h.ko.trans ⟨rfl,rfl,rfl,by omega,fun k hk=>gw k (Nat.lt_of_lt_of_le hk h.le)⟩
 ·intro c hc hn
  have:=h.ko.size
  rw[gw c (by omega),h.fr c hc hn]
 ·intro c n bm y hV I4 hb
  by_cases hn:n=(ss j).nx
  ·subst hn;rw[xq]at hb;cases hb;exact .inl h.ko.size
  ·rw[aI n hn]at hb;exact h.src c n bm y hV I4 hb
theorem Uf (l:List cM):∀(k p:Nat),p+k=l.length→∃q,p≤q∧q≤l.length∧(∀i o,p≤i→i<q→l[i]?=some o→eR o=false)∧(q<l.length→∃o,l[q]?=some o∧eR o=true)
 | 0,p,h=>⟨p,Nat.le_refl _,by omega,fun i o h1 h2 _=>by omega,fun h'=>by omega⟩
 | k+1,p,h=>by
  cases hE:eR (l[p]'(by omega))with
  | true=>exact⟨p,Nat.le_refl _,by omega,fun i o h1 h2 _=>by omega,fun _=>⟨_,List.getElem?_eq_getElem (by omega),hE⟩⟩
  | false =>
   obtain⟨q,h1,h2,h3,h4⟩:=Uf l k (p+1) (by omega)
   refine⟨q,by omega,h2,fun i o hi1 hi2 ho=>?_,h4⟩
   by_cases e:i=p
   ·subst e
    rw[List.getElem?_eq_getElem (by omega)]at ho
    cases ho
    exact hE
   ·exact h3 i o (by omega) hi2 ho
theorem dz.zqs (hp:Path l ss)(h:dz l ss B0 eV w0 X q β w)(hfree:WG eV (ss 0).nx (ss l.length).nx){o:cM}(hq:l[q]?=some o)(hE:eR o=true){γ:Bt}{w':World}(hst:dB B0 β (ss q) w γ (ss (q+1)) w')
  {r:Nat} (iC:q+1≤r) (A1:r≤l.length) (hno:∀i o,q+1≤i→i<r→l[i]?=some o→eR o=false):dz l ss B0 eV w0 (fun i=>X i∨i=q) r γ w':=by
 have hql:q<l.length:=(List.getElem?_eq_some_iff.1 hq).1
 have hXq:¬X q:=fun hx=>by have:=(h.qE q o hq hE).1 hx;omega
 have MN:=hp.wfi (i:=q) (by omega)
 have I0:=hp.wfi (i:=q+1) (by omega)
 -- a view later is Bh memory after Bh effect,or a block made ahead of bh time
 have early:∀n bl,(∃i o,q+1≤i∧l[i]?=some o∧eR o=false∧(ss i).nx≤n∧n<(ss (i+1)).nx∧(ss (i+1)).h.get n=some bl)→(ss (q+1)).nx≤n∧Vw l ss q n bl:=by
  rintro n bl ⟨i,o',h1,h2,h3,h4,h5,h6⟩
  have hi:i<l.length:=(List.getElem?_eq_some_iff.1 h2).1
  have:=hp.nx h1 (by omega)
  exact⟨by omega,.inr ⟨i,o',by omega,h2,h3,h4,h5,h6⟩⟩
 have hv:∀n bl,Vw l ss r n bl→(n<(ss (q+1)).nx∧(ss (q+1)).h.get n=some bl)∨((ss (q+1)).nx≤n∧Vw l ss q n bl):=by
  rintro n bl (⟨h1,h2⟩ | ⟨i,o',h1,h2,h3,h4,h5,h6⟩)
  ·rcases Nat.lt_or_ge n (ss (q+1)).nx with h' | h'
   ·rw[hp.keep iC A1 hno h']at h2
    exact .inl ⟨h',h2⟩
   ·-- made zn3 Bh two G4
    have:∀k,q+1≤k→k≤r→n<(ss k).nx→∃i,q+1≤i∧i<r∧(ss i).nx≤n∧n<(ss (i+1)).nx:=by
     intro k
     induction k with
     | zero=>intro h1;omega
     | succ k ih =>
      intro h1 h2 h3
      by_cases e:k=q
      ·subst e;omega
      ·rcases Nat.lt_or_ge n (ss k).nx with h4 | h4
       ·exact ih (by omega) (by omega) h4
       ·exact⟨k,by omega,by omega,h4,h3⟩
    obtain⟨i,hi1,hi2,hi3,hi4⟩:=this r iC (Nat.le_refl _) h1
    refine .inr (early n bl ⟨i,l[i],hi1,List.getElem?_eq_getElem (by omega),hno i _ hi1 hi2 (List.getElem?_eq_getElem (by omega)),hi3,hi4,?_⟩)
    rw[←hp.keep (p:=i+1) (by omega) A1 (fun k o' Ii hk2=>hno k o' (by omega) hk2) hi4]
    exact h2
  ·exact .inr (early n bl ⟨i,o',by omega,h2,h3,h4,h5,h6⟩)
 -- names beyond Bh zng own are as zqN zqM
 have hold:∀n x,(ss (q+1)).nx≤n→γ n=some x→β n=some x:=by
  intro n x hn hg
  cases hb:β n with
  | none=>have:=hst.dom n hb (by rw[hg];simp);omega
  | some y=>rw[hst.ext n y hb]at hg;exact hg
 have zqU:=hp.nx (i:=q) (j:=q+1) (by omega) (by omega)
 have Fy:∀n bl b x,(ss (q+1)).nx≤n→Vw l ss q n bl→β n=some (b,x)→¬Own β (ss q).h b:=by
  rintro n bl b x hn hV hb ⟨m,bm,y,hm,u7,bX⟩
  have hmn:=MN m bm hm
  have:=h.inj m n bm bl b y x (.inl ⟨hmn,hm⟩) hV u7 bX hb
  omega
 have GV:∀n bl b x,(ss (q+1)).nx≤n→Vw l ss q n bl→β n=some (b,x)→w'.heap[b]?=w.heap[b]?:=fun n bl b x hn hV hb=>hst.fr b (h.lt n b x hb) (Fy n bl b x hn hV hb)
 have mix:∀n m bl bm b x y,(ss (q+1)).nx≤n→Vw l ss q n bl→β n=some (b,x)→bl.own=true→(ss (q+1)).h.get m=some bm→γ m=some (b,y)→False:=by
  intro n m bl bm b x y hn hV hb ho hm bX
  have hmn:=I0 m bm hm
  cases u7:bm.own with
  | true =>
   rcases hst.src b ⟨m,bm,y,hm,u7,bX⟩with h1 | h1
   ·have:=h.lt n b x hb;omega
   ·exact Fy n bl b x hn hV hb h1
  | false =>
   have hm':=(hp.gr q hql).ro m bm hm u7
   have hmq:=MN m bm hm'
   have Na:β m=some (b,y):=by
    cases hb':β m with
    | none=>have:=hst.dom m hb' (by rw[bX];simp);omega
    | some u=>rw[hst.ext m u hb']at bX;exact bX
   have:=h.inj n m bl bm b x y hV (.inl ⟨hmq,hm'⟩) ho hb Na
   omega
 refine⟨A1,?_,?_,?_,hst.rel.lt,hst.rel.le,?_,h.ext.trans hst.ext,?_,h.ko.trans hst.ko,?_,?_,?_⟩
 ·intro e o' he OB
  constructor
  ·rintro (hx | rfl)
   ·have:=(h.qE e o' he OB).1 hx;omega
   ·omega
  ·intro her
   rcases Nat.lt_trichotomy e q with h1 | h1 | h1
   ·exact .inl ((h.qE e o' he OB).2 h1)
   ·exact .inr h1
   ·rw[hno e o' h1 her he]at OB;cases OB
 ·intro n bl b o' z hV hb
  rcases hv n bl hV with⟨h1,h2⟩ | ⟨h1,h2⟩
  ·exact hst.rel.cr n bl b o' z h2 hb
  ·have hb':=hold n _ h1 hb
   exact ((h.cr n bl b o' z h2 hb').mono hst.ext).congr (GV n bl b _ h1 h2 hb')
 ·intro n m bn bm b x y hVn hVm I4 gD bX
  rcases hv n bn hVn with⟨h1,h2⟩ | ⟨h1,h2⟩<;>rcases hv m bm hVm with⟨h3,h4⟩ | ⟨h3,h4⟩
  ·exact hst.rel.inj n m bn bm b x y h2 h4 I4 gD bX
  ·exfalso
   have Na:=hold m _ h3 bX
   rcases hst.src b ⟨n,bn,x,h2,I4,gD⟩with h5 | h5
   ·have:=h.lt m b y Na;omega
   ·exact Fy m bm b y h3 h4 Na h5
  ·exact (mix n m bn bm b x y h1 h2 (hold n _ h1 gD) I4 h4 bX).elim
  ·exact h.inj n m bn bm b x y h2 h4 I4 (hold n _ h1 gD) (hold m _ h3 bX)
 ·intro n hn
  cases hb:β n with
  | none =>
   have:=hst.dom n hb hn
   exact .inr ⟨q,.inr rfl,hql,this.1,this.2⟩
  | some x=>exact (h.dom n (by rw[hb];simp)).imp id fun⟨i,h1,h2⟩=>⟨i,.inl h1,h2⟩
 ·intro i o' n hi hiE hiX hir h1 h2
  have bK:i<l.length:=(List.getElem?_eq_some_iff.1 hi).1
  have hne:i≠q:=fun e=>hiX (.inr e)
  rcases Nat.lt_or_ge i q with hlt | hge
  ·have hnq:n<(ss q).nx:=Nat.lt_of_lt_of_le h2 (hp.nx (by omega) (by omega))
   have hb:β n=none:=h.open hp hfree bK (fun hx=>hiX (.inl hx)) h1 h2
   rw[hp.keep iC A1 hno (by omega),hst.ph n hnq hb]
   exact h.phn i o' n hi hiE (fun hx=>hiX (.inl hx)) hlt h1 h2
  ·exact hp.keep (by omega) A1 (fun k o' Ii hk2=>hno k o' (by omega) hk2) h2
 ·intro c hc hn
  have:=h.ko.size
  rw[hst.fr c (by omega) ?_,h.fr c hc hn]
  rintro⟨m,bm,y,hm,u7,bX⟩
  rcases h.src c m bm y (.inl ⟨MN m bm hm,hm⟩) u7 bX with h1 | h1
  ·omega
  ·exact hn h1
 ·intro c n bl x hV I4 hb
  rcases hv n bl hV with⟨h1,h2⟩ | ⟨h1,h2⟩
  ·rcases hst.src c ⟨n,bl,x,h2,I4,hb⟩with h3 | ⟨m,bm,y,hm,u7,bX⟩
   ·exact .inl (Nat.le_trans h.ko.size h3)
   ·exact h.src c m bm y (.inl ⟨MN m bm hm,hm⟩) u7 bX
  ·exact h.src c n bl x h2 I4 (hold n _ h1 hb)
 ·intro n hn h0
  have hb:=h.low hp hn h0
  have:=hp.nx (Nat.zero_le q) (by omega)
  rw[hp.keep iC A1 hno (by omega),hst.ph n (by omega) hb,h.ph n hn h0]
theorem dz.done (hp:Path l ss)(h:dz l ss B0 eV w0 X q β w)(hfree:WG eV (ss 0).nx (ss l.length).nx)(hq:q=l.length):dB B0 eV (ss 0) w0 β (ss l.length) w:=by
 subst hq
 have hv:∀n bl,(ss l.length).h.get n=some bl→Vw l ss l.length n bl:=fun n bl hg=>.inl ⟨hp.wfi (Nat.le_refl _) n bl hg,hg⟩
 refine⟨h.ext,?_,h.rel hp (Nat.le_refl _) (fun i o h1 h2=>by omega),h.ko,h.fr,?_,h.ph,hp.nx (Nat.zero_le _) (Nat.le_refl _)⟩
 ·intro n h0 hn
  rcases h.dom n hn with h1 | ⟨i,_,hi,h2,h3⟩
  ·exact absurd h0 h1
  ·have a1:=hp.nx (Nat.zero_le i) (by omega)
   have a2:=hp.nx (i:=i+1) (j:=l.length) (by omega) (Nat.le_refl _)
   exact⟨by omega,by omega⟩
 ·rintro c ⟨n,bl,x,hg,ho,hb⟩
  exact h.src c n bl x (hv n bl hg) ho hb
end
end
section
open Go.RowKit (Below)
theorem zeq {call:cZ}{o:cM}{T T':Tm}{S S':St}(h:wT call o T S=some (T',S')):∃v,T'=T.put v o.dst:=by
 unfold wT at h
 split at h
 ·split at h
  ·cases h;exact⟨_,rfl⟩
  ·cases h
 ·cases h;exact⟨_,rfl⟩
 ·cases h
section
variable {P:Program} {ps nt:Nat} {ops:Array Oper} {l:List cM} {call:cZ} {ts:Nat→Tm} {ss:Nat→St}
structure oZ (l:List cM)(ts:Nat→Tm)(ps nt:Nat)(X:Nat→Prop)(β:Bt)(a:Act):Prop where
 sz:nt≤a.tmps.size
 df:a.defers=[]
 tm:∀t,t<nt→∀j,j≤l.length→(∀i o,l[i]?=some o→o.dst.tm=some t→(X i↔i<j))→VR β ((ts j).at ps t) (a.tmps.getD t undef)
theorem zjk (hl:vZ (Uy P ps ops nt) ops.toList=some l)(hw:Way call l ts ss){t p q:Nat}(hpq:p≤q)(hq:q≤l.length)(hno:∀i o,p≤i→i<q→l[i]?=some o→o.dst.tm≠some t):(ts q).at ps t=(ts p).at ps t:=by
 induction q with
 | zero=>have:p=0:=by omega
         subst this;rfl
 | succ q ih =>
  by_cases h:p=q+1
  ·subst h;rfl
  ·have h1:=ih (by omega) (by omega) (fun i o h1 h2=>hno i o h1 (by omega))
   rw[←h1]
   have hg:l[q]?=some l[q]:=List.getElem?_eq_getElem (by omega)
   obtain⟨v,hv⟩:=zeq (hw q _ hg)
   have hlen:=vl hl
   have hoq:ops.toList[q]?=some ops.toList[q]:=List.getElem?_eq_getElem (by omega)
   obtain⟨o1,hc,dN⟩:=vF hl q _ hoq
   rw[hg]at dN
   cases dN
   obtain⟨xs,_,_,_,h4,_⟩:=ZH hc
   have hn:=hno q _ (by omega) (by omega) hg
   rw[hv,h4]
   rw[h4,zfz]at hn
   cases hd:(ops.toList[q]).dst with
   | none=>rfl
   | some d =>
    rw[hd]at hn
    rw[WB,if_neg (fun e=>hn (by rw[e]))]
variable {b:List Nat}
theorem oZ.put (hl:vZ (Uy P ps ops nt) ops.toList=some l)(hw:Way call l ts ss)(eW:Wy (ops.toList.map wG)=true)(FJ:YJ l (xB (ops.toList.map wG) [])=true)
  {X:Nat→Prop} (cQ:∀i,X i→∀d∈we ops i,X d) {β γ:Bt} {a:Act} (h:oZ l ts ps nt X β a) (fC:Ext β γ) {j:Nat} {o1:cM} (hj:l[j]?=some o1) (hX:¬X j) {d:Option Tmp} (hd:o1.dst=P0 ps d) (hdn:∀x,d=some x→x<nt)
  {v:AV} {v':Value} (hv:VR γ v v') (hts:ts (j+1)=(ts j).put v o1.dst):oZ l ts ps nt (fun i=>X i∨i=j) γ (a.put d v'):=by
 have hdt:o1.dst.tm=d:=by rw[hd,zfz]
 refine⟨?_,?_,?_⟩
 ·cases d<;>simp[Act.put,h.sz]
 ·cases d<;>exact h.df
 ·intro t ht k hk hc
  by_cases e:d=some t
  ·subst e
   have j8:j<k:=(hc j o1 hj hdt).1 (.inr rfl)
   have hno:∀i o,j+1≤i→i<k→l[i]?=some o→o.dst.tm≠some t:=by
    intro i o hi1 hi2 hi hit
    have hXi:X i:=((hc i o hi hit).2 hi2).resolve_right (by omega)
    rcases Vg FJ hi hit hj (by unfold Vh;rw[hdt];simp) (by omega)with⟨h1,_⟩ | ⟨_,h2⟩
    ·omega
    ·exact hX (wP eW cQ i (cQ i hXi) j h2)
   have hjl:j<l.length:=(List.getElem?_eq_some_iff.1 hj).1
   rw[zjk hl hw j8 hk hno,hts,hd,WB,if_pos rfl]
   have hs:=h.sz
   have:(a.put (some t) v').tmps.getD t undef=v':=by
    simp only[Act.put]
    rw[Array.getD_eq_getD_getElem?,Array.getElem?_setIfInBounds_self_of_lt (by omega)];rfl
   rw[this]
   exact hv
  ·have h1:=h.tm t ht k hk (fun i o hi hit=>by
    have hij:i≠j:=fun e'=>by subst e';rw[hj]at hi;cases hi;rw[hdt]at hit;exact e hit
    rw[←hc i o hi hit]
    exact⟨.inl,fun hx=>hx.resolve_right hij⟩)
   have:(a.put d v').tmps.getD t undef=a.tmps.getD t undef:=by
    cases d with
    | none=>rfl
    | some d =>
     simp only[Act.put]
     rw[Array.getD_eq_getD_getElem?,Array.getD_eq_getD_getElem?,Array.getElem?_setIfInBounds_ne (fun h=>e (by rw[h]))]
   rw[this]
   exact h1.mono fC
theorem zcm (l:List cM):∀q,q≤l.length→∃p,p≤q∧(p=0∨∃e,e∈Ip l∧p=e+1)∧∀i o,p≤i→i<q→l[i]?=some o→eR o=false
 | 0,_=>⟨0,Nat.le_refl _,.inl rfl,fun i o h1 h2 _=>by omega⟩
 | q+1,h=>by
  cases hE:eR (l[q]'(by omega))with
  | true=>exact⟨q+1,Nat.le_refl _,.inr ⟨q,Yt.2 ⟨_,List.getElem?_eq_getElem (by omega),hE⟩,rfl⟩,fun i o h1 h2 _=>by omega⟩
  | false =>
   obtain⟨p,h1,h2,h3⟩:=zcm l q (by omega)
   refine⟨p,by omega,h2,fun i o hi1 hi2 ho=>?_⟩
   by_cases e:i=q
   ·subst e
    rw[List.getElem?_eq_getElem (by omega)]at ho
    cases ho
    exact hE
   ·exact h3 i o hi1 (by omega) ho
structure Open (P:Program)(B0 ps nt:Nat)(ops:Array Oper)(l:List cM)(call:cZ)(ts:Nat→Tm)(ss:Nat→St)(tr:List (Tm×St)):Prop where
 hl:vZ (Uy P ps ops nt) ops.toList=some l
 way:Way call l ts ss
 states:∀i,i≤l.length→tr[i]?=some (ts i,ss i)
 path:Path l ss
 back:Wy (ops.toList.map wG)=true
 NJ:YJ l (xB (ops.toList.map wG) [])=true
 eff:zfx l (xB (ops.toList.map wG) [])=true
 Ag:∀c∈zfH l (xB (ops.toList.map wG) []),W3 l tr c=true
 call:Xf P B0 call
variable {tr:List (Tm×St)} {B0:Nat} {eV:Bt} {w0:World}
theorem zjR (H:Open P B0 ps nt ops l call ts ss tr)(hfree:WG eV (ss 0).nx (ss l.length).nx){X:Nat→Prop}{q:Nat}{β:Bt}{a:Act}{w:World}(hM:dz l ss B0 eV w0 X q β w)(Bs:q<l.length→∃o,l[q]?=some o∧eR o=true)
  (hT:oZ l ts ps nt X β a) (cQ:∀i,X i→∀d∈we ops i,X d) {j:Nat} (hj:j<ops.size) (hX:¬X j) (hpre:∀d∈we ops j,X d) {K:Act→World→Prop} {Q:Exit→Act→World→Prop}
  (h:∀q' γ a' w',dz l ss B0 eV w0 (fun i=>X i∨i=j) q' γ w'→(q'<l.length→∃o,l[q']?=some o∧eR o=true)→oZ l ts ps nt (fun i=>X i∨i=j) γ a'→K a' w'):wpOp P ops Q j K a w:=by
 have hlen:ops.size=l.length:=by simpa using vl H.hl
 have hp:=H.path
 have ho:ops[j]?=some ops[j]:=Array.getElem?_eq_getElem hj
 obtain⟨o1,hc,dN⟩:=vF H.hl j ops[j] (by simp)
 obtain⟨xs,h1,h2,h3,h4,h5⟩:=ZH hc
 have hstep:=H.way j o1 dN
 have rd:∀t,t∈Vh o1→t<nt→VR β ((ts j).at ps t) (a.tmps.getD t undef):=by
  intro t R9 ht
  refine hT.tm t ht j (by omega) fun i o' hi hit=>?_
  by_cases e:i=j
  ·subst e;exact⟨fun hx=>absurd hx hX,fun hx=>absurd hx (Nat.lt_irrefl _)⟩
  ·rcases Vg H.NJ hi hit dN R9 e with⟨h6,h7⟩ | ⟨h6,h7⟩
   ·exact⟨fun _=>h6,fun _=>wP H.back cQ j hpre i h7⟩
   ·exact⟨fun hx=>absurd (wP H.back cQ i (cQ i hx) j h7) hX,fun hx=>by omega⟩
 have hvs:aS β (G2 (ts j) o1.args) (xs.map a.eval):=zeO h3 fun t R9 ht=>rd t (by unfold Vh;simp only[List.mem_append];exact .inr R9) ht
 have N5:∀{r},ZS (ts j) o1.gd=some r→Region.wanted ops[j] (yielded ops a.tmps)=r:=fun hw =>
  zf9 hT.sz h2 (fun t R9 ht=>rd t (by unfold Vh;simp only[List.mem_append];exact .inl (.inr (by rw[R9];simp))) ht) hw
 have fin:∀(v:AV) (v':Value) (γ:Bt) (q':Nat) (w':World),ts (j+1)=(ts j).put v o1.dst→VR γ v v'→Ext β γ→dz l ss B0 eV w0 (fun i=>X i∨i=j) q' γ w'→(q'<l.length→∃o,l[q']?=some o∧eR o=true)→K (a.put ops[j].dst v') w':=by
  intro v v' γ q' w' g1 g2 g3 g4 g5
  exact h q' γ _ w' g4 g5 (hT.put H.hl H.way H.back H.NJ cQ g3 dN hX h4 h5 g2 g1)
 -- G4 zq2 in zj4 order
 have Fh:eR o1=true→j=q:=by
  intro hE
  rcases Nat.lt_trichotomy j q with hlt | heq | hgt
  ·exact absurd ((hM.qE j o1 dN hE).2 hlt) hX
  ·exact heq
  ·obtain⟨oq,hoq,hEq⟩:=Bs (by omega)
   have:=wP H.back cQ j hpre q (zgI H.eff hoq hEq dN hE hgt)
   have:=(hM.qE q oq hoq hEq).1 this
   omega
 have OF:eR o1=true→∀γ v v' w',ts (j+1)=(ts j).put v o1.dst→VR γ v v'→dB B0 β (ss q) w γ (ss (q+1)) w'→K (a.put ops[j].dst v') w':=by
  intro hE γ v v' w' g1 g2 g3
  have e:=Fh hE
  obtain⟨r,iC,A1,hr3,hr4⟩:=Uf l (l.length-(q+1)) (q+1) (by omega)
  refine fin v v' γ r w' g1 g2 g3.ext ?_ hr4
  rw[e]
  exact hM.zqs hp hfree (by rw[←e];exact dN) hE g3 iC A1 hr3
 unfold wpOp
 simp only[ho]
 unfold wT at hstep
 split at hstep
 ·rename_i hw
  rw[N5 hw,if_pos rfl]
  refine .inl ?_
  split at hstep
  ·rename_i v S1 he
   injection hstep with hstep
   injection hstep with e1 e2
   subst e2
   have hts:=e1.symm
   cases FO:o1.op.cl
   ·-- reads
    have hE:eR o1=false:=by unfold eR;rw[FO]
    simp only[wm,FO,RL]at he
    cases hr:Zd o1.op (ss j).h (G2 (ts j) o1.args)with
    | none=>rw[hr]at he;cases he
    | some u =>
     rw[hr]at he
     injection he with he
     injection he with e3 e4
     subst e3
     have zlt:∃p u',Rel β B0 (ss p).h w∧Zd o1.op (ss p).h (G2 (ts j) o1.args)=some u'∧∀x,VR β u' x→VR β u x:=by
      cases hm:o1.op.mem with
      | false=>exact⟨q,u,hM.rel hp (Nat.le_refl _) (fun i o h1 h2=>by omega),by rw[←hr];exact zgf hm _ _ _,fun x hx=>hx⟩
      | true =>
       obtain⟨p,oU,GS,MT⟩:=zcm l q hM.qN
       have hpe:∀e,e∈Ip l→e<q→e<p:=fun e hem heq=>by
        rcases Nat.lt_or_ge e p with h' | h'
        ·exact h'
        ·obtain⟨oe,hoe,hEe⟩:=Yt.1 hem
         rw[MT e oe h' heq hoe]at hEe;cases hEe
       cases how:Mw (Ip l) j p with
       | true =>
        unfold Mw at how
        rw[List.all_eq_true]at how
        have how':∀e,e∈Ip l→(e<p↔e<j):=fun e hem=>by
         have:=how e hem
         rw[yV,yV,beq_iff_eq,decide_eq_decide]at this
         exact this
        have zpE:j≤q:=by
         rcases Nat.lt_or_ge q j with h' | h'
         ·obtain⟨oq,hoq,hEq⟩:=Bs (by omega)
          have:=(how' q (Yt.2 ⟨oq,hoq,hEq⟩)).2 h'
          omega
         ·exact h'
        refine⟨j,u,hM.rel hp zpE (fun i o hi1 hi2 hi=>?_),hr,fun x hx=>hx⟩
        cases hEi:eR o with
        | false=>rfl
        | true =>
         have hem:=Yt.2 ⟨o,hi,hEi⟩
         have:=(how' i hem).1 (hpe i hem hi2)
         omega
       | false =>
        have hfe:Nj (Ip l) (xB (ops.toList.map wG) []) j p=true:=by
         unfold Nj
         rw[List.all_eq_true]
         intro e hem
         obtain⟨oe,hoe,hEe⟩:=Yt.1 hem
         simp only[Bool.and_eq_true,Bool.or_eq_true,Bool.not_eq_true',yV,zp,decide_eq_true_eq]
         constructor
         ·cases bP:HW (xB (ops.toList.map wG) []) e j with
          | false=>exact .inl rfl
          | true=>exact .inr (hpe e hem ((hM.qE e oe hoe hEe).1 (wP H.back cQ j hpre e bP)))
         ·cases bP:HW (xB (ops.toList.map wG) []) j e with
          | false=>exact .inl rfl
          | true =>
           refine .inr ?_
           rcases Nat.lt_or_ge e p with h' | h'
           ·have hXe:=(hM.qE e oe hoe hEe).2 (by omega)
            exact absurd (wP H.back cQ e (cQ e hXe) j bP) hX
           ·exact h'
        have hag:=H.Ag _ (zis dN hm GS hfe how)
        unfold W3 at hag
        rw[dN,H.states j (by omega),H.states p (by have:=hM.qN;omega)]at hag
        simp only[hw,hr]at hag
        split at hag
        ·rename_i u1 u' I1 hu2
         injection I1 with I1
         subst I1
         exact⟨p,u',hM.rel hp oU MT,hu2,fun x hx=>zgi hag hx⟩
        ·cases hag
     obtain⟨p,u',g1,g2,g3⟩:=zlt
     obtain⟨v',g4,g5⟩:=zfY a.eval g1 h1 hvs g2
     unfold Oper.wp
     rw[g4,Oper.upon_value]
     exact fin u v' β q w hts (g3 v' g5) (Ext.refl β) (hM.Ns dN hE) Bs
   ·-- makes a block
    have hE:eR o1=false:=by unfold eR;rw[FO]
    simp only[wm,FO,opA]at he
    cases hr:H9 o1.op (ss j).nx (G2 (ts j) o1.args)with
    | none=>rw[hr]at he;cases he
    | some pr =>
     obtain⟨cr,u⟩:=pr
     rw[hr]at he
     injection he with he
     injection he with e3 e4
     subst e3
     obtain⟨x,v',z,g1,g2,g3⟩:=zf0 (P:=P) (w:=w) a.eval h1 hvs hr hM.le
     unfold Oper.wp
     rw[g1,Oper.upon_value]
     have Ij:β (ss j).nx=none:=hM.open hp hfree (by omega) hX (Nat.le_refl _) (by rw[←e4];exact Nat.lt_succ_self _)
     obtain⟨g4,g5⟩:=g3 _ (ZT Ij) (xq β (ss j).nx (w.heap.size,0,z))
     obtain⟨_,g6⟩:=hM.zqt hp hfree dN hE hX e4.symm g2 g5
     exact fin u v' _ q _ hts g4 (ZT Ij) g6 Bs
   ·-- an effect
    have hE:eR o1=true:=by unfold eR;rw[FO]
    have e:=Fh hE
    subst e
    exact zct (hp.wfi (by omega)) (hM.rel hp (Nat.le_refl _) (fun i o h1 h2=>by omega)) h1 hvs H.call he
     (fun n nh hn2=>hM.open hp hfree (by omega) hX nh hn2) fun γ v' w' g1 g2=>OF hE γ v v' w' hts g1 g2
  ·cases hstep
 ·rename_i hw
  rw[N5 hw,if_neg (by simp)]
  injection hstep with hstep
  injection hstep with e1 e2
  cases hE:eR o1 with
  | true =>
   have e:=Fh hE
   subst e
   refine OF hE β (.ay []) undef w e1.symm (.ay .nil) ?_
   rw[←e2]
   exact dB.refl (hM.rel hp (Nat.le_refl _) (fun i o h1 h2=>by omega))
  | false=>exact fin (.ay []) undef β q w e1.symm (.ay .nil) (Ext.refl β) (hM.Ns dN hE) Bs
 ·cases hstep
theorem XS {listed:Array Bool}{j:Nat}:j∈Region.ready .any ops listed↔listed.getD j true=false∧j<ops.size∧∀d∈we ops j,listed.getD d false=true:=by
 rw[mem_ready]
 constructor
 ·rintro⟨h1,o,ho,h2⟩
  refine⟨h1,(Array.getElem?_eq_some_iff.1 ho).1,fun d hd=>?_⟩
  unfold we at hd
  rw[Array.getElem?_toList,ho]at hd
  simp only[Option.map_some,Option.getD_some,wG,List.mem_map,List.mem_filter,Array.mem_toList_iff]at hd
  obtain⟨e,⟨he1,Ss⟩,rfl⟩:=hd
  exact h2 e he1 Ss
 ·rintro⟨h1,h2,h3⟩
  refine⟨h1,ops[j],Array.getElem?_eq_getElem h2,fun e he hb=>h3 _ ?_⟩
  unfold we
  rw[Array.getElem?_toList,Array.getElem?_eq_getElem h2]
  simp only[Option.map_some,Option.getD_some,wG,List.mem_map,List.mem_filter,Array.mem_toList_iff]
  exact⟨e,⟨he,hb⟩,rfl⟩
theorem zjS (H:Open P B0 ps nt ops l call ts ss tr)(hfree:WG eV (ss 0).nx (ss l.length).nx){Q:Exit→Act→World→Prop}
  (h:∀γ a' w',di γ ps nt (ts l.length) a'→dB B0 eV (ss 0) w0 γ (ss l.length) w'→Q .normal a' w') :
  ∀(n:Nat) (listed:Array Bool) (L:List Nat) (X:Nat→Prop) (q:Nat) (β:Bt) (a:Act) (w:World),listed.size=ops.size→(∀i,X i↔listed.getD i false=true)→L.length≤n→(∀i,i<ops.size→¬X i→i∈L) →
   (∀i,X i→∀d∈we ops i,X d)→dz l ss B0 eV w0 X q β w→(q<l.length→∃o,l[q]?=some o∧eR o=true)→oZ l ts ps nt X β a→wpAny P .any ops Q n listed a w:=by
 have hlen:ops.size=l.length:=by simpa using vl H.hl
 have tf:∀{listed:Array Bool} {i:Nat},i<listed.size→(listed.getD i true=false↔¬listed.getD i false=true):=by
  intro listed i hi
  rw[Array.getD_eq_getD_getElem?,Array.getD_eq_getD_getElem?,Array.getElem?_eq_getElem hi]
  simp
 have KJ:∀{listed:Array Bool} {X:Nat→Prop},listed.size=ops.size→(∀i,X i↔listed.getD i false=true)→Region.ready .any ops listed=[]→∀i,i<ops.size→X i:=by
  intro listed X hsz hX hr i
  induction i using Nat.strongRecOn with
  | _ i ih =>
   intro hi
   by_cases hx:X i
   ·exact hx
   ·exfalso
    have:i∈Region.ready .any ops listed:=XS.2 ⟨(tf (by omega)).2 (fun e=>hx ((hX i).2 e)),hi,fun d hd=>(hX d).1 (ih d (Wx H.back hd) (by have:=Wx H.back hd;omega))⟩
    rw[hr]at this
    cases this
 have done:∀{X:Nat→Prop} {q:Nat} {β:Bt} {a:Act} {w:World},(∀i,i<ops.size→X i)→dz l ss B0 eV w0 X q β w→(q<l.length→∃o,l[q]?=some o∧eR o=true)→oZ l ts ps nt X β a→Q .normal a w:=by
  intro X q β a w hall hM Bs hT
  have hq:q=l.length:=by
   rcases Nat.lt_or_ge q l.length with h' | h'
   ·obtain⟨o,ho,hE⟩:=Bs h'
    have:=(hM.qE q o ho hE).1 (hall q (by omega))
    omega
   ·have:=hM.qN;omega
  refine h β a w ⟨hT.sz,fun t ht=>hT.tm t ht l.length (Nat.le_refl _) fun i o hi _=>?_,hT.df⟩ (hM.done H.path hfree hq)
  have bK:=(List.getElem?_eq_some_iff.1 hi).1
  exact⟨fun _=>bK,fun _=>hall i (by omega)⟩
 intro n
 induction n with
 | zero =>
  intro listed L X q β a w hsz hX hL hmem cQ hM Bs hT
  have EO:L=[]:=List.eq_nil_of_length_eq_zero (by omega)
  subst EO
  have hall:∀i,i<ops.size→X i:=fun i hi=>by
   by_cases hx:X i
   ·exact hx
   ·cases hmem i hi hx
  refine⟨?_,done hall hM Bs hT⟩
  cases hr:Region.ready .any ops listed with
  | nil=>rfl
  | cons j r =>
   have hj:j∈Region.ready .any ops listed:=by rw[hr];simp
   obtain⟨h1,h2,_⟩:=XS.1 hj
   exact absurd ((hX j).1 (hall j h2)) ((tf (by omega)).1 h1)
 | succ n ih =>
  intro listed L X q β a w hsz hX hL hmem cQ hM Bs hT
  refine⟨fun hr=>done (KJ hsz hX hr) hM Bs hT,fun j hj=>?_⟩
  obtain⟨h1,h2,h3⟩:=XS.1 hj
  have hXj:¬X j:=fun e=>(tf (by omega)).1 h1 ((hX j).1 e)
  have hpre:∀d∈we ops j,X d:=fun d hd=>(hX d).2 (h3 d hd)
  refine zjR H hfree hM Bs hT cQ h2 hXj hpre fun q' γ a' w' g1 g2 g3=>?_
  refine ih (listed.setIfInBounds j true) (L.erase j) (fun i=>X i∨i=j) q' γ a' w' (by simpa using hsz) (fun i=>?_) ?_ (fun i hi hx=>?_) ?_ g1 g2 g3
  ·by_cases e:i=j
   ·subst e
    have:(listed.setIfInBounds i true).getD i false=true:=by
     rw[Array.getD_eq_getD_getElem?,Array.getElem?_setIfInBounds_self_of_lt (by omega)];rfl
    exact⟨fun _=>this,fun _=>.inr rfl⟩
   ·rw[getD_set_ne false (fun h=>e h.symm),←hX i]
    exact⟨fun hx=>hx.resolve_right e,.inl⟩
  ·rw[List.length_erase_of_mem (hmem j h2 hXj)];omega
  ·have hij:i≠j:=fun e=>hx (.inr e)
   exact (List.mem_erase_of_ne hij).2 (hmem i hi fun e=>hx (.inl e))
  ·rintro i (hi | rfl) d hd
   ·exact .inl (cQ i hi d hd)
   ·exact .inl (hpre d hd)
theorem Vp (hm:P.follows .mixedOrders=true)(GY:W6 call)(cu:Xf P B0 call)(hl:vZ (Uy P ps ops nt) ops.toList=some l){T:Tm}{S:St}{T':Tm}{S':St}(htr:ZJ call l T S=some tr)(eC:ZO tr=some (T',S'))
  (eW:Wy (ops.toList.map wG)=true) (FJ:YJ l (xB (ops.toList.map wG) [])=true) (zpJ:zfx l (xB (ops.toList.map wG) [])=true)
  (zpL:∀c∈zfH l (xB (ops.toList.map wG) []),W3 l tr c=true) {id:Nat} {β:Bt} {w:World} {a:Act} {Q:Exit→Act→World→Prop} (hwf:S.wf) (hR:Rel β B0 S.h w) (hT:di β ps nt T a) (hfree:WG β S.nx S'.nx)
  (h:∀γ a' w',di γ ps nt T' a'→dB B0 β S w γ S' w'→Q .normal a' w'):(Code.region id ops true).wp P Q a w:=by
 obtain⟨ts,ss,rfl,rfl,h3,h4,h5⟩:=YZ htr
 rw[h5]at eC
 injection eC with eC
 injection eC with e1 e2
 subst e1;subst e2
 have hp:=zba GY h3 hwf
 obtain⟨q,Se,GQ,N8,hq4⟩:=Uf l l.length 0 (by omega)
 have hR1:Rel β B0 (ss 0).h { w with drawn:=w.drawn+1 }:=⟨hR.cr,hR.inj,hR.lt,hR.le⟩
 refine wp_region_any hm (zjS (w0:={ w with drawn:=w.drawn+1 }) ⟨hl,h3,h4,hp,eW,FJ,zpJ,zpL,cu⟩ hfree (fun γ a' w' g1 g2=>h γ a' w' g1 ⟨g2.ext,g2.dom,g2.rel,⟨g2.ko.os,g2.ko.tape,g2.ko.output,g2.ko.size,g2.ko.block⟩,g2.fr,g2.src,g2.ph,g2.nx⟩)
  ops.size (Array.replicate ops.size false) (List.range ops.size) (fun _=>False) q β a _ (by simp) (fun i=>?_) (by simp) (fun i hi _=>by simpa using hi) (fun i hi=>hi.elim) (dz.start hp hR1 hfree GQ (fun i o h1 h2=>N8 i o (Nat.zero_le _) h1 h2)) hq4 ⟨hT.sz,hT.df,?_⟩)
 ·refine⟨False.elim,fun e=>?_⟩
  rw[Array.getD_eq_getD_getElem?,Array.getElem?_replicate]at e
  split at e<;>cases e
 ·intro t ht j hj hc
  rw[zjk hl h3 (Nat.zero_le j) hj fun i o h1 h2 hi hit=>(hc i o hi hit).2 h2]
  exact hT.tm t ht
end
theorem zey {P:Program}{B0:Nat}{F:Nat→Option aT}(hm:P.follows .mixedOrders=true)(hF:W5 P F):∀E,zaQ P B0 E→WE E→zjW E→ziA P B0 F E:=by
 intro E hE hG MR ps nt id ops d c hc T S x T' S' hs β w a Q hwf hR hT hfree h
 have cu:Xf P B0 (xp F E):=zfK hF hE MR
 have GY:W6 (xp F E):=Xc hG
 unfold zbC at hc
 split at hc
 ·cases hc
 ·rename_i l hl
  have hlen:ops.size=l.length:=by simpa using vl hl
  cases d with
  | false =>
   cases hc
   change NA (xp F E) l T S=_ at hs
   unfold NA at hs
   split at hs
   ·rename_i T1 S1 he
    cases hs
    refine wp_region ?_
    rw[List.range_eq_range']
    exact U7 cu GY hl ops.size 0 (by omega) hwf hR hT.clear (by simpa using he) hfree h
   ·cases hs
  | true =>
   simp only[cond_true]at hc
   rw[cond_eq_ite]at hc
   split at hc
   ·rename_i hok
    simp only[Bool.and_eq_true]at hok
    split at hc
    ·rename_i zpp
     cases hc
     change NA (xp F E) l T S=_ at hs
     unfold NA at hs
     split at hs
     ·rename_i T1 S1 he
      cases hs
      obtain⟨tr,h1,h2⟩:=Y1 he
      exact Vp hm GY cu hl h1 h2 hok.1.1 hok.1.2 hok.2 (fun c hc=>by rw[zpp]at hc;cases hc) hwf hR hT.clear hfree h
     ·cases hs
    ·cases hc
     change zc2 (xp F E) l _ T S=_ at hs
     unfold zc2 at hs
     split at hs
     ·rename_i tr htr
      rw[cond_eq_ite]at hs
      split at hs
      ·rename_i hall
       rw[Option.map_eq_some_iff]at hs
       obtain⟨⟨T1,S1⟩,h1,h2⟩:=hs
       cases h2
       exact Vp hm GY cu hl htr h1 hok.1.1 hok.1.2 hok.2 (fun c hc=>List.all_eq_true.1 hall c hc) hwf hR hT.clear hfree h
      ·cases hs
     ·cases hs
   ·cases hc
theorem zbL {P:Program}{B0:Nat}{F:Nat→Option aT}(hm:P.follows .mixedOrders=true)(hF:W5 P F)(n:Nat):Xf P B0 (zgT F n) :=
 zfK hF (zfm (zey hm hF) n).1 (zcO F n)
theorem zh5 {P:Program}{F:Nat→Option aT}(hm:P.follows .mixedOrders=true)(hF:W5 P F){ps f:Nat}{g:Func}{fn:aT}(hg:P.funcs[f]?=some g)(hc:Ws P ps g=some fn){n:Nat}
  (h:(match Z9 F n fn.body ⟨[],[]⟩ ⟨.nil,0⟩with
   | some (.norm,T',S')=>(match Is T' S'.h fn.res with | some (.b true)=>true | _=>false)
   | some (.ret,T',S')=>(match Is T' S'.h fn.res with | some (.b true)=>true | _=>false)
   | _=>false)=true):Zy P f:=by
 split at h
 ·rename_i T' S' he
  split at h
  ·rename_i hv;exact VC (fun _=>zey hm hF) hg hc he rfl hv
  ·cases h
 ·rename_i T' S' he
  split at h
  ·rename_i hv;exact VC (fun _=>zey hm hF) hg hc he rfl hv
  ·cases h
 ·cases h
end
section
def Sub (c c':cZ):Prop:=∀f vs S r,c f vs S=some r→c' f vs S=some r
theorem zgh {c c':cZ}(h:Sub c c'){o:cV}{S:St}{vs:List AV}{r:AV×St}(hs:WI o c S vs=some r):WI o c' S vs=some r:=by
 cases o<;>simp only[WI]at hs ⊢<;>try exact hs
 case call f=>exact h _ _ _ _ hs
 case eX =>
  obtain⟨f,fst,cap,us,rfl,hs⟩:=Z0 hs
  exact h _ _ _ _ hs
theorem zer {c c':cZ}(h:Sub c c'){o:cV}{S:St}{vs:List AV}{r:AV×St}(hs:wm o c S vs=some r):wm o c' S vs=some r:=by
 cases cQ:o.cl<;>simp only[wm,cQ]at hs ⊢
 ·exact hs
 ·exact hs
 ·exact zgh h hs
theorem XD {c c':cZ}(h:Sub c c'){o:cM}{T:Tm}{S:St}{r:Tm×St}(hs:wT c o T S=some r):wT c' o T S=some r:=by
 unfold wT at hs ⊢
 split at hs
 ·split at hs
  ·rename_i he
   rw[zer h he]
   exact hs
  ·cases hs
 ·exact hs
 ·cases hs
theorem YL {c c':cZ}(h:Sub c c'):∀{l:List cM} {T:Tm} {S:St} {r:Tm×St},Yh c l T S=some r→Yh c' l T S=some r
 | [],_,_,_,hs=>hs
 | o::l,T,S,r,hs=>by
  rw[wU]at hs ⊢
  split at hs
  ·rename_i he
   rw[XD h he]
   exact YL h hs
  ·cases hs
theorem XA {c c':cZ}(h:Sub c c'):∀{l:List cM} {T:Tm} {S:St} {r:List (Tm×St)},ZJ c l T S=some r→ZJ c' l T S=some r
 | [],_,_,_,hs=>hs
 | o::l,T,S,r,hs=>by
  unfold ZJ at hs ⊢
  split at hs
  ·rename_i he
   rw[XD h he]
   rw[Option.map_eq_some_iff]at hs ⊢
   obtain⟨u,hu,hr⟩:=hs
   exact⟨u,XA h hu,hr⟩
  ·cases hs
def zjV (E E':Ec):Prop:=∀c T S r,E c T S=some r→E' c T S=some r
theorem VL {F:Nat→Option aT}{E E':Ec}(h:zjV E E'):Sub (xp F E) (xp F E'):=by
 intro f vs S r hs
 unfold xp at hs ⊢
 split at hs
 ·cases hs
 ·rename_i fn _
  split at hs
  ·rename_i he;simp only[h _ _ _ _ he];exact hs
  ·rename_i he;simp only[h _ _ _ _ he];exact hs
  ·cases hs
theorem zfn {F:Nat→Option aT}{E E':Ec}(h:zjV E E'):zjV (xQ F E) (xQ F E'):=by
 have hc:=VL (F:=F) h
 intro c T S r hs
 cases c with
 | skip=>exact hs
 | reg ops =>
  simp only[xQ,NA]at hs ⊢
  split at hs
  ·rename_i he;rw[YL hc he];exact hs
  ·cases hs
 | IF ops Ag =>
  simp only[xQ,zc2]at hs ⊢
  split at hs
  ·rename_i he;rw[XA hc he];exact hs
  ·cases hs
 | seq a b =>
  simp only[xQ,NB]at hs ⊢
  split at hs
  ·rename_i he;rw[h _ _ _ _ he];exact h _ _ _ _ hs
  ·rename_i hne
   rw[h _ _ _ _ hs]
   split
   ·rename_i e;cases e;exact absurd hs (hne _ _)
   ·rfl
 | cond c x y =>
  simp only[xQ,Qc]at hs ⊢
  split at hs
  ·exact h _ _ _ _ hs
  ·exact h _ _ _ _ hs
  ·cases hs
 | block id c =>
  simp only[xQ,Yb]at hs ⊢
  split at hs
  ·rename_i he;rw[h _ _ _ _ he];exact hs
  ·rename_i hne
   rw[h _ _ _ _ hs]
   split
   ·rename_i e;cases e;exact absurd hs (hne _ _ _)
   ·rfl
 | loop c =>
  simp only[xQ,UJ]at hs ⊢
  split at hs
  ·rename_i he;rw[h _ _ _ _ he];exact h _ _ _ _ hs
  ·rename_i hne
   rw[h _ _ _ _ hs]
   split
   ·rename_i e;cases e;exact absurd hs (hne _ _)
   ·rfl
 | exit id=>exact hs
 | ret=>exact hs
theorem zcN (F:Nat→Option aT):∀n,zjV (Z9 F n) (Z9 F (n+1))
 | 0=>fun _ _ _ _ h=>by cases h
 | n+1=>zfn (zcN F n)
theorem Wh {F:Nat→Option aT}{n m:Nat}(h:n≤m):zjV (Z9 F n) (Z9 F m):=by
 induction m with
 | zero=>have:n=0:=by omega
         subst this;exact fun _ _ _ _ h=>h
 | succ m ih =>
  by_cases e:n=m+1
  ·subst e;exact fun _ _ _ _ h=>h
  ·exact fun c T S r hs=>zcN F m c T S r (ih (by omega) c T S r hs)
theorem zdO {P:Program}{F:Nat→Option aT}(hm:P.follows .mixedOrders=true)(hF:W5 P F){n f:Nat}{vs:List AV}{as:Array Value}{S S':St}{w:World}{β:Bt}(h:zgT F n f vs S=some (.b true,S'))
  (hwf:S.wf) (hv:aS β vs as.toList) (hR:Rel β w.heap.size S.h w) (hfree:WG β S.nx S'.nx) :
  Calls P f as w fun e w'=>e=.returned (.bool true)∧RowKit.Below w.heap.size w w':=by
 refine ((zbL hm hF n f vs S _ S' h).2 β w as hwf hv hR hfree).mono ?_
 rintro e w' ⟨γ,v',rfl,h1,h2⟩
 cases h1
 exact⟨rfl,h2.ko⟩
theorem zhF (w:World):Rel (fun _=>none) w.heap.size .nil w:=by
 refine⟨?_,?_,?_,Nat.le_refl _⟩
 ·intro n bl b o z h;cases h
 ·intro n m bl bm b x y h;cases h
 ·intro n b x h;cases h
theorem zi5 (n:Nat):St.wf ⟨.nil,n⟩:=fun m bl h=>by cases h
theorem zT {n:Int}(h1:-9223372036854775808≤n)(h2:n<9223372036854775808):wr .i64 n=n:=by
 have:Ny n=true:=by
  cases n with
  | ofNat m=>simp only[Ny,yV];exact decide_eq_true (Int.ofNat_lt.1 h2)
  | negSucc m=>simp only[Ny,yV];exact decide_eq_true (by omega)
 simp only[wr,this,cond_true]
theorem xa (F:Nat→Option aT)(n:Nat)(c:br):Z9 F (n+1) c=xQ F (Z9 F n) c:=rfl
theorem zaP (F:Nat→Option aT)(n:Nat):zgT F n=xp F (Z9 F n):=rfl
end
section
abbrev Hp:=Nat→Option AB
inductive LC where
 | raw (x:AB)
 | abs (P:Hp→Prop)
abbrev Lg:=Nat→Option LC
def Lg.put (L:Lg)(n:Nat)(c:LC):Lg:=fun m=>if m=n then some c else L m
def Lg.del (L:Lg)(n:Nat):Lg:=fun m=>if m=n then none else L m
def Lg.ak (M L:Lg):Lg:=fun b=>match M b with | some c=>some c | none=>L b
def Lg.minus (L M:Lg):Lg:=fun b=>match M b with | some _=>none | none=>L b
def Lg.nil:Lg:=fun _=>none
def XV:Option LC→Nat→Hp→Prop
 | none,_,p=>∀b,p b=none
 | some (.raw x),r,p=>p r=some x∧∀b,b≠r→p b=none
 | some (.abs P),r,p=>P p∧∃cs,p r=some (.cells cs)
def zfZ (L:Lg)(p:Nat→Hp):Prop:=(∀r,XV (L r) r (p r))∧∀r s b,r≠s→p r b=none∨p s b=none
def Sat (L:Lg)(h:Hp):Prop:=∃p,zfZ L p∧∀b x,h b=some x↔∃r,p r b=some x
def Mod (S:St)(L:Lg):Prop:=∃h,Sat L h∧∀b x,h b=some x→S.h.get b=some x∧b<S.nx
def aq (L:Lg)(a:Nat×Nat)(sz:Option Nat):Option AV :=
 match L a.1 with
 | some (.raw cr)=>match cr.read with
  | some c=>zR c a.2 sz
  | none=>none
 | _=>none
def zH (L:Lg)(a:Option (Nat×Nat))(n:Nat):Option (List AV) :=
 match a with
 | none=>if n=0 then some []else none
 | some (r,o)=>match L r with
  | some (.raw cr)=>match cr.read with
   | some c=>cut c o n
   | none=>none
  | _=>none
def zeY (L:Lg)(r:Nat):Bool :=
 match L r with
 | some (.raw (.cells _))=>true
 | some (.abs _)=>true
 | _=>false
def mH (L:Lg)(a:Nat×Nat)(vs:List AV):Option Lg :=
 match L a.1 with
 | some (.raw (.cells c))=>if a.2+vs.length≤c.length∧vs.all AV.one=true then some (L.put a.1 (.raw (.cells (zo c a.2 vs))))else none
 | _=>none
def P3 (L:Lg):Option (Nat×Nat)→Option (Nat×Nat)→Option Bool
 | none,none=>some true
 | none,some _=>some false
 | some _,none=>some false
 | some (a,i),some (b,j)=>if a=b then some (decide (i=j))else if zeY L a=true∧zeY L b=true then some false else none
noncomputable def RA (ng:Bool)(k:Nv)(L:Lg):List AV→Option AV
 | [.p x,.p y]=>match k with
  | .ptr=>(P3 L x y).map fun r=>.b (r != ng)
  | k=>IN ng k .nil [.p x,.p y]
 | vs=>IN ng k .nil vs
def XT (sz:Option Nat)(L:Lg):List AV→Option AV
 | [.p (some a)]=>aq L a sz
 | _=>none
def vi (z:AV)(ok:Bool)(L:Lg):List AV→Option AV
 | [.m none,.i _ _]=>some (if ok=true then .ay [z,.b false]else z)
 | [.m (some r),.i k n]=>match L r with
  | some (.raw (.map es))=>match Ui k n es with
   | some (some v)=>some (if ok=true then .ay [v,.b true]else v)
   | some none=>some (if ok=true then .ay [z,.b false]else z)
   | none=>none
  | _=>none
 | _=>none
def zcj (L:Lg):List AV→Option AV
 | [.m none]=>some (.i .i64 0)
 | [.m (some r)]=>match L r with
  | some (.raw (.map es))=>some (.i .i64 es.length)
  | _=>none
 | _=>none
def zeG (L:Lg):List AV→Option AV
 | [.sl a n _ _]=>if n=0 then some (.s [])else match zH L a n with
  | some l=>match u8s l with
   | some s=>some (.s s)
   | none=>none
  | none=>none
 | _=>none
noncomputable def yC:cV→Lg→List AV→Option AV
 | .ld sz,L,vs=>XT sz L vs
 | .mY z ok,L,vs=>vi z ok L vs
 | .HC,L,vs=>zcj L vs
 | .JA,L,vs=>zeG L vs
 | .eq ng k,L,vs=>RA ng k L vs
 | o,_,vs=>Zd o .nil vs
def WN (r:Option AV)(L:Lg)(k:AV→Lg→Prop):Prop :=
 match r with
 | some v=>k v L
 | none=>False
def Xw (f:Nat→List AV→Option (AB×AV))(vs:List AV)(L:Lg)(k:AV→Lg→Prop):Prop :=
 ∀b,L b=none→match f b vs with
  | some (x,v)=>k v (L.put b (.raw x))
  | none=>False
def zd (F:Nat→Option aT)(f:Nat)(vs:List AV)(L:Lg)(Q:AV→Lg→Prop):Prop :=
 ∀S,Mod S L→∃n v S',zgT F n f vs S=some (v,S')∧∃L',Mod S' L'∧Q v L'
def jy (sz:Nat)(L:Lg)(k:AV→Lg→Prop):List AV→Prop
 | [.p (some a),v]=>match v.cellsOf with
  | some l=>if l.length=sz then match mH L a l with
   | some L'=>k .bad L'
   | none=>False
   else False
  | none=>False
 | _=>False
def Ug (L:Lg)(k:AV→Lg→Prop):List AV→Prop
 | [.m (some r),.i j n,v]=>match L r with
  | some (.raw (.map es))=>match WS j n v es with
   | some es=>k .bad (L.put r (.raw (.map es)))
   | none=>False
  | _=>False
 | _=>False
def Uj (L:Lg)(k:AV→Lg→Prop):List AV→Prop
 | [.m none,.i _ _]=>k .bad L
 | [.m (some r),.i j n]=>match L r with
  | some (.raw (.map es))=>match WT j n es with
   | some es=>k .bad (L.put r (.raw (.map es)))
   | none=>False
  | _=>False
 | _=>False
def Zn (L:Lg)(a:Option (Nat×Nat))(ex size:Nat):Option Lg :=
 if ex=0 then some L else if ex=size then match a with
  | some (r,_)=>match L r with
   | some (.raw (.cells _))=>some (L.del r)
   | _=>none
  | none=>none
 else none
def Ia (size bytes:Nat)(L:Lg)(a:Option (Nat×Nat))(len cap ex n:Nat)(new:List AV)(k:AV→Lg→Prop):Prop :=
 if len+n≤cap then
  match a with
  | none=>k (.sl none (len+n) cap ex) L
  | some (r,o)=>if n=0 then k (.sl (some (r,o)) len cap ex) L else
   match mH L (r,o+len * size) new with
   | some L'=>k (.sl (some (r,o)) (len+n) cap ex) L'
   | none=>False
 else (len+n) * bytes≤70368744177664 ∧
  match zH L a (len * size),Zn L a ex size with
  | some old,some L'=>∀b,L b=none→k (.sl (some (b,0)) (len+n) (len+n) size) (L'.put b (.raw (.cells (old++new))))
  | _,_=>False
def Xp (size bytes:Nat)(L:Lg)(k:AV→Lg→Prop):List AV→Prop
 | [.sl a len cap ex,.sl b n _ _]=>match zH L b (n * size)with
  | some new=>new.all AV.one=true∧Ia size bytes L a len cap ex n new k
  | none=>False
 | _=>False
def ziT (z:List AV)(L:Lg)(k:AV→Lg→Prop):List AV→Prop
 | [.sl a n _ _]=>if n=0 then k .bad L else match a with
  | some a=>match mH L a (y7 z n)with
   | some L'=>k .bad L'
   | none=>False
  | none=>False
 | _=>False
def zjK (size:Nat)(L:Lg)(k:AV→Lg→Prop):List AV→Prop
 | [.sl a dl _ _,.sl b sl _ _]=>match zH L b (Nat.min sl dl * size)with
  | some vs=>if Nat.min sl dl=0 then k (.i .i64 0) L else match a with
   | some a=>match mH L a vs with
    | some L'=>k (.i .i64 (Nat.min sl dl:Nat)) L'
    | none=>False
   | none=>False
  | none=>False
 | _=>False
def zhh (F:Nat→Option aT)(L:Lg)(k:AV→Lg→Prop):List AV→Prop
 | .fn f fst cap::vs=>zd F f (fst++vs++cap) L k
 | _=>False
noncomputable def za (F:Nat→Option aT)(o:cV)(vs:List AV)(L:Lg)(k:AV→Lg→Prop):Prop :=
 match o with
 | .alloc z=>Xw (zfV z) vs L k
 | .box=>Xw Fl vs L k
 | .aC z len size ps=>Xw (Zx z len size ps) vs L k
 | .FA z bytes=>Xw (zfU z bytes) vs L k
 | .iH=>Xw zhj vs L k
 | .st sz=>jy sz L k vs
 | .oh=>Ug L k vs
 | .om=>Uj L k vs
 | .app size bytes=>Xp size bytes L k vs
 | .Nn z=>ziT z L k vs
 | .TW size=>zjK size L k vs
 | .call f=>zd F f vs L k
 | .eX=>zhh F L k vs
 | o=>WN (yC o L vs) L k
abbrev Env:=Nat→AV
def Env.put (l:Env)(n:Nat)(v:AV):Env:=fun m=>bif Nat.beq n m then v else l m
def Env.nil:Env:=fun _=>.bad
def G3 (l t:Env):fT→AV
 | .l n=>l n
 | .t n=>t n
 | .c v=>v
noncomputable def ziP (l t:Env)(as:List fT):List AV:=List.rec (motive:=fun _=>List AV) [] (fun x _ ih=>G3 l t x::ih) as
def dx (l:Env)(d:Nw)(v:AV):Env:=match d with
 | .l n=>l.put n v
 | _=>l
def ziI (t:Env)(d:Nw)(v:AV):Env:=match d with
 | .t n=>t.put n v
 | _=>t
noncomputable def zI (vs:List AV):Nat→Env:=List.rec (motive:=fun _=>Nat→Env) (fun _=>Env.nil) (fun v _ ih i=>(ih (Nat.succ i)).put i v) vs
noncomputable def zi (F:Nat→Option aT)(v:AV)(w:Bool)(o:cV)(vs:List AV)(L:Lg)(k:AV→Lg→Prop):Prop :=
 match v with
 | .b x=>(x=w→za F o vs L k)∧(x=(!w)→k (.ay []) L)
 | .bad=>False
 | _=>k (.ay []) L
noncomputable def zc3 (F:Nat→Option aT)(o:cM)(l t:Env)(L:Lg)(k:AV→Lg→Prop):Prop :=
 match o with
 | ⟨_,none,.mv,[x]⟩=>k (G3 l t x) L
 | ⟨_,none,op,args⟩=>za F op (ziP l t args) L k
 | ⟨_,some (c,w),op,args⟩=>zi F (G3 l t c) w op (ziP l t args) L k
def zn (v:AV)(X Y:Prop):Prop :=
 match v with
 | .b x=>(x=true→X)∧(x=false→Y)
 | _=>False
noncomputable def zf8 (F:Nat→Option aT)(ops:List cM):Env→Env→Lg→(Env→Env→Lg→Prop)→Prop :=
 List.rec (motive:=fun _=>Env→Env→Lg→(Env→Env→Lg→Prop)→Prop) (fun l t L k=>k l t L)
  (fun o _ ih l t L k=>zc3 F o l t L fun v L'=>ih (dx l o.dst v) (ziI t o.dst v) L' k) ops
noncomputable def yb (o:cV)(vs:List AV)(L L':Lg):Prop :=
 match yC o L vs,yC o L' vs with
 | some v,some v'=>ve v v'=true
 | _,_=>False
def zaN (v:AV)(w:Bool)(P:Prop):Prop:=match v with
 | .b x=>x=w→P
 | .bad=>False
 | _=>True
noncomputable def zfR (ops:List cM)(tr:List (Env×Env×Lg))(c:Nat×Nat):Prop :=
 match ops[c.1]?,tr[c.1]?,tr[c.2]? with
 | some o,some (l,t,L),some (_,_,L') =>
  match o.gd with
  | none=>yb o.op (ziP l t o.args) L L'
  | some (g,w)=>zaN (G3 l t g) w (yb o.op (ziP l t o.args) L L')
 | _,_,_=>False
noncomputable def zfS (ops:List cM)(tr:List (Env×Env×Lg)):List (Nat×Nat)→Prop
 | []=>True
 | c::r=>zfR ops tr c∧zfS ops tr r
noncomputable def zd7 (F:Nat→Option aT)(ops:List cM)(Ag:List (Nat×Nat))(rest:List cM):List (Env×Env×Lg)→Env→Env→Lg→(Env→Env→Lg→Prop)→Prop :=
 List.rec (motive:=fun _=>List (Env×Env×Lg)→Env→Env→Lg→(Env→Env→Lg→Prop)→Prop) (fun tr l t L k=>zfS ops (tr++[(l,t,L)]) Ag∧k l t L)
  (fun o _ ih tr l t L k=>zc3 F o l t L fun v L'=>ih (tr++[(l,t,L)]) (dx l o.dst v) (ziI t o.dst v) L' k) rest
abbrev Kn:=Env→Env→Lg→Prop
def xA (B:Env→Env→Lg→(Env→Lg→Prop)→Prop)(l:Env)(L:Lg):Prop :=
 ∃I:Nat→Env→Lg→Prop,(∃n,I n l L)∧∀n l t L,I n l L→B l t L (fun l L=>∃m,m<n∧I m l L)
noncomputable def wp (F:Nat→Option aT)(c:br):Env→Env→Lg→Kn→(Nat→Kn)→Kn→Prop :=
 br.rec (motive:=fun _=>Env→Env→Lg→Kn→(Nat→Kn)→Kn→Prop)
  (fun l t L k _ _=>k l t L)
  (fun ops l _ L k _ _=>zf8 F ops l Env.nil L k)
  (fun ops Ag l _ L k _ _=>zd7 F ops Ag ops [] l Env.nil L k)
  (fun _ _ a b l t L k ke kr=>a l t L (fun l t L=>b l t L k ke kr) ke kr)
  (fun c _ _ x y l t L k ke kr=>zn (G3 l t c) (x l t L k ke kr) (y l t L k ke kr))
  (fun id _ c l t L k ke kr=>c l t L k (fun j l t L=>bif Nat.beq j id then k l t L else ke j l t L) kr)
  (fun _ c l t L _ ke kr=>xA (fun l t L k=>c l t L (fun l _ L=>k l L) ke kr) l L)
  (fun id l t L _ ke _=>ke id l t L)
  (fun l t L _ _ kr=>kr l t L) c
def YM (l t:Env)(L:Lg):iq→Option AV
 | .tmp x=>some (G3 l t x)
 | .cell x sz=>match G3 l t x with
  | .p (some a)=>aq L a sz
  | _=>none
def Qd (l t:Env)(L:Lg):List iq→Option (List AV)
 | []=>some []
 | r::rs=>match YM l t L r with
  | some v=>(Qd l t L rs).map (v::·)
  | none=>none
def yz (l t:Env)(L:Lg)(rs:List iq):Option AV :=
 match Qd l t L rs with
 | some [v]=>some v
 | some vs=>some (.ay vs)
 | none=>none
def zx (L L':Lg):Prop:=∀S,Mod S L→Mod S L'
end
section
@[simp] theorem ze (L:Lg)(n:Nat)(c:LC):(L.put n c) n=some c:=by simp[Lg.put]
theorem zb (L:Lg)(n:Nat)(c:LC){m:Nat}(h:m≠n):(L.put n c) m=L m:=by simp[Lg.put,h]
theorem Lg.ah (L:Lg)(n:Nat)(c:LC)(m:Nat):(L.put n c) m=if m=n then some c else L m:=rfl
theorem yL (L:Lg)(n:Nat)(m:Nat):(L.del n) m=if m=n then none else L m:=rfl
@[simp] theorem zA (L:Lg)(n:Nat)(c d:LC):(L.put n c).put n d=L.put n d:=by
 funext m;simp only[Lg.put];split<;>rfl
theorem yJ (L:Lg){n m:Nat}(h:n≠m)(c d:LC):(L.put n c).put m d=(L.put m d).put n c:=by
 funext k;simp only[Lg.put];split<;>split<;>simp_all
@[simp] theorem ye (L:Lg)(n:Nat)(c:LC)(h:L n=some c):L.put n c=L:=by
 funext m;simp only[Lg.put];split<;>simp_all
@[simp] theorem ziZ (L:Lg)(n:Nat)(c:LC)(h:L n=none):(L.put n c).del n=L:=by
 funext m;simp only[Lg.put,Lg.del];split<;>simp_all
theorem XV.root {c:LC}{r:Nat}{p:Hp}(h:XV (some c) r p):∃x,p r=some x:=by
 cases c with
 | raw x=>exact⟨x,h.1⟩
 | abs P=>obtain⟨_,cs,h⟩:=h;exact⟨_,h⟩
theorem zfZ.sat {L:Lg}{p:Nat→Hp}(hp:zfZ L p):∃h,Sat L h∧∀b x,h b=some x↔∃r,p r b=some x:=by
 classical
 have hx:∀b,∃v:Option AB,∀x,v=some x↔∃r,p r b=some x:=by
  intro b
  by_cases h:∃r x,p r b=some x
  ·obtain⟨r,x,h⟩:=h
   refine⟨some x,fun y=>Iff.intro (fun (e:some x=some y)=>by cases e;exact⟨r,h⟩) ?_⟩
   rintro⟨s,hs⟩
   by_cases e:r=s
   ·subst e;rw[←h];exact hs
   ·rcases hp.2 r s b e with h1 | h1<;>simp_all
  ·refine⟨none,fun y=>Iff.intro (fun e=>by cases e) ?_⟩
   rintro⟨s,hs⟩
   exact absurd ⟨s,y,hs⟩ h
 obtain⟨h,hh⟩:=Classical.axiomOfChoice hx
 exact⟨h,⟨p,hp,hh⟩,hh⟩
theorem xP {S:St}{L:Lg}:Mod S L↔∃p,zfZ L p∧∀r b x,p r b=some x→S.h.get b=some x∧b<S.nx:=by
 refine⟨?_,?_⟩
 ·rintro⟨h,⟨p,hp,hh⟩,hs⟩
  exact⟨p,hp,fun r b x e=>hs b x ((hh b x).2 ⟨r,e⟩)⟩
 ·rintro⟨p,hp,hs⟩
  obtain⟨h,h1,h2⟩:=hp.sat
  exact⟨h,h1,fun b x e=>by obtain⟨r,e⟩:=(h2 b x).1 e;exact hs r b x e⟩
section
variable {S:St} {L:Lg}
theorem Mod.raw (h:Mod S L){b:Nat}{x:AB}(e:L b=some (.raw x)):S.h.get b=some x∧b<S.nx:=by
 obtain⟨p,hp,hs⟩:=xP.1 h
 have:=hp.1 b
 rw[e]at this
 exact hs b b x this.1
theorem Mod.root (h:Mod S L){b:Nat}{c:LC}(e:L b=some c):(∃x,S.h.get b=some x)∧b<S.nx:=by
 obtain⟨p,hp,hs⟩:=xP.1 h
 have:=hp.1 b
 rw[e]at this
 obtain⟨x,hx⟩:=this.root
 exact⟨⟨x,(hs b b x hx).1⟩,(hs b b x hx).2⟩
theorem Mod.cells (h:Mod S L){b:Nat}{P:Hp→Prop}(e:L b=some (.abs P)):∃cs,S.h.get b=some (.cells cs):=by
 obtain⟨p,hp,hs⟩:=xP.1 h
 have:=hp.1 b
 rw[e]at this
 obtain⟨_,cs,hx⟩:=this
 exact⟨cs,(hs b b _ hx).1⟩
theorem Mod.fresh (h:Mod S L){b:Nat}(hb:S.nx≤b):L b=none:=by
 cases e:L b with
 | none=>rfl
 | some c=>exact absurd (h.root e).2 (by omega)
theorem Mod.sub (h:Mod S L){L':Lg}(e:∀b c,L' b=some c→L b=some c):Mod S L':=by
 obtain⟨p,hp,hs⟩:=xP.1 h
 refine xP.2 ⟨fun r b=>if L' r=none then none else p r b,⟨?_,?_⟩,?_⟩
 ·intro r
  cases h1:L' r with
  | none=>intro b;simp[h1]
  | some c=>have:=hp.1 r;rw[e r c h1]at this;simpa[h1]using this
 ·intro r s b GN
  have:=hp.2 r s b GN
  simp only
  split<;>split<;>simp_all
 ·intro r b x hx
  simp only at hx
  split at hx
  ·cases hx
  ·exact hs r b x hx
theorem Mod.put (h:Mod S L){b:Nat}{x y:AB}(e:L b=some (.raw x)):Mod { S with h:=S.h.set b (some y) } (L.put b (.raw y)):=by
 obtain⟨p,hp,hs⟩:=xP.1 h
 have h0:=hp.1 b
 rw[e]at h0
 refine xP.2 ⟨fun r c=>if r=b then (if c=b then some y else none)else p r c,⟨?_,?_⟩,?_⟩
 ·intro r
  by_cases hr:r=b
  ·subst hr
   simp only[ze,XV,if_true]
   exact⟨trivial,fun c hc=>by simp[hc]⟩
  ·rw[zb _ _ _ hr]
   simp only[hr,if_false]
   exact hp.1 r
 ·intro r s c GN
  by_cases hr:r=b
  ·subst hr
   have hs':s≠r:=fun h=>GN h.symm
   simp only[if_true,hs',if_false]
   by_cases hc:c=r
   ·subst hc
    have:=hp.2 c s c GN
    rw[h0.1]at this
    simp at this
    exact .inr this
   ·left;simp[hc]
  ·by_cases hs':s=b
   ·subst hs'
    simp only[if_true,hr,if_false]
    by_cases hc:c=s
    ·subst hc
     have:=hp.2 r c c GN
     rw[h0.1]at this
     simp at this
     exact .inl this
    ·right;simp[hc]
   ·simp only[hr,hs',if_false];exact hp.2 r s c GN
 ·intro r c z hz
  simp only at hz
  simp only[zS]
  split at hz
  ·split at hz
   ·rename_i h2;subst h2;cases hz;exact⟨by simp,(h.raw e).2⟩
   ·cases hz
  ·rename_i hr
   have hc:c≠b:=by
    rintro rfl
    have:=hp.2 r c c hr
    rw[h0.1,hz]at this
    simp at this
   simp only[hc,if_false]
   exact hs r c z hz
theorem Mod.gone (h:Mod S L){b:Nat}{x:AB}(e:L b=some (.raw x)):Mod { S with h:=S.h.set b none } (L.del b):=by
 obtain⟨p,hp,hs⟩:=xP.1 h
 have h0:=hp.1 b
 rw[e]at h0
 refine xP.2 ⟨fun r c=>if r=b then none else p r c,⟨?_,?_⟩,?_⟩
 ·intro r
  by_cases hr:r=b
  ·subst hr
   simp[yL,XV]
  ·simp only[yL,hr,if_false]
   exact hp.1 r
 ·intro r s c GN
  have:=hp.2 r s c GN
  by_cases hr:r=b<;>by_cases hs':s=b<;>simp[hr,hs',this]<;>simp_all
 ·intro r c z hz
  simp only at hz
  simp only[zS]
  split at hz
  ·cases hz
  ·rename_i hr
   have hc:c≠b:=by
    rintro rfl
    have:=hp.2 r c c hr
    rw[h0.1,hz]at this
    simp at this
   simp only[hc,if_false]
   exact hs r c z hz
theorem Mod.new (h:Mod S L)(y:AB):Mod { h:=S.h.set S.nx (some y),nx:=S.nx+1 } (L.put S.nx (.raw y)):=by
 have e:=h.fresh (Nat.le_refl S.nx)
 obtain⟨p,hp,hs⟩:=xP.1 h
 have h0:=hp.1 S.nx
 rw[e]at h0
 refine xP.2 ⟨fun r c=>if r=S.nx then (if c=S.nx then some y else none)else p r c,⟨?_,?_⟩,?_⟩
 ·intro r
  by_cases hr:r=S.nx
  ·subst hr
   simp only[ze,XV,if_true]
   exact⟨trivial,fun c hc=>by simp[hc]⟩
  ·rw[zb _ _ _ hr]
   simp only[hr,if_false]
   exact hp.1 r
 ·have key:∀r,p r S.nx=none:=fun r=>by
   cases hz:p r S.nx with
   | none=>rfl
   | some z=>exact absurd (hs r S.nx z hz).2 (by omega)
  intro r s c GN
  by_cases hr:r=S.nx
  ·have hs':s≠S.nx:=fun h=>GN (hr.trans h.symm)
   simp only[hr,if_true,hs',if_false]
   by_cases hc:c=S.nx
   ·subst hc;exact .inr (key s)
   ·left;simp[hc]
  ·by_cases hs':s=S.nx
   ·simp only[hs',if_true,hr,if_false]
    by_cases hc:c=S.nx
    ·subst hc;exact .inl (key r)
    ·right;simp[hc]
   ·simp only[hr,hs',if_false];exact hp.2 r s c GN
 ·intro r c z hz
  simp only at hz
  simp only[zS]
  split at hz
  ·split at hz
   ·rename_i h2;subst h2;cases hz;exact⟨by simp,by omega⟩
   ·cases hz
  ·have:=hs r c z hz
   have hc:c≠S.nx:=by omega
   simp only[hc,if_false]
   exact⟨this.1,by omega⟩
end
@[simp] theorem zx.refl (L:Lg):zx L L:=fun _ h=>h
theorem zx.trans {L M N:Lg}(h:zx L M)(k:zx M N):zx L N:=fun S m=>k S (h S m)
theorem zx.drop {L L':Lg}(e:∀b c,L' b=some c→L b=some c):zx L L':=fun S h=>h.sub e
theorem zfW {L M:Lg}{r:Nat}{P:Hp→Prop}(hM:∀b c,M b=some c→L b=some c)(hr:(∃cs,M r=some (.raw (.cells cs)))∨∃Q,M r=some (.abs Q))(hP:∀h,Sat M h→P h) :
  zx L ((L.minus M).put r (.abs P)):=by
 classical
 intro S h
 obtain⟨p,hp,hs⟩:=xP.1 h
 have hpM:zfZ M (fun b d=>if M b=none then none else p b d):=by
  refine⟨?_,?_⟩
  ·intro b
   cases h1:M b with
   | none=>intro c;simp[h1]
   | some c=>have:=hp.1 b;rw[hM b c h1]at this;simpa[h1]using this
  ·intro b c d hbc
   have:=hp.2 b c d hbc
   simp only
   split<;>split<;>simp_all
 obtain⟨hm,zpa,hmi⟩:=hpM.sat
 have cH:∃cs,hm r=some (.cells cs):=by
  have h0:=hp.1 r
  rcases hr with⟨cs,hr⟩ | ⟨Q,hr⟩
  ·rw[hM r _ hr]at h0
   exact⟨cs,(hmi r _).2 ⟨r,by simpa[hr]using h0.1⟩⟩
  ·rw[hM r _ hr]at h0
   obtain⟨_,cs,h0⟩:=h0
   exact⟨cs,(hmi r _).2 ⟨r,by simpa[hr]using h0⟩⟩
 have hrM:∃c,M r=some c:=by rcases hr with⟨cs,hr⟩ | ⟨Q,hr⟩<;>exact⟨_,hr⟩
 refine xP.2 ⟨fun b d=>if b=r then hm d else if M b=none then p b d else none,⟨?_,?_⟩,?_⟩
 ·intro b
  by_cases hb:b=r
  ·subst hb
   simp only[ze,if_true]
   exact⟨hP _ zpa,cH⟩
  ·rw[zb _ _ _ hb]
   simp only[hb,if_false]
   cases h1:M b with
   | some c =>
    have h2:L.minus M b=none:=by simp[Lg.minus,h1]
    rw[h2];intro d;simp
   | none =>
    have h2:L.minus M b=L b:=by simp[Lg.minus,h1]
    rw[h2];simpa[h1]using hp.1 b
 ·have key:∀b d,M b=none→hm d=none∨p b d=none:=by
   intro b d hb
   cases h1:hm d with
   | none=>exact .inl rfl
   | some x =>
    obtain⟨s,hs'⟩:=(hmi d x).1 h1
    right
    have Sd:s≠b:=by rintro rfl;simp[hb]at hs'
    have:=hp.2 s b d Sd
    split at hs'
    ·cases hs'
    ·rw[hs']at this;simpa using this
  intro b c d hbc
  by_cases hb:b=r
  ·have hc:c≠r:=fun h=>hbc (hb.trans h.symm)
   simp only[hb,if_true,hc,if_false]
   split
   ·exact key c d (by assumption)
   ·exact .inr rfl
  ·by_cases hc:c=r
   ·simp only[hb,if_true,hc,if_false]
    split
    ·exact (key b d (by assumption)).symm
    ·exact .inl rfl
   ·simp only[hb,hc,if_false]
    have:=hp.2 b c d hbc
    split<;>split<;>simp_all
 ·intro b d x hx
  simp only at hx
  split at hx
  ·obtain⟨s,hs'⟩:=(hmi d x).1 hx
   split at hs'
   ·cases hs'
   ·exact hs s d x hs'
  ·split at hx
   ·exact hs b d x hx
   ·cases hx
theorem Mod.unfold {S:St}{L:Lg}(h:Mod S L){r:Nat}{P:Hp→Prop}(e:L r=some (.abs P)) :
  ∃hm,P hm∧∀M,Sat M hm→Mod S (M.ak (L.del r))∧∀b c,M b=some c→b≠r→L b=none:=by
 obtain⟨p,hp,hs⟩:=xP.1 h
 have h0:=hp.1 r
 rw[e]at h0
 refine⟨p r,h0.1,fun M hM=>?_⟩
 obtain⟨q,hq,Ih⟩:=hM
 have hfr:∀b c,M b=some c→b≠r→L b=none:=by
  intro b c hb Ae
  have h1:=hq.1 b
  rw[hb]at h1
  obtain⟨x,hx⟩:=h1.root
  have h2:=(Ih b x).2 ⟨b,hx⟩
  cases hL:L b with
  | none=>rfl
  | some d =>
   have h3:=hp.1 b
   rw[hL]at h3
   obtain⟨y,hy⟩:=h3.root
   have:=hp.2 r b b (fun h=>Ae h.symm)
   rw[h2,hy]at this
   simp at this
 refine⟨xP.2 ⟨fun b d=>if M b=none then (if b=r then none else p b d)else q b d,⟨?_,?_⟩,?_⟩,hfr⟩
 ·intro b
  cases h1:M b with
  | some c=>simp only[Lg.ak,h1];have:=hq.1 b;rw[h1]at this;simpa[h1]using this
  | none =>
   simp only[Lg.ak,h1,yL]
   by_cases hb:b=r
   ·subst hb;simp[XV,h1]
   ·simpa[hb,h1]using hp.1 b
 ·have key:∀b c d,M b≠none→M c=none→c≠r→q b d=none∨p c d=none:=by
   intro b c d hb hc EJ
   cases h1:q b d with
   | none=>exact .inl rfl
   | some x =>
    have h2:=(Ih d x).2 ⟨b,h1⟩
    have:=hp.2 r c d (fun h=>EJ h.symm)
    rw[h2]at this
    simpa using this
  intro b c d hbc
  simp only
  by_cases h1:M b=none
  ·by_cases h2:M c=none
   ·simp only[h1,h2,if_true]
    by_cases hb:b=r
    ·simp[hb]
    ·by_cases hc:c=r
     ·simp[hc]
     ·simpa[hb,hc]using hp.2 b c d hbc
   ·simp only[h1,h2,if_true,if_false]
    by_cases hb:b=r
    ·simp[hb]
    ·simp only[hb,if_false];exact (key c b d h2 h1 hb).symm
  ·by_cases h2:M c=none
   ·simp only[h1,h2,if_true,if_false]
    by_cases hc:c=r
    ·simp[hc]
    ·simp only[hc,if_false];exact key b c d h1 h2 hc
   ·simp only[h1,h2,if_false];exact hq.2 b c d hbc
 ·intro b d x hx
  simp only at hx
  split at hx
  ·split at hx
   ·cases hx
   ·exact hs b d x hx
  ·exact hs r d x ((Ih d x).2 ⟨b,hx⟩)
theorem zh1 (n:Nat):Mod ⟨.nil,n⟩ Lg.nil:=by
 refine xP.2 ⟨fun _ _=>none,⟨fun r b=>rfl,fun _ _ _ _=>.inl rfl⟩,fun r b x h=>by cases h⟩
end
section
section
variable {S:St} {L:Lg}
theorem zg6 (h:Mod S L){a:Nat×Nat}{sz:Option Nat}{v:AV}(e:aq L a sz=some v):NC S.h a sz=some v:=by
 unfold aq at e
 split at e
 ·rename_i cr he
  unfold NC
  rw[(h.raw he).1]
  exact e
 ·cases e
theorem wV (h:Mod S L){a:Option (Nat×Nat)}{n:Nat}{v:List AV}(e:zH L a n=some v):xE S.h a n=some v:=by
 unfold zH at e
 split at e
 ·unfold xE
  simp only[zq]
  split at e
  ·rename_i hn;cases e;simp[hn]
  ·cases e
 ·rename_i r o
  split at e
  ·rename_i cr he
   unfold xE
   simp only[(h.raw he).1]
   exact e
  ·cases e
theorem zcC (h:Mod S L){r:Nat}(e:zeY L r=true):live S.h r=true:=by
 unfold zeY at e
 split at e
 ·rename_i c he;simp[live,(h.raw he).1]
 ·rename_i P he;obtain⟨cs,hc⟩:=h.cells he;simp[live,hc]
 ·cases e
theorem zbT (h:Mod S L){a:Nat×Nat}{vs:List AV}{L':Lg}(e:mH L a vs=some L'):∃h',wb S.h a vs=some h'∧Mod { S with h:=h' } L':=by
 unfold mH at e
 split at e
 ·rename_i c he
  split at e
  ·rename_i hc
   cases e
   refine⟨S.h.set a.1 (some (.cells (zo c a.2 vs))),?_,h.put he⟩
   unfold wb
   simp only[(h.raw he).1,zp,hc.1,hc.2,decide_true,Bool.and_self,cond_true]
  ·cases e
 ·cases e
theorem zii (h:Mod S L){x y:Option (Nat×Nat)}{r:Bool}(e:P3 L x y=some r):eqP S.h x y=some r:=by
 unfold P3 at e
 split at e
 ·cases e;rfl
 ·cases e;rfl
 ·cases e;rfl
 ·rename_i a i b j
  unfold eqP
  simp only[zq]
  split at e
  ·rename_i hab;simp only[hab,decide_true,cond_true];exact e
  ·rename_i hab
   split at e
   ·rename_i hl
    simp only[hab,decide_false,cond_false,zcC h hl.1,zcC h hl.2,Bool.and_self,cond_true]
    exact e
   ·cases e
theorem zih {k:Nv}{x y:AV}{h:PM AB}{r:Bool}(hk:(∀a b,¬(x=.p a∧y=.p b))∨k≠.ptr)(e:FY .nil k x y=some r):FY h k x y=some r:=by
 unfold FY at e ⊢
 split at e<;>try exact e
 all_goals (rename_i a b;exact hk.elim (fun hk=>absurd ⟨rfl,rfl⟩ (hk a b)) (fun hk=>absurd rfl hk))
theorem zeE {ng:Bool}{k:Nv}{vs:List AV}{h:PM AB}{v:AV}(hk:(∀a b,vs≠[.p a,.p b])∨k≠.ptr)(e:IN ng k .nil vs=some v):IN ng k h vs=some v:=by
 unfold IN at e ⊢
 split at e
 ·rename_i x y
  rw[Option.map_eq_some_iff]at e ⊢
  obtain⟨r,hr,e⟩:=e
  refine⟨r,zih ?_ hr,e⟩
  rcases hk with hk | hk
  ·left;rintro a b ⟨rfl,rfl⟩;exact hk a b rfl
  ·exact .inr hk
 ·cases e
theorem zhO (h:Mod S L){ng:Bool}{k:Nv}{vs:List AV}{v:AV}(e:RA ng k L vs=some v):IN ng k S.h vs=some v:=by
 unfold RA at e
 split at e
 ·rename_i x y
  split at e
  ·rw[Option.map_eq_some_iff]at e
   obtain⟨r,hr,e⟩:=e
   simp only[IN,FY,zii h hr,Option.map_some,e]
  ·rename_i hk
   exact zeE (.inr hk) e
 ·rename_i hk
  exact zeE (.inl fun a b=>fun e=>hk a b e) e
theorem zeB (h:Mod S L){z:AV}{ok:Bool}{vs:List AV}{v:AV}(e:vi z ok L vs=some v):zdk z ok S.h vs=some v:=by
 unfold vi at e
 split at e
 ·unfold zdk;cases ok<;>simp_all
 ·split at e
  ·rename_i es he
   unfold zdk
   simp only[(h.raw he).1]
   split at e
   ·rename_i e1;simp only[e1];cases ok<;>simp_all
   ·rename_i e1;simp only[e1];cases ok<;>simp_all
   ·cases e
  ·cases e
 ·cases e
theorem zeA (h:Mod S L){vs:List AV}{v:AV}(e:zcj L vs=some v):U8 S.h vs=some v:=by
 unfold zcj at e
 split at e
 ·unfold U8;exact e
 ·split at e
  ·rename_i es he
   unfold U8
   simp only[(h.raw he).1]
   exact e
  ·cases e
 ·cases e
theorem zeF (h:Mod S L){vs:List AV}{v:AV}(e:zeG L vs=some v):zdl S.h vs=some v:=by
 unfold zeG at e
 split at e
 ·split at e
  ·rename_i h0
   unfold zdl
   simp only[h0,zq,decide_true,cond_true]
   exact e
  ·rename_i h0
   split at e
   ·rename_i l hl
    unfold zdl
    simp only[wV h hl,zq,h0,decide_false,cond_false]
    exact e
   ·cases e
 ·cases e
theorem V2 (h:Mod S L){o:cV}{vs:List AV}{v:AV}(e:yC o L vs=some v):Zd o S.h vs=some v:=by
 cases o
 case ld sz =>
  simp only[yC]at e
  unfold XT at e
  split at e
  ·simp only[Zd,rLd];exact zg6 h e
  ·cases e
 case mY z ok=>exact zeB h e
 case HC=>exact zeA h e
 case JA=>exact zeF h e
 case eq ng k=>exact zhO h e
 all_goals exact e
theorem zhE (h:Mod S L){o:cV}(ho:o.cl=.R){vs:List AV}{k:AV→Lg→Prop}(c:cZ)(e:WN (yC o L vs) L k):∃v S',wm o c S vs=some (v,S')∧∃L',Mod S' L'∧k v L':=by
 unfold WN at e
 split at e
 ·rename_i v hv
  refine⟨v,S,?_,L,h,e⟩
  simp only[wm,ho,RL,V2 h hv]
 ·exact e.elim
theorem X0 (h:Mod S L){o:cV}(ho:o.cl=.A){vs:List AV}{k:AV→Lg→Prop}(c:cZ)(e:Xw (H9 o) vs L k):∃v S',wm o c S vs=some (v,S')∧∃L',Mod S' L'∧k v L':=by
 have e1:=e S.nx (h.fresh (Nat.le_refl _))
 split at e1
 ·rename_i x v hv
  exact⟨v,_,by simp only[wm,ho,opA,hv],_,h.new x,e1⟩
 ·exact e1.elim
theorem vM {v:AV}{l:List AV}(h:v.cellsOf=some l):l.all AV.one=true:=by
 cases v<;>simp only[AV.cellsOf]at h
 case agg c =>
  cases hc:c.all AV.one
  ·rw[hc]at h;cases h
  ·rw[hc]at h;cases h;exact hc
 case ay=>cases h
 case bad=>cases h
 all_goals (cases h;rfl)
theorem zix (h:Mod S L){size bytes:Nat}{a:Option (Nat×Nat)}{len cap ex n:Nat}{new:List AV}{k:AV→Lg→Prop}(e:Ia size bytes L a len cap ex n new k) :
  ∃v S',ziY size bytes S a len cap ex n new=some (v,S')∧∃L',Mod S' L'∧k v L':=by
 unfold Ia at e
 unfold ziY
 simp only[zp,zq]
 split at e
 ·rename_i hle
  simp only[hle,decide_true,cond_true]
  split at e
  ·exact⟨_,_,rfl,L,h,e⟩
  ·rename_i r o
   split at e
   ·rename_i hn
    simp only[hn,decide_true,cond_true]
    exact⟨_,_,rfl,L,h,e⟩
   ·rename_i hn
    simp only[hn,decide_false,cond_false]
    split at e
    ·rename_i L' hw
     obtain⟨h',Ig,hm⟩:=zbT h hw
     simp only[Ig]
     exact⟨_,_,rfl,L',hm,e⟩
    ·exact e.elim
 ·rename_i hle
  obtain⟨hb,e⟩:=e
  simp only[hle,decide_false,cond_false,hb,decide_true,cond_true]
  split at e
  ·rename_i old L' ho hg
   simp only[wV h ho]
   have hg':∃h',gone S.h a ex size=some h'∧Mod { S with h:=h' } L':=by
    unfold Zn at hg
    unfold gone
    simp only[zq]
    split at hg
    ·rename_i h0;cases hg;simp only[h0,decide_true,cond_true];exact⟨_,rfl,h⟩
    ·rename_i h0
     simp only[h0,decide_false,cond_false]
     split at hg
     ·rename_i h1
      simp only[h1,decide_true,cond_true]
      split at hg
      ·rename_i r o
       split at hg
       ·rename_i c hc
        cases hg
        have hl:live S.h r=true:=by simp[live,(h.raw hc).1]
        simp only[hl,cond_true]
        exact⟨_,rfl,h.gone hc⟩
       ·cases hg
      ·cases hg
     ·cases hg
   obtain⟨h',Sq,hm⟩:=hg'
   simp only[Sq]
   exact⟨_,_,rfl,_,hm.new (.cells (old++new)),e S.nx (h.fresh (Nat.le_refl _))⟩
  ·exact e.elim
theorem zd8 {F:Nat→Option aT}(h:Mod S L){o:cV}{vs:List AV}{k:AV→Lg→Prop}(e:za F o vs L k) :
  ∃n v S',wm o (xp F (Z9 F n)) S vs=some (v,S')∧∃L',Mod S' L'∧k v L':=by
 cases o
 case alloc z=>exact⟨0,X0 h rfl _ e⟩
 case box=>exact⟨0,X0 h rfl _ e⟩
 case aC=>exact⟨0,X0 h rfl _ e⟩
 case FA=>exact⟨0,X0 h rfl _ e⟩
 case iH=>exact⟨0,X0 h rfl _ e⟩
 case st sz =>
  simp only[za]at e
  unfold jy at e
  split at e
  ·rename_i a v
   split at e
   ·rename_i l hl
    split at e
    ·rename_i hsz
     split at e
     ·rename_i L' hw
      obtain⟨h',Ig,hm⟩:=zbT h hw
      refine⟨0,.bad,{ S with h:=h' },?_,L',hm,e⟩
      simp only[wm,cV.cl,WI,eSt,hl,zq,hsz,decide_true,cond_true,Ig]
     ·exact e.elim
    ·exact e.elim
   ·exact e.elim
  ·exact e.elim
 case oh =>
  simp only[za]at e
  unfold Ug at e
  split at e
  ·rename_i r j n v
   split at e
   ·rename_i es he
    split at e
    ·rename_i es' hs
     refine⟨0,.bad,{ S with h:=S.h.set r (some (.map es')) },?_,_,h.put he,e⟩
     simp only[wm,cV.cl,WI,zfy,(h.raw he).1,hs]
    ·exact e.elim
   ·exact e.elim
  ·exact e.elim
 case om =>
  simp only[za]at e
  unfold Uj at e
  split at e
  ·exact⟨0,.bad,S,rfl,L,h,e⟩
  ·rename_i r j n
   split at e
   ·rename_i es he
    split at e
    ·rename_i es' hs
     refine⟨0,.bad,{ S with h:=S.h.set r (some (.map es')) },?_,_,h.put he,e⟩
     simp only[wm,cV.cl,WI,zdF,(h.raw he).1,hs]
    ·exact e.elim
   ·exact e.elim
  ·exact e.elim
 case app size bytes =>
  simp only[za]at e
  unfold Xp at e
  split at e
  ·rename_i a len cap ex b n _ _
   split at e
   ·rename_i new hn
    obtain⟨v,S',h1,h2⟩:=zix h e.2
    refine⟨0,v,S',?_,h2⟩
    simp only[wm,cV.cl,WI,ziQ,wV h hn,e.1,cond_true,h1]
   ·exact e.elim
  ·exact e.elim
 case Nn z =>
  simp only[za]at e
  unfold ziT at e
  split at e
  ·rename_i a n _ _
   split at e
   ·rename_i h0
    exact⟨0,.bad,S,by simp only[wm,cV.cl,WI,P1,zq,h0,decide_true,cond_true],L,h,e⟩
   ·rename_i h0
    split at e
    ·rename_i a
     split at e
     ·rename_i L' hw
      obtain⟨h',Ig,hm⟩:=zbT h hw
      exact⟨0,.bad,{ S with h:=h' },by simp only[wm,cV.cl,WI,P1,zq,h0,decide_false,cond_false,Ig],L',hm,e⟩
     ·exact e.elim
    ·exact e.elim
  ·exact e.elim
 case TW size =>
  simp only[za]at e
  unfold zjK at e
  split at e
  ·rename_i a dl _ _ b sl _ _
   split at e
   ·rename_i vs hv
    split at e
    ·rename_i h0
     have h9:=wV h hv
     rw[h0]at h9
     exact⟨0,.i .i64 0,S,by simp only[wm,cV.cl,WI,P2,zq,h0,h9,decide_true,cond_true],L,h,e⟩
    ·rename_i h0
     split at e
     ·rename_i a
      split at e
      ·rename_i L' hw
       obtain⟨h',Ig,hm⟩:=zbT h hw
       exact⟨0,.i .i64 (Nat.min sl dl:Nat),{ S with h:=h' },by simp only[wm,cV.cl,WI,P2,wV h hv,zq,h0,decide_false,cond_false,Ig];rfl,L',hm,e⟩
      ·exact e.elim
     ·exact e.elim
   ·exact e.elim
  ·exact e.elim
 case call f =>
  obtain⟨n,v,S',h1,h2⟩:=e S h
  exact⟨n,v,S',h1,h2⟩
 case eX =>
  simp only[za]at e
  unfold zhh at e
  split at e
  ·obtain⟨n,v,S',h1,h2⟩:=e S h
   exact⟨n,v,S',h1,h2⟩
  ·exact e.elim
 all_goals exact⟨0,zhE h rfl _ e⟩
end
section
variable {F:Nat→Option aT}
theorem zfG {n m:Nat}(h:n≤m):Sub (xp F (Z9 F n)) (xp F (Z9 F m)):=VL (Wh h)
theorem zdQ (n:Nat)(v:AV)(l:List (Nat×AV)):yp (ziW n v l)=Env.put (yp l) n v:=by
 funext m
 rw[YE]
 unfold Env.put
 rw[zq]
 by_cases h:m=n
 ·subst h;simp
 ·simp[h,Ne.symm h]
theorem zdP (n:Nat)(v:AV)(l:List (Nat×AV)):yp ((n,v)::l)=Env.put (yp l) n v:=rfl
theorem Wi (T:Tm)(x:fT):G3 (yp T.l) (yp T.r) x=x.ev T:=by cases x<;>rfl
theorem Ur (T:Tm):∀(as:List fT),ziP (yp T.l) (yp T.r) as=G2 T as
 | []=>rfl
 | x::r=>by
  show G3 _ _ x::ziP _ _ r=x.ev T::G2 T r
  rw[Wi,Ur T r]
theorem zeL (T:Tm)(d:Nw)(v:AV):dx (yp T.l) d v=yp (T.put v d).l:=by cases d<;>simp[dx,Tm.put,zdQ]
theorem zeI (T:Tm)(d:Nw)(v:AV):ziI (yp T.r) d v=yp (T.put v d).r:=by cases d<;>simp[ziI,Tm.put,zdP]
theorem zcF:∀(vs:List AV) (i:Nat),zI vs i=yp (P8 vs i)
 | [],_=>rfl
 | v::r,i=>by
  show (zI r (Nat.succ i)).put i v=_
  rw[zcF r]
  rfl
theorem zbX {S:St}{L:Lg}(h:Mod S L){o:cM}{T:Tm}{k:AV→Lg→Prop}(e:zc3 F o (yp T.l) (yp T.r) L k) :
  ∃n v S',wT (xp F (Z9 F n)) o T S=some (T.put v o.dst,S')∧∃L',Mod S' L'∧k v L':=by
 unfold zc3 at e
 split at e
 ·rename_i d x
  rw[Wi]at e
  exact⟨0,x.ev T,S,by simp only[wT,ZS,wm,cV.cl,RL,Zd,rMv,zgG,zie],L,h,e⟩
 ·rename_i d op args _
  rw[Ur]at e
  obtain⟨n,v,S',h1,h2⟩:=zd8 h e
  exact⟨n,v,S',by simp only[wT,ZS,h1],h2⟩
 ·rename_i d c w op args
  rw[Wi,Ur]at e
  unfold zi at e
  split at e
  ·rename_i x hx
   by_cases R3:x=w
   ·obtain⟨n,v,S',h1,h2⟩:=zd8 h (e.1 R3)
    exact⟨n,v,S',by simp only[wT,ZS,hx,R3,beq_self_eq_true,h1],h2⟩
   ·have hb:(x==w)=false:=by simpa using R3
    exact⟨0,.ay [],S,by simp only[wT,ZS,hx,hb],L,h,e.2 (by cases x<;>cases w<;>simp_all)⟩
  ·exact e.elim
  ·rename_i h1 h2
   refine⟨0,.ay [],S,?_,L,h,e⟩
   have:ZS T (some (c,w))=some false:=by
    unfold ZS
    simp only
   simp only[wT,this]
theorem Vk {n m:Nat}(h:n≤m){o:cM}{T:Tm}{S:St}{r:Tm×St}(hs:wT (xp F (Z9 F n)) o T S=some r):wT (xp F (Z9 F m)) o T S=some r:=XD (zfG h) hs
theorem zbW:∀{ops:List cM} {T:Tm} {S:St} {L:Lg} {k:Env→Env→Lg→Prop},Mod S L→zf8 F ops (yp T.l) (yp T.r) L k →
  ∃n T' S',Yh (xp F (Z9 F n)) ops T S=some (T',S')∧∃L',Mod S' L'∧k (yp T'.l) (yp T'.r) L'
 | [],T,S,L,k,h,e=>⟨0,T,S,rfl,L,h,e⟩
 | o::r,T,S,L,k,h,e=>by
  have e':zc3 F o (yp T.l) (yp T.r) L (fun v L'=>zf8 F r (dx (yp T.l) o.dst v) (ziI (yp T.r) o.dst v) L' k):=e
  obtain⟨n,v,S',h1,L',h2,h3⟩:=zbX h e'
  rw[zeL,zeI]at h3
  obtain⟨m,T0,T3,h4,h5⟩:=zbW h2 h3
  refine⟨max n m,T0,T3,?_,h5⟩
  rw[wU,Vk (Nat.le_max_left n m) h1]
  exact YL (zfG (Nat.le_max_right n m)) h4
def zdX (tr:List (Env×Env×Lg))(hs:List (Tm×St)):Prop:=tr.length=hs.length∧∀(i:Nat) l t L,tr[i]?=some (l,t,L)→∃T S,hs[i]?=some (T,S)∧l=yp T.l∧t=yp T.r∧Mod S L
theorem zdX.snoc {tr:List (Env×Env×Lg)}{hs:List (Tm×St)}(h:zdX tr hs){T:Tm}{L:Lg}{S:St}(m:Mod S L):zdX (tr++[(yp T.l,yp T.r,L)]) (hs++[(T,S)]):=by
 refine⟨by simp[h.1],fun i l t L' e=>?_⟩
 rw[List.getElem?_append]at e ⊢
 rw[←h.1]
 split at e
 ·rename_i hi
  simp only[hi,if_true]
  exact h.2 i l t L' e
 ·rename_i hi
  simp only[hi,if_false]
  cases hj:i-tr.length with
  | zero=>rw[hj]at e;simp at e;obtain⟨rfl,rfl,rfl⟩:=e;exact⟨T,S,by simp,rfl,rfl,m⟩
  | succ j=>rw[hj]at e;simp at e
theorem zaM {o:cV}{vs:List AV}{L L':Lg}{S S':St}(h:Mod S L)(h':Mod S' L')(e:yb o vs L L'):∃v v',Zd o S.h vs=some v∧Zd o S'.h vs=some v'∧ve v v'=true:=by
 unfold yb at e
 split at e
 ·rename_i v v' h1 h2;exact⟨v,v',V2 h h1,V2 h' h2,e⟩
 ·exact e.elim
theorem zfQ {ops:List cM}{tr:List (Env×Env×Lg)}{hs:List (Tm×St)}(h:zdX tr hs){c:Nat×Nat}(e:zfR ops tr c):W3 ops hs c=true:=by
 unfold zfR at e
 split at e
 ·rename_i o l t L l' t' L' h1 h2 h3
  obtain⟨T,S,h4,rfl,rfl,m⟩:=h.2 _ _ _ _ h2
  obtain⟨T',S',h5,_,_,m'⟩:=h.2 _ _ _ _ h3
  rw[Ur]at e
  unfold W3
  simp only[h1,h4,h5]
  split at e
  ·rename_i hg
   obtain⟨v,v',e1,e2,e3⟩:=zaM m m' e
   simp only[hg,ZS,e1,e2,e3]
  ·rename_i g w hg
   rw[Wi]at e
   simp only[hg,ZS]
   unfold zaN at e
   split at e
   ·rename_i x hx
    simp only[hx]
    by_cases R3:x=w
    ·obtain⟨v,v',e1,e2,e3⟩:=zaM m m' (e R3)
     simp only[R3,beq_self_eq_true,e1,e2,e3]
    ·have hb:(x==w)=false:=by simpa using R3
     simp only[hb]
   ·exact e.elim
   ·rename_i a1 a2
    generalize hz:g.ev T=z at *
    cases z<;>first | rfl | (exfalso;first | exact a1 _ rfl | exact a2 rfl)
 ·exact e.elim
theorem zaO {ops:List cM}{tr:List (Env×Env×Lg)}{hs:List (Tm×St)}(h:zdX tr hs):∀{Ag:List (Nat×Nat)},zfS ops tr Ag→∀c,c∈Ag→W3 ops hs c=true
 | [],_,c,hc=>by cases hc
 | d::r,e,c,hc=>by
  rcases List.mem_cons.1 hc with rfl | hc
  ·exact zfQ h e.1
  ·exact zaO h e.2 c hc
theorem UL {ops:List cM}{Ag:List (Nat×Nat)}:∀{rest:List cM} {tr:List (Env×Env×Lg)} {hs:List (Tm×St)} {T:Tm} {S:St} {L:Lg} {k:Kn},zdX tr hs→Mod S L→zd7 F ops Ag rest tr (yp T.l) (yp T.r) L k →
  ∃n t,ZJ (xp F (Z9 F n)) rest T S=some t∧(∀c,c∈Ag→W3 ops (hs++t) c=true)∧∃T' S',ZO t=some (T',S')∧∃L',Mod S' L'∧k (yp T'.l) (yp T'.r) L'
 | [],tr,hs,T,S,L,k,hh,h,e=>⟨0,[(T,S)],rfl,zaO (hh.snoc h) e.1,T,S,rfl,L,h,e.2⟩
 | o::r,tr,hs,T,S,L,k,hh,h,e=>by
  have e':zc3 F o (yp T.l) (yp T.r) L (fun v L'=>zd7 F ops Ag r (tr++[(yp T.l,yp T.r,L)]) (dx (yp T.l) o.dst v) (ziI (yp T.r) o.dst v) L' k):=e
  obtain⟨n,v,S',h1,L',h2,h3⟩:=zbX h e'
  rw[zeL,zeI]at h3
  obtain⟨m,t,h4,h5,h6⟩:=UL (hh.snoc h) h2 h3
  obtain⟨T0,T3,h7,h8⟩:=h6
  refine⟨max n m,(T,S)::t,?_,?_,T0,T3,?_,h8⟩
  ·unfold ZJ
   rw[Vk (Nat.le_max_left n m) h1]
   simp only[XA (zfG (Nat.le_max_right n m)) h4,Option.map_some]
  ·intro c hc;have:=h5 c hc;rwa [List.append_assoc]at this
  ·cases t with
   | nil=>cases h7
   | cons a q=>exact h7
theorem zhn (F:Nat→Option aT)(a b:br)(l t:Env)(L:Lg)(k:Kn)(ke:Nat→Kn)(kr:Kn):wp F (.seq a b) l t L k ke kr=wp F a l t L (fun l t L=>wp F b l t L k ke kr) ke kr:=rfl
theorem zf7 (F:Nat→Option aT)(c:fT)(x y:br)(l t:Env)(L:Lg)(k:Kn)(ke:Nat→Kn)(kr:Kn):wp F (.cond c x y) l t L k ke kr=zn (G3 l t c) (wp F x l t L k ke kr) (wp F y l t L k ke kr):=rfl
theorem zf6 (F:Nat→Option aT)(c:br)(l t:Env)(L:Lg)(k:Kn)(ke:Nat→Kn)(kr:Kn):wp F (.loop c) l t L k ke kr=xA (fun l t L k=>wp F c l t L (fun l _ L=>k l L) ke kr) l L:=rfl
def Ends (F:Nat→Option aT)(c:br)(T:Tm)(S:St)(k:Kn)(ke:Nat→Kn)(kr:Kn):Prop :=
 ∃n x T' S',Z9 F n c T S=some (x,T',S')∧∃L',Mod S' L'∧match x with
  | .norm=>k (yp T'.l) (yp T'.r) L'
  | .ex j=>ke j (yp T'.l) (yp T'.r) L'
  | .ret=>kr (yp T'.l) (yp T'.r) L'
theorem Qb:∀(c:br) {T:Tm} {S:St} {L:Lg} {k:Kn} {ke:Nat→Kn} {kr:Kn},Mod S L→wp F c (yp T.l) (yp T.r) L k ke kr→Ends F c T S k ke kr
 | .skip,T,S,L,k,ke,kr,h,e=>⟨1,.norm,T,S,rfl,L,h,e⟩
 | .exit id,T,S,L,k,ke,kr,h,e=>⟨1,.ex id,T,S,rfl,L,h,e⟩
 | .ret,T,S,L,k,ke,kr,h,e=>⟨1,.ret,T,S,rfl,L,h,e⟩
 | .reg ops,T,S,L,k,ke,kr,h,e=>by
  obtain⟨n,T',S',h1,L',h2,h3⟩:=zbW (T:={ T with r:=[] }) h e
  exact⟨n+1,.norm,T',S',by simp only[xa,xQ,NA,h1],L',h2,h3⟩
 | .IF ops Ag,T,S,L,k,ke,kr,h,e=>by
  obtain⟨n,t,h1,h2,T',S',h3,L',h4,h5⟩:=UL (T:={ T with r:=[] }) (hs:=[]) (tr:=[]) ⟨rfl,fun i l t L h=>by simp at h⟩ h e
  refine⟨n+1,.norm,T',S',?_,L',h4,h5⟩
  have:Ag.all (W3 ops t)=true:=List.all_eq_true.2 h2
  simp only[xa,xQ,zc2,h1,this,cond_true,h3,Option.map_some]
 | .seq a b,T,S,L,k,ke,kr,h,e=>by
  have e':wp F a (yp T.l) (yp T.r) L (fun l t L=>wp F b l t L k ke kr) ke kr:=e
  obtain⟨n,x,T',S',h1,L',h2,h3⟩:=Qb a h e'
  cases x with
  | norm =>
   obtain⟨m,y,T0,T3,h4,h5⟩:=Qb b h2 h3
   refine⟨max n m+1,y,T0,T3,?_,h5⟩
   simp only[xa,xQ,NB,Wh (Nat.le_max_left n m) _ _ _ _ h1,Wh (Nat.le_max_right n m) _ _ _ _ h4]
  | ex j=>exact⟨n+1,.ex j,T',S',by simp only[xa,xQ,NB,h1],L',h2,h3⟩
  | ret=>exact⟨n+1,.ret,T',S',by simp only[xa,xQ,NB,h1],L',h2,h3⟩
 | .cond c x y,T,S,L,k,ke,kr,h,e=>by
  have e':zn (G3 (yp T.l) (yp T.r) c) (wp F x (yp T.l) (yp T.r) L k ke kr) (wp F y (yp T.l) (yp T.r) L k ke kr):=e
  rw[Wi]at e'
  unfold zn at e'
  split at e'
  ·rename_i b hb
   cases b with
   | true =>
    obtain⟨n,z,T',S',h1,h2⟩:=Qb x h (e'.1 rfl)
    exact⟨n+1,z,T',S',by simp only[xa,xQ,Qc,hb,h1],h2⟩
   | false =>
    obtain⟨n,z,T',S',h1,h2⟩:=Qb y h (e'.2 rfl)
    exact⟨n+1,z,T',S',by simp only[xa,xQ,Qc,hb,h1],h2⟩
  ·exact e'.elim
 | .block id c,T,S,L,k,ke,kr,h,e=>by
  have e':wp F c (yp T.l) (yp T.r) L k (fun j l t L=>bif Nat.beq j id then k l t L else ke j l t L) kr:=e
  obtain⟨n,x,T',S',h1,L',h2,h3⟩:=Qb c h e'
  cases x with
  | norm=>exact⟨n+1,.norm,T',S',by simp only[xa,xQ,Yb,h1],L',h2,h3⟩
  | ret=>exact⟨n+1,.ret,T',S',by simp only[xa,xQ,Yb,h1],L',h2,h3⟩
  | ex j =>
   simp only[zq]at h3
   by_cases hj:j=id
   ·simp only[hj,decide_true,cond_true]at h3
    exact⟨n+1,.norm,T',S',by simp only[xa,xQ,Yb,h1,zq,hj,decide_true,cond_true],L',h2,h3⟩
   ·simp only[hj,decide_false,cond_false]at h3
    exact⟨n+1,.ex j,T',S',by simp only[xa,xQ,Yb,h1,zq,hj,decide_false,cond_false],L',h2,h3⟩
 | .loop c,T,S,L,k,ke,kr,h,e=>by
  obtain⟨I,⟨n,hn⟩,hI⟩:=e
  have key:∀n,∀T S L,Mod S L→I n (yp T.l) L→Ends F (.loop c) T S k ke kr:=by
   intro n
   induction n using Nat.strongRecOn with
   | ind n ih =>
    intro T S L h hn
    have e':wp F c (yp T.l) (yp T.r) L (fun l _ L=>∃m,m<n∧I m l L) ke kr:=hI n _ (yp T.r) L hn
    obtain⟨a,x,T',S',h1,L',h2,h3⟩:=Qb c h e'
    cases x with
    | norm =>
     obtain⟨m,hm,h3⟩:=h3
     obtain⟨b,y,T0,T3,h4,h5⟩:=ih m hm T' S' L' h2 h3
     refine⟨max a b+1,y,T0,T3,?_,h5⟩
     simp only[xa,xQ,UJ,Wh (Nat.le_max_left a b) _ _ _ _ h1,Wh (Nat.le_max_right a b) _ _ _ _ h4]
    | ex j=>exact⟨a+1,.ex j,T',S',by simp only[xa,xQ,UJ,h1],L',h2,h3⟩
    | ret=>exact⟨a+1,.ret,T',S',by simp only[xa,xQ,UJ,h1],L',h2,h3⟩
  exact key n T S L h hn
theorem zdj {T:Tm}{S:St}{L:Lg}(h:Mod S L){r:iq}{v:AV}(e:YM (yp T.l) (yp T.r) L r=some v):Vo T S.h r=some v:=by
 cases r with
 | tmp t=>simp only[YM,Wi]at e;exact e
 | cell t sz =>
  simp only[YM,Wi]at e
  unfold Vo
  simp only at e ⊢
  split at e
  ·rename_i a ha;simp only[ha];exact zg6 h e
  ·cases e
theorem zcg {T:Tm}{S:St}{L:Lg}(h:Mod S L):∀{rs:List iq} {l:List AV},Qd (yp T.l) (yp T.r) L rs=some l→ND T S.h rs=some l
 | [],l,e=>e
 | r::rs,l,e=>by
  unfold Qd at e
  unfold ND
  split at e
  ·rename_i v hv
   simp only[zdj h hv]
   rw[Option.map_eq_some_iff]at e ⊢
   obtain⟨u,hu,e⟩:=e
   exact⟨u,zcg h hu,e⟩
  ·cases e
theorem zgm {T:Tm}{S:St}{L:Lg}(h:Mod S L){rs:List iq}{v:AV}(e:yz (yp T.l) (yp T.r) L rs=some v):Is T S.h rs=some v:=by
 unfold yz at e
 unfold Is
 cases hl:Qd (yp T.l) (yp T.r) L rs with
 | none=>rw[hl]at e;cases e
 | some l =>
  rw[hl]at e
  rw[zcg h hl]
  match l with
  | []=>exact e
  | [x]=>exact e
  | x::y::z=>exact e
def zm (v:Option AV)(Q:AV→Lg→Prop)(L:Lg):Prop:=match v with
 | some v=>∃L',zx L L'∧Q v L'
 | none=>False
def fin (rs:List iq)(Q:AV→Lg→Prop):Kn:=fun l t L=>zm (yz l t L rs) Q L
theorem WH {f:Nat}{fn:aT}(hf:F f=some fn){vs:List AV}{L:Lg}{Q:AV→Lg→Prop}
  (e:wp F fn.body (zI vs 0) Env.nil L (fin fn.res Q) (fun _ _ _ _=>False) (fin fn.res Q)):zd F f vs L Q:=by
 intro S h
 rw[zcF]at e
 obtain⟨n,x,T',S',h1,L',h2,h3⟩:=Qb (T:=zgA vs) fn.body h e
 have key:fin fn.res Q (yp T'.l) (yp T'.r) L'→∃v Io,Is T' S'.h fn.res=some v∧Mod S' Io∧Q v Io:=by
  intro h3
  unfold fin zm at h3
  split at h3
  ·rename_i v hv
   obtain⟨Io,hs,hq⟩:=h3
   exact⟨v,Io,zgm h2 hv,hs _ h2,hq⟩
  ·exact h3.elim
 cases x with
 | norm =>
  obtain⟨v,Io,h4,h5,h6⟩:=key h3
  exact⟨n,v,S',by simp only[zaP,xp,hf,h1,h4,Option.map_some],Io,h5,h6⟩
 | ret =>
  obtain⟨v,Io,h4,h5,h6⟩:=key h3
  exact⟨n,v,S',by simp only[zaP,xp,hf,h1,h4,Option.map_some],Io,h5,h6⟩
 | ex j=>exact h3.elim
theorem zd.mono {f:Nat}{vs:List AV}{L:Lg}{Q Q':AV→Lg→Prop}(h:zd F f vs L Q)(hq:∀v L,Q v L→Q' v L):zd F f vs L Q':=by
 intro S m
 obtain⟨n,v,S',h1,L',h2,h3⟩:=h S m
 exact⟨n,v,S',h1,L',h2,hq _ _ h3⟩
theorem zd.cj {f:Nat}{vs:List AV}{L:Lg}{Q Q':AV→Lg→Prop}(h:zd F f vs L Q)(hq:∀v L,Q v L→∃L',zx L L'∧Q' v L'):zd F f vs L Q':=by
 intro S m
 obtain⟨n,v,S',h1,L',h2,h3⟩:=h S m
 obtain⟨Io,h4,h5⟩:=hq _ _ h3
 exact⟨n,v,S',h1,Io,h4 _ h2,h5⟩
theorem zd.pre {f:Nat}{vs:List AV}{L L':Lg}{Q:AV→Lg→Prop}(hs:zx L L')(h:zd F f vs L' Q):zd F f vs L Q:=fun S m=>h S (hs S m)
theorem zd.unfold {f:Nat}{vs:List AV}{L:Lg}{Q:AV→Lg→Prop}{r:Nat}{P:Hp→Prop}(e:L r=some (.abs P))
  (h:∀hm,P hm→∃M,Sat M hm∧((∀b c,M b=some c→b≠r→L b=none)→zd F f vs (M.ak (L.del r)) Q)):zd F f vs L Q:=by
 intro S m
 obtain⟨hm,hP,hM⟩:=m.unfold e
 obtain⟨M,hs,hc⟩:=h hm hP
 obtain⟨m1,hf⟩:=hM M hs
 exact hc hf S m1
end
end
section
theorem zO {α:Type}{a b:α}(h:a=b):a=b:=h
def Gz {α:Type}(x:α):α:=if 0=0 then x else x
@[simp] theorem zf {α:Type}(x:α):Gz x=x:=by simp[Gz]
@[congr] theorem ziF {F o vs vs' L k}(h:Gz vs=vs'):za F o vs L k=za F o vs' L k:=by rw[←h,zf]
@[congr] theorem ziO {F v v' w o vs L k}(h:Gz v=v'):zi F v w o vs L k=zi F v' w o vs L k:=by rw[←h,zf]
@[congr] theorem zir {v v' X Y}(h:Gz v=v'):zn v X Y=zn v' X Y:=by rw[←h,zf]
@[congr] theorem ziH {r r' L k}(h:Gz r=r'):WN r L k=WN r' L k:=by rw[←h,zf]
@[congr] theorem ziJ {f vs vs' L k}(h:Gz vs=vs'):Xw f vs L k=Xw f vs' L k:=by rw[←h,zf]
@[congr] theorem ziD {F f vs vs' L Q}(h:Gz vs=vs'):zd F f vs L Q=zd F f vs' L Q:=by rw[←h,zf]
@[congr] theorem zja {sz L k vs vs'}(h:Gz vs=vs'):jy sz L k vs=jy sz L k vs':=by rw[←h,zf]
@[congr] theorem zh0 {L k vs vs'}(h:Gz vs=vs'):Ug L k vs=Ug L k vs':=by rw[←h,zf]
@[congr] theorem zh2 {L k vs vs'}(h:Gz vs=vs'):Uj L k vs=Uj L k vs':=by rw[←h,zf]
@[congr] theorem ziX {s b L k vs vs'}(h:Gz vs=vs'):Xp s b L k vs=Xp s b L k vs':=by rw[←h,zf]
@[congr] theorem ziS {z L k vs vs'}(h:Gz vs=vs'):ziT z L k vs=ziT z L k vs':=by rw[←h,zf]
@[congr] theorem ziR {s L k vs vs'}(h:Gz vs=vs'):zjK s L k vs=zjK s L k vs':=by rw[←h,zf]
@[simp] theorem Env.ah (l:Env)(n:Nat)(v:AV)(m:Nat):(l.put n v) m=if n=m then v else l m:=by
 unfold Env.put;rw[zq];by_cases h:n=m<;>simp[h]
section
variable (F:Nat→Option aT)
theorem wZ (x w:Bool)(o vs L k):zi F (.b x) w o vs L k=((x=w→za F o vs L k)∧(x=(!w)→k (.ay []) L)):=zO rfl
@[simp] theorem zw (w:Bool)(o vs L k):zi F (.b w) w o vs L k=za F o vs L k:=by simp[wZ]
@[simp] theorem YR (o vs L k):zi F (.b true) false o vs L k=k (.ay []) L:=by simp[wZ]
@[simp] theorem vI (o vs L k):zi F (.b false) true o vs L k=k (.ay []) L:=by simp[wZ]
@[simp] theorem zn1 (p:Prop)[Decidable p](o vs L k):zi F (.b (decide p)) true o vs L k=((p→za F o vs L k)∧(¬p→k (.ay []) L)):=by simp[wZ]
@[simp] theorem zn2 (p:Prop)[Decidable p](o vs L k):zi F (.b (decide p)) false o vs L k=((¬p→za F o vs L k)∧(p→k (.ay []) L)):=by simp[wZ]
@[simp] theorem xD (l w o vs L k):zi F (.ay l) w o vs L k=k (.ay []) L:=zO rfl
theorem xM (x:Bool)(X Y:Prop):zn (.b x) X Y=((x=true→X)∧(x=false→Y)):=zO rfl
@[simp] theorem z9 (X Y:Prop):zn (.b true) X Y=X:=by simp[xM]
@[simp] theorem zC (X Y:Prop):zn (.b false) X Y=Y:=by simp[xM]
@[simp] theorem zM (p:Prop)[Decidable p](X Y:Prop):zn (.b (decide p)) X Y=((p→X)∧(¬p→Y)):=by simp[xM]
@[simp] theorem znl (p:Prop)[Decidable p](X Y:Prop):zn (.b (!decide p)) X Y=((¬p→X)∧(p→Y)):=by simp[xM]
@[simp] theorem zmY (p:Prop)[Decidable p](o vs L k):zi F (.b (!decide p)) true o vs L k=((¬p→za F o vs L k)∧(p→k (.ay []) L)):=by simp[wZ]
@[simp] theorem zmZ (p:Prop)[Decidable p](o vs L k):zi F (.b (!decide p)) false o vs L k=((p→za F o vs L k)∧(¬p→k (.ay []) L)):=by simp[wZ]
variable (L:Lg) (k:AV→Lg→Prop)
@[simp] theorem yo (x:AV):za F .mv [x] L k=k x L:=zO rfl
theorem zd5 (c:Bool)(x y:AV):za F .pick [.b c,x,y] L k=k (bif c then x else y) L:=zO rfl
@[simp] theorem zV (x y:AV):za F .pick [.b true,x,y] L k=k x L:=zO rfl
@[simp] theorem zW (x y:AV):za F .pick [.b false,x,y] L k=k y L:=zO rfl
@[simp] theorem zho (c d:Bool):za F .pick [.b c,.b d,.b false] L k=k (.b (c&&d)) L:=by rw[zd5];cases c<;>rfl
@[simp] theorem ziE (c d:Bool):za F .pick [.b c,.b true,.b d] L k=k (.b (c||d)) L:=by rw[zd5];cases c<;>rfl
@[simp] theorem wp_build (z ps vs):za F (.build z ps) vs L k=WN ((zF z ps vs).map .agg) L k:=zO rfl
@[simp] theorem zg (v):WN (some v) L k=k v L:=zO rfl
@[simp] theorem zh (a):za F .aa [.p (some a)] L k=k (.p (some a)) L:=zO rfl
@[simp] theorem zhp (f a b):za F .aa [.fn f a b] L k=k (.fn f a b) L:=zO rfl
@[simp] theorem y6 (a b:Int)(j):za F (.bin .add) [.i j a,.i j b] L k=k (.i j (wr j (a+b))) L:=by
 have:eP j j=true:=by cases j<;>rfl
 simp[za,yC,Zd,GA,Fk,this,GC]
@[simp] theorem zbU (a b:Int)(j):za F (.bin .sub) [.i j a,.i j b] L k=k (.i j (wr j (a-b))) L:=by
 have:eP j j=true:=by cases j<;>rfl
 simp[za,yC,Zd,GA,Fk,this,GC]
@[simp] theorem zn4 (a b:Int)(j):za F (.bin .mul) [.i j a,.i j b] L k=k (.i j (wr j (a * b))) L:=by
 have:eP j j=true:=by cases j<;>rfl
 simp[za,yC,Zd,GA,Fk,this,GC]
theorem Ww (a b:Int):(a==b)=decide (a=b):=by rw[Bool.eq_iff_iff];simp
theorem UK (a b:Int)(j)(h:b≠0):za F (.bin .quo) [.i j a,.i j b] L k=k (.i j (wr j (a.tdiv b))) L:=by
 have:eP j j=true:=by cases j<;>rfl
 simp[za,yC,Zd,GA,Fk,this,GC,wE,Ww,h]
theorem zgX (a b:Int)(j)(h:b≠0):za F (.bin .rem) [.i j a,.i j b] L k=k (.i j (a.tmod b)) L:=by
 have:eP j j=true:=by cases j<;>rfl
 simp[za,yC,Zd,GA,Fk,this,GC,wE,Ww,h]
@[simp] theorem xw (a b:Int)(j):za F (.bin .eql) [.i j a,.i j b] L k=k (.b (decide (a=b))) L:=by
 have:eP j j=true:=by cases j<;>rfl
 simp[za,yC,Zd,GA,Fk,this,GC,wE,Ww]
@[simp] theorem wA (a b:Int)(j):za F (.bin .neq) [.i j a,.i j b] L k=k (.b (decide (a≠b))) L:=by
 have:eP j j=true:=by cases j<;>rfl
 simp[za,yC,Zd,GA,Fk,this,GC,wE,Ww]
@[simp] theorem yP (a b:Int)(j):za F (.bin .lss) [.i j a,.i j b] L k=k (.b (decide (a<b))) L:=by
 have:eP j j=true:=by cases j<;>rfl
 simp[za,yC,Zd,GA,Fk,this,GC,Zk]
@[simp] theorem zd6 (a b:Int)(j):za F (.bin .leq) [.i j a,.i j b] L k=k (.b (decide (a≤b))) L:=by
 have:eP j j=true:=by cases j<;>rfl
 simp[za,yC,Zd,GA,Fk,this,GC,Zk,←Int.not_lt]
@[simp] theorem vT (a b:Int)(j):za F (.bin .gtr) [.i j a,.i j b] L k=k (.b (decide (b<a))) L:=by
 have:eP j j=true:=by cases j<;>rfl
 simp[za,yC,Zd,GA,Fk,this,GC,Zk]
@[simp] theorem vg (a b:Int)(j):za F (.bin .geq) [.i j a,.i j b] L k=k (.b (decide (b≤a))) L:=by
 have:eP j j=true:=by cases j<;>rfl
 simp[za,yC,Zd,GA,Fk,this,GC,Zk,←Int.not_lt]
@[simp] theorem znE (o x y):za F (.Qj o) [.s x,.s y] L k=WN (Nr o x y) L k:=zO rfl
@[simp] theorem zn6 (ng:Bool)(x y:Bool):za F (.eq ng .bool) [.b x,.b y] L k=k (.b ((x==y) != ng)) L:=zO rfl
theorem zi4 (ng:Bool)(x y):za F (.eq ng .ptr) [.p x,.p y] L k=WN ((P3 L x y).map fun r=>.b (r != ng)) L k:=zO rfl
@[simp] theorem Yc (ng:Bool):za F (.eq ng .ptr) [.p none,.p none] L k=k (.b (!ng)) L:=by cases ng<;>rfl
@[simp] theorem wR (ng:Bool)(a):za F (.eq ng .ptr) [.p (some a),.p none] L k=k (.b ng) L:=by cases ng<;>rfl
@[simp] theorem zi3 (ng:Bool)(a):za F (.eq ng .ptr) [.p none,.p (some a)] L k=k (.b ng) L:=by cases ng<;>rfl
@[simp] theorem zi2 (ng:Bool)(a b c):za F (.eq ng .slnil) [.sl none a b c,.sl none 0 0 0] L k=k (.b (!ng)) L:=by cases ng<;>rfl
@[simp] theorem zi1 (ng:Bool)(r a b c):za F (.eq ng .slnil) [.sl (some r) a b c,.sl none 0 0 0] L k=k (.b ng) L:=by cases ng<;>rfl
@[simp] theorem zj0 (ng:Bool):za F (.eq ng .ot) [.m none,.m none] L k=k (.b (!ng)) L:=by cases ng<;>rfl
@[simp] theorem zjZ (ng:Bool)(r):za F (.eq ng .ot) [.m (some r),.m none] L k=k (.b ng) L:=by cases ng<;>rfl
theorem zbV (ng:Bool)(fs x y):za F (.eq ng (.agg fs)) [.agg x,.agg y] L k=WN ((LN x y fs).map fun r=>.b (r != ng)) L k:=zO rfl
@[simp] theorem yf (x:Bool):za F (.un .not) [.b x] L k=k (.b (!x)) L:=zO rfl
@[simp] theorem zi0 (n:Int)(j):za F (.un .neg) [.i j n] L k=k (.i j (wr j (0-n))) L:=zO rfl
@[simp] theorem znQ (n:Int)(i j):za F (.TV j) [.i i n] L k=k (.i j (wr j n)) L:=zO rfl
@[simp] theorem znP (x):za F .TU [.s x] L k=k (.s x) L:=zO rfl
@[simp] theorem znH (t x):za F (.RS t) [x] L k=k (.FC t x) L:=zO rfl
@[simp] theorem znI (f n vs):za F (.HD f n) vs L k=k (.fn f (vs.take n) (vs.drop n)) L:=zO rfl
@[simp] theorem YX (s lo hi mx vs):za F (.slc s lo hi mx) vs L k=WN (Fm s lo hi mx vs) L k:=zO rfl
@[simp] theorem znD (lo hi vs):za F (.Qh lo hi) vs L k=WN (zhB lo hi vs) L k:=zO rfl
@[simp] theorem zk (off n o):za F (.aj off) [.p (some (n,o))] L k=k (.p (some (n,o+off))) L:=zO rfl
@[simp] theorem zn5 (off sz l):za F (.fld off sz) [.agg l] L k=WN (zR l off sz) L k:=zO rfl
theorem zhM (s n o len c e:Nat)(i)(x:Int)(h0:0≤x)(h1:x<len)(h:PM AB):Mv s h [.sl (some (n,o)) len c e,.i i x]=some (.p (some (n,o+x.toNat * s))):=by
 obtain⟨m,rfl⟩:=Int.eq_ofNat_of_zero_le h0
 have:Nat.blt m len=true:=by rw[yV];simp;omega
 show (bif Nat.blt m len then _ else _)=_
 rw[this];rfl
theorem yn (s n o len c e:Nat)(i)(x:Int)(h0:0≤x)(h1:x<len):za F (.aX s) [.sl (some (n,o)) len c e,.i i x] L k=k (.p (some (n,o+x.toNat * s))) L:=by
 simp[za,yC,Zd,zhM s n o len c e i x h0 h1]
@[simp] theorem yi (n l):za F (.ext n) [.ay l] L k=WN l[n]? L k:=zO rfl
@[simp] theorem zjY (a n c e):za F .ax [.sl a n c e] L k=k (.i .i64 n) L:=zO rfl
@[simp] theorem znN (x):za F .RV [.s x] L k=k (.i .i64 x.length) L:=zO rfl
@[simp] theorem znO (n x):za F (.RW n) [x] L k=k (.i .i64 n) L:=zO rfl
@[simp] theorem znJ (a b:Int)(j):za F .min [.i j a,.i j b] L k=k (.i j (min a b)) L:=by
 have:eP j j=true:=by cases j<;>rfl
 simp only[za,yC,Zd,Mu,LO,this,cond_true,WN,Zk]
 congr 2
 by_cases h:b<a
 ·simp[h];omega
 ·simp[h];omega
@[simp] theorem znM (a b:Int)(j):za F .max [.i j a,.i j b] L k=k (.i j (max a b)) L:=by
 have:eP j j=true:=by cases j<;>rfl
 simp only[za,yC,Zd,zjd,LO,this,cond_true,WN,Zk]
 congr 2
 by_cases h:a<b
 ·simp[h];omega
 ·simp[h];omega
@[simp] theorem znL (a b c:Int)(j):za F .max [.i j a,.i j b,.i j c] L k=k (.i j (max (max a b) c)) L:=by
 have:eP j j=true:=by cases j<;>rfl
 simp only[za,yC,Zd,zjd,LO,this,cond_true,WN,Zk]
 congr 2
 by_cases h:a<b
 ·simp only[h,decide_true,cond_true]
  by_cases h2:b<c
  ·simp[h2];omega
  ·simp[h2];omega
 ·simp only[h,decide_false,cond_false]
  by_cases h2:a<c
  ·simp[h2];omega
  ·simp[h2];omega
@[simp] theorem zt (sz a):za F (.ld sz) [.p (some a)] L k=WN (aq L a sz) L k:=zO rfl
@[simp] theorem zhs (z ok vs):za F (.mY z ok) vs L k=WN (vi z ok L vs) L k:=zO rfl
@[simp] theorem znG (vs):za F .HC vs L k=WN (zcj L vs) L k:=zO rfl
@[simp] theorem y4 (z):za F (.alloc z) [] L k=∀b,L b=none→k (.p (some (b,0))) (L.put b (.raw (.cells z))):=zO rfl
@[simp] theorem vt (z len size ps vs):za F (.aC z len size ps) vs L k=Xw (Zx z len size ps) vs L k:=zO rfl
@[simp] theorem vu (v):za F .box [v] L k=Xw Fl [v] L k:=zO rfl
@[simp] theorem zjX:za F .iH [] L k=∀b,L b=none→k (.m (some b)) (L.put b (.raw (.map []))):=zO rfl
theorem zhq (z bytes i j)(l c:Nat)(h:l≤c)(h2:c * bytes≤70368744177664):za F (.FA z bytes) [.i i l,.i j c] L k=∀b,L b=none→k (.sl (some (b,0)) l c 0) (L.put b (.raw (.cells (y7 z c)))):=by
 have e:∀b,zfU z bytes b [.i i l,.i j c]=some (.cells (y7 z c),.sl (some (b,0)) l c 0):=by
  intro b
  show (bif Nat.ble l c&&Nat.ble (c * bytes) 70368744177664 then _ else _)=_
  simp[zp,h,h2]
 simp[za,Xw,e]
@[simp] theorem yj (sz a v):za F (.st sz) [.p (some a),v] L k=jy sz L k [.p (some a),v]:=zO rfl
@[simp] theorem znF (vs):za F .oh vs L k=Ug L k vs:=zO rfl
@[simp] theorem znK (vs):za F .om vs L k=Uj L k vs:=zO rfl
@[simp] theorem Xz (s b vs):za F (.app s b) vs L k=Xp s b L k vs:=zO rfl
@[simp] theorem zn8 (z vs):za F (.Nn z) vs L k=ziT z L k vs:=zO rfl
@[simp] theorem zn7 (s vs):za F (.TW s) vs L k=zjK s L k vs:=zO rfl
@[simp] theorem xy (f vs):za F (.call f) vs L k=zd F f vs L k:=zO rfl
@[simp] theorem zj1 (f fst cap vs):za F .eX (.fn f fst cap::vs) L k=zd F f (fst++vs++cap) L k:=zO rfl
end
@[simp] theorem zjC (v:AV)(Q:AV→Lg→Prop)(L:Lg):zm (some v) Q L=∃L',zx L L'∧Q v L':=zO rfl
@[simp] theorem ziG (c:List AV)(n:Nat):zo c n []=c:=by simp[zo]
@[simp] theorem zjP (x):(AV.b x).cellsOf=some [.b x]:=zO rfl
@[simp] theorem zjO (j x):(AV.i j x).cellsOf=some [.i j x]:=zO rfl
@[simp] theorem zjL (x):(AV.s x).cellsOf=some [.s x]:=zO rfl
@[simp] theorem zjM (x):(AV.p x).cellsOf=some [.p x]:=zO rfl
@[simp] theorem zjN (x):(AV.m x).cellsOf=some [.m x]:=zO rfl
@[simp] theorem ziU (a b c d):(AV.sl a b c d).cellsOf=some [.sl a b c d]:=zO rfl
@[simp] theorem ziV (a b c):(AV.fn a b c).cellsOf=some [.fn a b c]:=zO rfl
@[simp] theorem zit (a b):(AV.FC a b).cellsOf=some [.FC a b]:=zO rfl
@[simp] theorem zhf:(AV.mX).cellsOf=some [.mX]:=zO rfl
@[simp] theorem zhg:(AV.iF).cellsOf=some [.iF]:=zO rfl
theorem vN (l:List AV)(h:l.all AV.one=true):(AV.agg l).cellsOf=some l:=by simp[AV.cellsOf,h]
@[simp] theorem zqD (x):(AV.b x).one=true:=zO rfl
@[simp] theorem zqC (j x):(AV.i j x).one=true:=zO rfl
@[simp] theorem zqz (x):(AV.s x).one=true:=zO rfl
@[simp] theorem zqA (x):(AV.p x).one=true:=zO rfl
@[simp] theorem zqB (x):(AV.m x).one=true:=zO rfl
@[simp] theorem zoE (a b c d):(AV.sl a b c d).one=true:=zO rfl
@[simp] theorem zoF (a b c):(AV.fn a b c).one=true:=zO rfl
abbrev TF:=Nat→Option aT
abbrev TQ:=AV→Lg→Prop
abbrev TK:=Env→Lg→Prop
def nE:Nat→Kn:=fun _ _ _ _=>False
section
variable {F:TF} {l t:Env} {L:Lg} {k:Kn} {ke:Nat→Kn} {kr:Kn} {Z:Prop}
theorem wpS {a b:br}{G:Kn}(h:∀l t L,wp F b l t L k ke kr=G l t L)(e:wp F a l t L G ke kr=Z):wp F (.seq a b) l t L k ke kr=Z:=by
 rw[←e,zhn]
 exact congrArg (fun X:Kn=>wp F a l t L X ke kr) (funext fun l=>funext fun t=>funext fun L=>h l t L)
theorem wpC {c:fT}{x y:br}{X Y:Prop}(hx:wp F x l t L k ke kr=X)(hy:wp F y l t L k ke kr=Y)(e:zn (G3 l t c) X Y=Z):wp F (.cond c x y) l t L k ke kr=Z:=by
 rw[←e,zf7,hx,hy]
theorem wpL {c:br}{B:Env→Env→Lg→TK→Prop}(h:∀l t L (k:TK),wp F c l t L (fun l _ L=>k l L) ke kr=B l t L k)(e:xA B l L=Z):wp F (.loop c) l t L k ke kr=Z:=by
 rw[←e,zf6]
 exact congrArg (fun B=>xA B l L) (funext fun l=>funext fun t=>funext fun L=>funext fun k=>h l t L k)
end
end
section
def Lg.two (r b:Nat)(c d:LC):Lg:=fun m=>if m=r then some c else if m=b then some d else none
theorem zcr (L:Lg){r b:Nat}(h:b≠r)(c d:LC):(Lg.two r b c d).ak L=(L.put b d).put r c:=by
 funext m
 unfold Lg.ak Lg.two Lg.put
 by_cases h1:m=r
 ·simp[h1]
 ·by_cases h2:m=b
  ·subst h2;simp[h1]
  ·simp[h1,h2]
theorem zcs (M L:Lg){r:Nat}(h:M r≠none):M.ak (L.del r)=M.ak L:=by
 funext m
 unfold Lg.ak Lg.del
 by_cases h1:m=r
 ·subst h1
  cases h2:M m with
  | none=>exact absurd h2 h
  | some c=>rfl
 ·simp[h1]
theorem y3 {F:Nat→Option aT}{f:Nat}{vs:List AV}{L:Lg}{Q:AV→Lg→Prop}{r:Nat}{P:Hp→Prop}(e:L r=some (.abs P))
  (h:∀hm,P hm→∃M:Lg,Sat M hm∧M r≠none∧((∀b c,M b=some c→b≠r→L b=none)→zd F f vs (M.ak L) Q)):zd F f vs L Q:=by
 apply zd.unfold e
 intro hm hP
 obtain⟨M,hs,hr,hc⟩:=h hm hP
 refine⟨M,hs,fun hf=>?_⟩
 rw[zcs M L hr]
 exact hc hf
theorem zx.shut {L M:Lg}{r:Nat}{P:Hp→Prop}(hf:∀b c,M b=some c→b≠r→L b=none)(hr:(∃cs,M r=some (.raw (.cells cs)))∨∃Q,M r=some (.abs Q))(hP:∀h,Sat M h→P h):zx (M.ak L) (L.put r (.abs P)):=by
 have h1:=zfW (L:=M.ak L) (M:=M) (r:=r) (P:=P) (fun b c hb=>by simp[Lg.ak,hb]) hr hP
 have h2:((M.ak L).minus M).put r (.abs P)=L.put r (.abs P):=by
  funext m
  unfold Lg.put
  by_cases hm:m=r
  ·simp[hm]
  ·simp only[hm,if_false]
   cases h3:M m with
   | none=>simp[Lg.ak,Lg.minus,h3]
   | some c=>simp only[Lg.minus,h3];exact (hf m c h3 hm).symm
 rw[h2]at h1
 exact h1
theorem yZ {L Lf:Lg}{r:Nat}{P:Hp→Prop}(ids:Nat→Prop)(hr:ids r)(h1:∀b c,¬ids b→L b=some c→Lf b=some c)(h2:∀b,ids b→b≠r→L b=none)
  (h3:(∃cs,Lf r=some (.raw (.cells cs)))∨∃Q,Lf r=some (.abs Q)) (hP:∀(M:Lg) h,(∀b,ids b→M b=Lf b)→(∀b,¬ids b→M b=none)→Sat M h→P h):zx Lf (L.put r (.abs P)):=by
 classical
 let M:Lg:=fun b=>if ids b then Lf b else none
 have hM:∀b,ids b→M b=Lf b:=fun b hb=>by simp[M,hb]
 have hN:∀b,¬ids b→M b=none:=fun b hb=>by simp[M,hb]
 have e1:zx Lf (M.ak L):=by
  apply zx.drop
  intro b c hb
  unfold Lg.ak at hb
  by_cases hi:ids b
  ·rw[hM b hi]at hb
   cases h4:Lf b with
   | some d=>rw[h4]at hb;exact hb
   | none =>
    rw[h4]at hb
    by_cases Ae:b=r
    ·subst Ae;rcases h3 with⟨cs,h3⟩ | ⟨Q,h3⟩<;>rw[h3]at h4<;>cases h4
    ·rw[h2 b hi Ae]at hb;cases hb
  ·rw[hN b hi]at hb
   exact h1 b c hi hb
 refine e1.trans (zx.shut ?_ ?_ fun h hs=>hP M h hM hN hs)
 ·intro b c hb Ae
  by_cases hi:ids b
  ·exact h2 b hi Ae
  ·rw[hN b hi]at hb;cases hb
 ·rw[hM r hr];exact h3
theorem vS {F:Nat→Option aT}{f:Nat}{vs:List AV}{L:Lg}{Q:AV→Lg→Prop}{r:Nat}{P:Hp→Prop}(e:L r=some (.abs P))
  (h:∀hm,P hm→∃b c d,b≠r∧Sat (Lg.two r b c d) hm∧(L b=none→zd F f vs ((L.put b d).put r c) Q)):zd F f vs L Q:=by
 apply y3 e
 intro hm hP
 obtain⟨b,c,d,hb,hs,hc⟩:=h hm hP
 refine⟨Lg.two r b c d,hs,by simp[Lg.two],fun hf=>?_⟩
 rw[zcr L hb]
 exact hc (hf b d (by simp[Lg.two,hb]) hb)
theorem wQ {L:Lg}{r b:Nat}{cs:List AV}{d:LC}{P:Hp→Prop}(hb:b≠r)(hf:L b=none)(hP:∀h,Sat (Lg.two r b (.raw (.cells cs)) d) h→P h):zx ((L.put b d).put r (.raw (.cells cs))) (L.put r (.abs P)):=by
 rw[←zcr L hb]
 refine zx.shut ?_ (.inl ⟨cs,by simp[Lg.two]⟩) hP
 intro b' c' h1 h2
 unfold Lg.two at h1
 simp only[h2,if_false]at h1
 split at h1
 ·rename_i h3;subst h3;exact hf
 ·cases h1
theorem ziB (L:Lg){n m:Nat}(h:n≠m)(c d e:LC):((L.put n c).put m d).put n e=(L.put n e).put m d:=by
 rw[yJ _ (Ne.symm h),zA]
@[simp] theorem zle (j:IntKind):eP j j=true:=by cases j<;>rfl
theorem UA (n:Nat):Nat.beq n n=true:=by rw[zq];simp
@[simp] theorem znU (j:IntKind)(x:Int):ve (.i j x) (.i j x)=true:=by simp[ve,Yg,wE]
@[simp] theorem znV (x:Bool):ve (.b x) (.b x)=true:=by simp[ve,Yg]
@[simp] theorem znS (x:Option (Nat×Nat)):ve (.p x) (.p x)=true:=by cases x<;>simp[ve,Yg,UA]
@[simp] theorem znT (x:Option Nat):ve (.m x) (.m x)=true:=by cases x<;>simp[ve,Yg,UA]
@[simp] theorem zj8 (a:Option (Nat×Nat))(n c e:Nat):ve (.sl a n c e) (.sl a n c e)=true:=by cases a<;>simp[ve,Yg,UA]
theorem xj (c:List AV)(o:Nat)(v:AV)(h:o<c.length):zo c o [v]=c.set o v:=by
 unfold zo
 rw[List.set_eq_take_append_cons_drop]
 simp[h]
theorem zj {L:Lg}{b o:Nat}{c:List AV}(h:L b=some (.raw (.cells c))):aq L (b,o) none=c[o]?:=by
 simp[aq,h,AB.read,zR]
theorem yc {L:Lg}{b o n:Nat}{c:List AV}(h:L b=some (.raw (.cells c)))(hn:o+n≤c.length):aq L (b,o) (some n)=some (.agg ((c.drop o).take n)):=by
 simp[aq,h,AB.read,zR,cut,zp,hn]
theorem zez {L:Lg}{b o:Nat}{c:List AV}(h:L b=some (.raw (.ro c))):aq L (b,o) none=c[o]?:=by
 simp[aq,h,AB.read,zR]
theorem V7 {L:Lg}{b o n:Nat}{c:List AV}(h:L b=some (.raw (.ro c)))(hn:o+n≤c.length):aq L (b,o) (some n)=some (.agg ((c.drop o).take n)):=by
 simp[aq,h,AB.read,zR,cut,zp,hn]
theorem zD {L:Lg}{b o:Nat}{c:List AV}{v:AV}{k:AV→Lg→Prop}(h:L b=some (.raw (.cells c)))(ho:o<c.length)(hv:v.cellsOf=some [v]):jy 1 L k [.p (some (b,o)),v]=k .bad (L.put b (.raw (.cells (c.set o v)))):=by
 have h1:v.one=true:=by
  have:=vM hv
  simpa using this
 have h2:o+1≤c.length:=ho
 simp[jy,hv,mH,h,h1,xj c o v ho,h2]
theorem zu {L:Lg}{b o n:Nat}{c l:List AV}{k:AV→Lg→Prop}(h:L b=some (.raw (.cells c)))(hl:l.all AV.one=true)(hn:l.length=n)(ho:o+n≤c.length):jy n L k [.p (some (b,o)),.agg l]=k .bad (L.put b (.raw (.cells (zo c o l)))):=by
 subst hn
 have hl':∀x,x∈l→x.one=true:=List.all_eq_true.1 hl
 simp only[jy,vN l hl,if_true,mH,h,ho,hl,and_self]
theorem wa (l:List AV):(AV.agg l).cellsOf=if l.all AV.one=true then some l else none:=by
 simp only[AV.cellsOf]
 cases h:l.all AV.one<;>simp
theorem Yp (v:AV)(L:Lg)(k:AV→Lg→Prop){l:List AV}(hv:v.cellsOf=some l):Xw Fl [v] L k=∀b,L b=none→k (.p (some (b,0))) (L.put b (.raw (.cells l))):=by
 simp[Xw,Fl,hv]
theorem zL (l:List AV)(L:Lg)(k:AV→Lg→Prop)(h:l.all AV.one=true):Xw Fl [.agg l] L k=∀b,L b=none→k (.p (some (b,0))) (L.put b (.raw (.cells l))):=Yp _ L k (vN l h)
@[simp] theorem zgu (x y:AV)(L:Lg)(k:AV→Lg→Prop)(h1:x.one=true)(h2:y.one=true):Xw Fl [.agg [x,y]] L k=∀b,L b=none→k (.p (some (b,0))) (L.put b (.raw (.cells [x,y]))):=zL _ L k (by simp[h1,h2])
@[simp] theorem zgt (x y z:AV)(L:Lg)(k:AV→Lg→Prop)(h1:x.one=true)(h2:y.one=true)(h3:z.one=true):Xw Fl [.agg [x,y,z]] L k=∀b,L b=none→k (.p (some (b,0))) (L.put b (.raw (.cells [x,y,z]))):=zL _ L k (by simp[h1,h2,h3])
@[simp] theorem zgs (x y z u v:AV)(L:Lg)(k:AV→Lg→Prop)(h1:x.one=true)(h2:y.one=true)(h3:z.one=true)(h4:u.one=true)(h5:v.one=true):Xw Fl [.agg [x,y,z,u,v]] L k=∀b,L b=none→k (.p (some (b,0))) (L.put b (.raw (.cells [x,y,z,u,v]))):=zL _ L k (by simp[h1,h2,h3,h4,h5])
@[simp] theorem ziL (j n)(L:Lg)(k:AV→Lg→Prop):Xw Fl [.i j n] L k=∀b,L b=none→k (.p (some (b,0))) (L.put b (.raw (.cells [.i j n]))):=Yp _ L k rfl
@[simp] theorem ziM (n)(L:Lg)(k:AV→Lg→Prop):Xw Fl [.b n] L k=∀b,L b=none→k (.p (some (b,0))) (L.put b (.raw (.cells [.b n]))):=Yp _ L k rfl
@[simp] theorem ziK (n)(L:Lg)(k:AV→Lg→Prop):Xw Fl [.p n] L k=∀b,L b=none→k (.p (some (b,0))) (L.put b (.raw (.cells [.p n]))):=Yp _ L k rfl
@[simp] theorem zhY (a b c d)(L:Lg)(k:AV→Lg→Prop):Xw Fl [.sl a b c d] L k=∀r,L r=none→k (.p (some (r,0))) (L.put r (.raw (.cells [.sl a b c d]))):=Yp _ L k rfl
theorem yg {z:List AV}{len size:Nat}{ps:List Nat}{vs c:List AV}(L:Lg)(k:AV→Lg→Prop)(h:zF (y7 z len) (ps.map fun i=>(i * size,size)) vs=some c)(h1:c.all AV.one=true) :
  Xw (Zx z len size ps) vs L k=∀b,L b=none→k (.sl (some (b,0)) len len 0) (L.put b (.raw (.cells c))):=by
 simp[Xw,Zx,h,h1]
theorem U6 (v:AV):∀n,y7 [v] n=List.replicate n v
 | 0=>rfl
 | n+1=>by simp[y7,U6 v n,List.replicate_succ]
theorem zN {B:Env→Env→Lg→(Env→Lg→Prop)→Prop}{l:Env}{L:Lg}(I:Nat→Env→Lg→Prop)(n:Nat)(h0:I n l L)(h:∀n l t L,I n l L→B l t L (fun l L=>∃m,m<n∧I m l L)):xA B l L:=⟨I,⟨n,h0⟩,h⟩
@[simp] theorem ziN (v:AV)(r:List AV)(i:Nat):zI (v::r) i=(zI r (i+1)).put i v:=rfl
@[simp] theorem zjl (i n:Nat):zI [] i n=.bad:=rfl
@[simp] theorem zqL (l t:Env)(v:AV):G3 l t (.c v)=v:=rfl
theorem zX (L:Lg){b o n:Nat}{c:List AV}(v:AV)(h:L b=some (.raw (.cells c)))(hn:o+n≤c.length):yz Env.nil Env.nil L [.cell (.c (.p (some (b,o)))) (some n),.tmp (.c v)]=some (.ay [.agg ((c.drop o).take n),v]):=by
 simp[yz,Qd,YM,yc h hn]
def ZM (L:Lg)(v:AV)(cs:List AV)(n size:Nat):Prop :=
 (n=0∧cs=[]∧v=.sl none 0 0 0)∨∃b,0<n∧v=.sl (some (b,0)) n n size∧L b=some (.raw (.cells cs))∧cs.length=n * size
def au:AV→Option Nat
 | .sl (some (b,_)) _ _ _=>some b
 | _=>none
def Lg.ij (L:Lg):Option Nat→Lg
 | none=>L
 | some b=>L.del b
def xC (L:Lg)(v:AV)(cs:List AV)(n size:Nat)(L':Lg):Prop :=
 (n=0∧cs=[]∧v=.sl none 0 0 0∧L'=L)∨∃b ex,L b=none∧0<n∧v=.sl (some (b,0)) n n ex∧cs.length=n * size∧L'=L.put b (.raw (.cells cs))
def yu (L L':Lg):Prop:=∀b c,L b=some c→L' b=some c
theorem yu.refl (L:Lg):yu L L:=fun _ _ h=>h
theorem yu.trans {L M K:Lg}(h:yu L M)(k:yu M K):yu L K:=fun b c e=>k b c (h b c e)
theorem yu.put {L M:Lg}(h:yu L M){b:Nat}(hb:L b=none)(c:LC):yu L (M.put b c):=fun d e hd=>by
 have:d≠b:=by rintro rfl;rw[hb]at hd;cases hd
 rw[zb _ _ _ this];exact h d e hd
theorem yu.del {L M:Lg}(h:yu L M){b:Nat}(hb:L b=none):yu L (M.del b):=fun d e hd=>by
 have:d≠b:=by rintro rfl;rw[hb]at hd;cases hd
 rw[yL,if_neg this];exact h d e hd
theorem yu.ij {L M:Lg}(h:yu L M){o:Option Nat}(hb:∀b,o=some b→L b=none):yu L (M.ij o):=by
 cases o with
 | none=>exact h
 | some b=>exact h.del (hb b rfl)
theorem yu.none {L M:Lg}(h:yu L M){b:Nat}(hb:M b=none):L b=none:=by
 cases e:L b with
 | none=>rfl
 | some c=>rw[h b c e]at hb;cases hb
theorem yu.cj {L M:Lg}(h:yu L M):zx M L:=zx.drop h
theorem ZM.app {L:Lg}{v:AV}{cs:List AV}{n size bytes:Nat}(h:ZM L v cs n size)(hsz:0<size){src:AV}{new:List AV}{m c e:Nat}{a:Option (Nat×Nat)}(hs:src=.sl a m c e)(hm:0<m)(hr:zH L a (m * size)=some new)(hn:new.length=m * size)(h1:new.all AV.one=true)(hb:(n+m) * bytes≤70368744177664)
  {k:AV→Lg→Prop} (hk:∀b,L b=none→k (.sl (some (b,0)) (n+m) (n+m) size) ((L.ij (au v)).put b (.raw (.cells (cs++new))))):Xp size bytes L k [v,src]:=by
 subst hs
 rcases h with⟨rfl,rfl,rfl⟩ | ⟨b,h0,rfl,hL,hl⟩
 ·simp only[Xp,hr,Ia,h1,true_and]
  have h2:¬(0+m≤0):=by omega
  simp only[h2,if_false,hb,true_and,Nat.zero_mul,zH,Zn,if_true,List.nil_append]
  exact hk
 ·simp only[Xp,hr,Ia,h1,true_and]
  have h2:¬(n+m≤n):=by omega
  have h3:zH L (some (b,0)) (n * size)=some cs:=by
   simp only[zH,hL,AB.read,cut,zp,Nat.zero_add,hl,Nat.le_refl,decide_true,cond_true,List.drop_zero]
   rw[←hl,List.take_length]
  have h4:¬size=0:=by omega
  simp only[h2,if_false,hb,true_and,h3,Zn,h4,if_true,hL]
  exact hk
theorem ZM.IP {L:Lg}{v:AV}{cs new:List AV}{n m size b:Nat}(h:ZM L v cs n size)(hm:0<m)(hn:new.length=m * size):ZM ((L.ij (au v)).put b (.raw (.cells (cs++new)))) (.sl (some (b,0)) (n+m) (n+m) size) (cs++new) (n+m) size:=by
 refine .inr ⟨b,by omega,rfl,ze _ _ _,?_⟩
 rcases h with⟨rfl,rfl,rfl⟩ | ⟨b,h0,rfl,hL,hl⟩
 ·simp[hn]
 ·simp[hl,hn,Nat.add_mul]
theorem w9 {L L':Lg}{size bytes len cap ex m c e:Nat}{a b:Option (Nat×Nat)}{new old:List AV}{k:AV→Lg→Prop}(hr:zH L b (m * size)=some new)(h1:new.all AV.one=true)(hlt:¬len+m≤cap)
  (hb:(len+m) * bytes≤70368744177664) (ho:zH L a (len * size)=some old) (hg:Zn L a ex size=some L') (hk:∀b,L b=none→k (.sl (some (b,0)) (len+m) (len+m) size) (L'.put b (.raw (.cells (old++new))))) :
  Xp size bytes L k [.sl a len cap ex,.sl b m c e]:=by
 simp only[Xp,hr,Ia,h1,true_and,hlt,if_false,hb,ho,hg]
 exact hk
theorem Wz {L L':Lg}{size bytes len cap ex m c e r o:Nat}{b:Option (Nat×Nat)}{new:List AV}{k:AV→Lg→Prop}(hr:zH L b (m * size)=some new)(h1:new.all AV.one=true)(hle:len+m≤cap)(hm:m≠0)
  (hw:mH L (r,o+len * size) new=some L') (hk:k (.sl (some (r,o)) (len+m) cap ex) L'):Xp size bytes L k [.sl (some (r,o)) len cap ex,.sl b m c e]:=by
 simp only[Xp,hr,Ia,h1,true_and,hle,if_true,hm,if_false,hw]
 exact hk
end
section
open Go.RowKit
structure AR (W:World)(S:St)(β:Bt)(L:Lg):Prop where
 mod:Mod S L
 rel:Rel β W.heap.size S.h W
 wf:S.wf
 free:∀k,S.nx≤k→β k=none
theorem AR.nil (W:World):AR W ⟨.nil,0⟩ (fun _=>none) Lg.nil:=⟨zh1 0,zhF W,zi5 0,fun _ _=>rfl⟩
def Bt.put (β:Bt)(n:Nat)(x:Nat×Nat×Nat):Bt:=fun m=>if m=n then some x else β m
theorem AR.ext {W:World}{S:St}{β:Bt}{L:Lg}(h:AR W S β L)(x:Nat×Nat×Nat):Ext β (Bt.put β S.nx x):=by
 intro n y e
 unfold Bt.put
 split
 ·rename_i h9;subst h9;rw[h.free _ (Nat.le_refl _)]at e;cases e
 ·exact e
theorem AR.slice {W:World}{S:St}{β:Bt}{L:Lg}(h:AR W S β L){b off:Nat}{c:List AV}{cur t fr}(hb:W.heap[b]?=some (.cells cur t fr))(hc:vn β c off cur) :
  AR W ⟨S.h.set S.nx (some (.ro c)),S.nx+1⟩ (Bt.put β S.nx (b,off,0)) (L.put S.nx (.raw (.ro c))):=by
 have he:=h.ext (b,off,0)
 have hlt:b<W.heap.size:=(Array.getElem?_eq_some_iff.1 hb).1
 refine⟨h.mod.new _,⟨?_,?_,?_,h.rel.le⟩,?_,?_⟩
 ·intro n bl b' o z hg hn
  rw[zS]at hg
  unfold Bt.put at hn
  split at hg
  ·rename_i h9
   rw[if_pos h9]at hn
   cases hg;cases hn
   exact⟨cur,t,fr,hb,hc.mono he⟩
  ·rename_i h9
   rw[if_neg h9]at hn
   exact (h.rel.cr n bl b' o z hg hn).mono he
 ·intro n m bl bm b' x y hg hm ho hn hm2
  rw[zS]at hg hm
  unfold Bt.put at hn hm2
  split at hg
  ·cases hg;simp[AB.own]at ho
  ·rename_i h9
   rw[if_neg h9]at hn
   have hbase:=(h.rel.cr n bl b' x.1 x.2 hg hn).le ho
   split at hm
   ·rename_i h8
    rw[if_pos h8]at hm2
    simp only[Option.some.injEq,Prod.mk.injEq]at hm2
    have:=hm2.1
    have h3:=h.rel.lt n b' x hn
    have h4:=h.rel.le
    omega
   ·rename_i h8
    rw[if_neg h8]at hm2
    exact h.rel.inj n m bl bm b' x y hg hm ho hn hm2
 ·intro n b' x hn
  unfold Bt.put at hn
  split at hn
  ·cases hn;exact hlt
  ·exact h.rel.lt n b' x hn
 ·intro n bl hg
  rw[zS]at hg
  split at hg
  ·rename_i h9;subst h9;exact Nat.lt_succ_self _
  ·exact Nat.lt_succ_of_lt (h.wf n bl hg)
 ·intro k hk
  have h9:k≠S.nx:=by have:S.nx+1≤k:=hk;omega
  unfold Bt.put
  rw[if_neg h9]
  exact h.free k (by have:S.nx+1≤k:=hk;omega)
theorem AR.calls {W:World}{S:St}{β:Bt}{L:Lg}(h:AR W S β L){P:Program}{F:Nat→Option aT}(hm:P.follows .mixedOrders=true)(hF:W5 P F){f:Nat}{vs:List AV}{as:Array Value}(hv:aS β vs as.toList)
  (hc:zd F f vs L fun v _=>v=.b true):Calls P f as W fun e w'=>e=.returned (.bool true)∧Below W.heap.size W w':=by
 obtain⟨n,v,S',h1,L',h2,rfl⟩:=hc S h.mod
 exact zdO hm hF h1 h.wf hv h.rel (fun k h3 _=>h.free k h3)
def NG (L:Lg)(v:AV)(cs:List AV)(n size:Nat):Prop:=cs.length=n * size∧((n=0∧v=.sl none 0 0 0)∨∃b cap,v=.sl (some (b,0)) n cap 0∧L b=some (.raw (.ro cs)))
theorem NG.len {F:Nat→Option aT}{L:Lg}{a:AV}{cs:List AV}{n size:Nat}(h:NG L a cs n size)(M:Lg)(k:AV→Lg→Prop):za F .ax [a] M k=k (.i .i64 n) M:=by
 obtain⟨_,⟨rfl,rfl⟩ | ⟨b,cap,rfl,_⟩⟩:=h
 ·simp
 ·simp
theorem NG.get {L:Lg}{a:AV}{cs:List AV}{n size:Nat}(h:NG L a cs n size){i:Nat}(hi:i<n):∃b cap,a=.sl (some (b,0)) n cap 0∧L b=some (.raw (.ro cs)):=by
 obtain⟨_,⟨rfl,rfl⟩ | ⟨b,cap,rfl,e⟩⟩:=h
 ·omega
 ·exact⟨b,cap,rfl,e⟩
def eB (l:List Int):List AV:=l.map fun n=>.i .i64 n
end
section
open Go.RowKit
theorem zcM {X:Type}{f:X→List AV}{z:Nat}:∀(l:List X),(∀x∈l,(f x).length=z)→∀(k:Nat) (v:AV),(l.flatMap f)[k]?=some v→∃i j x,l[i]?=some x∧(f x)[j]?=some v∧k=i * z+j
 | [],_,k,v,h=>by simp at h
 | y::r,hz,k,v,h=>by
  have hy:=hz y (by simp)
  rw[List.flatMap_cons]at h
  by_cases hk:k<z
  ·rw[List.getElem?_append_left (by omega)]at h
   exact⟨0,k,y,rfl,h,by omega⟩
  ·rw[List.getElem?_append_right (by omega),hy]at h
   obtain⟨i,j,x,h1,h2,h3⟩:=zcM r (fun x hx=>hz x (by simp[hx])) (k-z) v h
   exact⟨i+1,j,x,by simpa using h1,h2,by rw[Nat.add_mul];omega⟩
theorem zcL {X:Type}{f:X→List AV}{z:Nat}:∀(l:List X),(∀x∈l,(f x).length=z)→(l.flatMap f).length=l.length * z
 | [],_=>by simp
 | y::r,hz=>by
  rw[List.flatMap_cons,List.length_append,hz y (by simp),zcL r (fun x hx=>hz x (by simp[hx])),List.length_cons,Nat.add_mul]
  omega
theorem AR.rows {X:Type}[Inhabited X](f:X→List AV){z:Nat}{H:Type}{enc:TypeId×Value→H}{P:Program}{W:World}{S:St}{β:Bt}{L:Lg}(h:AR W S β L){t e:TypeId}{v:Value}{d:DataW H}{ps:List MemPlace}(ht:P.underlying t=some (.slice e))(hc:P.cellsOf e=z)(hfz:∀x,(f x).length=z)
  (hX:∀n cs y,DataW.trod enc P W 0 (fun _=>true) true n e cs=some y→∃x,aS (fun _=>none) (f x) cs) {base:Nat} (hval:Value.okWide P W .any base t v) (hd:DataW.Trod enc P W 0 (fun _=>true) true t v d ps) :
  ∃(l:List X) (S':St) (β':Bt) (L':Lg) (a:AV),AR W S' β' L'∧Ext β β'∧yu L L'∧VR β' a v∧NG L' a (l.flatMap f) l.length z:=by
 obtain⟨a0,len,cap,rfl⟩:=Go.WideShapes.okWide_slice ht hval
 obtain⟨fuel,hf⟩:=hd
 have hf:DataW.trod enc P W 0 (fun _=>true) true fuel t [.slice a0 len cap]=some (d,ps):=hf
 rcases DataW.trod_slice ht hf with⟨h0,_⟩ | ⟨a,len',cap',elems,rest,n,_,h0,_,hb,hl,hm,hlen,hel,_,_⟩
 ·cases h0
  exact⟨[],S,β,L,_,h,Ext.refl β,yu.refl L,.m9,by simp,.inl ⟨rfl,rfl⟩⟩
 ·cases h0
  have hok:Cell.ok P W .any base t (.slice (some a) len cap):=by
   simp only[Value.okWide,ht,Cell.okWide]at hval
   exact hval
  simp only[Cell.ok,ht]at hok
  obtain⟨_,_,_,hsp,row,cells,hsh,_⟩:=hok
  obtain⟨ab,TZ,asp⟩:=a
  simp only at hsp
  subst hsp
  have zo9:∃cur t fr,W.heap[ab]?=some (.cells cur t fr):=by
   unfold World.shape? at hsh
   split at hsh
   ·rename_i cur el fr hh;exact⟨_,_,_,hh⟩
   ·cases hsh
  obtain⟨cur,tt,fr,hh⟩:=zo9
  have hx:∀i,∃x:X,i<len→∀(j:Nat) (u:AV),(f x)[j]?=some u→∃w,cur[TZ+(i * z+j)]?=some w∧VR (fun _=>none) u w:=by
   intro i
   by_cases hi:i<len
   ·have h1:=hel i hi
    have h2:∃y,elems[i]?=some y:=⟨_,List.getElem?_eq_getElem (by omega)⟩
    obtain⟨y,hy⟩:=h2
    rw[hy,Option.bind_eq_some_iff]at h1
    obtain⟨cs,hcs,hty⟩:=h1
    obtain⟨x,hxv⟩:=hX _ _ _ hty
    refine⟨x,fun _ j u hu=>?_⟩
    obtain⟨w,hw,hr⟩:=hxv.get hu
    refine⟨w,?_,hr⟩
    unfold World.cells? at hcs
    rw[if_pos (by omega)]at hcs
    have hjz:j<z:=by have:=(List.getElem?_eq_some_iff.1 hu).1;rw[hfz]at this;exact this
    have:=mapM_some_get hcs j j (by simp[hc,hjz])
    rw[hw,hc,Go.WideShapes.add_plain,Go.WideShapes.add_plain]at this
    simp only[World.cell?,hh,Option.isSome_none,Bool.false_eq_true,if_false]at this
    rw[←this,Nat.add_assoc]
   ·exact⟨default,fun h9=>absurd h9 hi⟩
  obtain⟨g,hg⟩:=Classical.axiomOfChoice hx
  have hall:∀x∈(List.range len).map g,(f x).length=z:=fun x _=>hfz x
  have EJ:vn β (((List.range len).map g).flatMap f) TZ cur:=by
   intro k u hu
   obtain⟨i,j,x,h1,h2,h3⟩:=zcM _ hall k u hu
   rw[List.getElem?_map]at h1
   simp only[Option.map_eq_some_iff]at h1
   obtain⟨i',h4,h5⟩:=h1
   have hi:i<len∧i'=i:=by
    have h6:=List.getElem?_eq_some_iff.1 h4
    obtain⟨h7,h8⟩:=h6
    simp at h7 h8
    exact⟨h7,h8.symm⟩
   obtain⟨hi,rfl⟩:=hi
   subst h5
   obtain⟨w,hw,hr⟩:=hg i' hi j u h2
   rw[h3]
   exact⟨w,hw,hr.mono (fun _ _ h9=>by cases h9)⟩
  have GU:((List.range len).map g).length=len:=by simp
  refine⟨(List.range len).map g,_,_,_,.sl (some (S.nx,0)) len cap 0,h.slice hh EJ,h.ext _,?_,?_,?_⟩
  ·exact (yu.refl L).put (h.mod.fresh (Nat.le_refl _)) _
  ·exact .sl (b:=ab) (o:=TZ) (z:=0) (by simp[Bt.put]) hl (Nat.le_refl _) (fun _=>rfl) (fun h9=>absurd rfl h9) (.inr (by simp))
  ·exact⟨zcL _ hall,.inr ⟨S.nx,cap,by rw[GU],ze _ _ _⟩⟩
def t3 (x:Int×Int×Int):List AV:=[.i .i64 x.1,.i .i64 x.2.1,.i .i64 x.2.2]
def Qg (l:List (Int×Int×Int)):List AV:=l.flatMap t3
theorem zhU {H:Type}{enc:TypeId×Value→H}{P:Program}{W:World}{e ti:TypeId}{fs:Array Field}(he:P.underlying e=some (.struct fs))(h3:fs.size=3)(FN:∀(i:Nat) (f:Field),fs[i]?=some f→f.offset=i∧f.type=ti)(hi:P.underlying ti=some (.int .i64))(Ep:P.cellsOf ti=1)(hc3:P.cellsOf e=3)
  (n:Nat) (cs:List Value) (y:DataW H×List MemPlace) (h:DataW.trod enc P W 0 (fun _=>true) true n e cs=some y):∃x,aS (fun _=>none) (t3 x) cs:=by
 obtain⟨xs,m,_,_,hl,hxl,hf⟩:=DataW.trod_struct he h
 rw[hc3]at hl
 match cs,hl with
 | [c0,c1,c2],_ =>
  have one:∀i,i<3→∃k,([c0,c1,c2].drop i).take 1=[.int .i64 k]:=by
   intro i hi3
   have h5:∃f,fs[i]?=some f:=⟨_,Array.getElem?_eq_getElem (by omega)⟩
   obtain⟨f,j9⟩:=h5
   have h6:=hf i f j9
   obtain⟨o1,o2⟩:=FN i f j9
   rw[o1,o2,Ep]at h6
   have h7:∃y,xs[i]?=some y:=⟨_,List.getElem?_eq_getElem (by omega)⟩
   obtain⟨y',hy'⟩:=h7
   rw[hy']at h6
   obtain⟨k,hk,_⟩:=DataW.trod_int hi h6
   exact⟨k,hk⟩
  obtain⟨k0,e0⟩:=one 0 (by omega)
  obtain⟨k1,e1⟩:=one 1 (by omega)
  obtain⟨k2,e2⟩:=one 2 (by omega)
  simp at e0 e1 e2
  subst e0 e1 e2
  exact⟨(k0,k1,k2),.cons (.i _ _) (.cons (.i _ _) (.cons (.i _ _) .nil))⟩
theorem AR.zqv {H:Type}{enc:TypeId×Value→H}{P:Program}{W:World}{S:St}{β:Bt}{L:Lg}(h:AR W S β L){t e ti:TypeId}{fs:Array Field}{v:Value}{d:DataW H}{ps:List MemPlace}(ht:P.underlying t=some (.slice e))(he:P.underlying e=some (.struct fs))(h3:fs.size=3)(FN:∀(i:Nat) (f:Field),fs[i]?=some f→f.offset=i∧f.type=ti)
  (hi:P.underlying ti=some (.int .i64)) (Ep:P.cellsOf ti=1) (hc3:P.cellsOf e=3) {base:Nat} (hval:Value.okWide P W .any base t v) (hd:DataW.Trod enc P W 0 (fun _=>true) true t v d ps) :
  ∃(l:List (Int×Int×Int)) (S':St) (β':Bt) (L':Lg) (a:AV),AR W S' β' L'∧Ext β β'∧yu L L'∧VR β' a v∧NG L' a (Qg l) l.length 3 :=
 h.rows t3 ht hc3 (fun x=>rfl) (fun n cs y hy=>zhU he h3 FN hi Ep hc3 n cs y hy) hval hd
end
section
section
variable {M L:Lg} {r b:Nat} {d:LC}
theorem xt (M L:Lg)(b:Nat)(d:LC):(M.ak L).put b d=(M.put b d).ak L:=by
 funext m;unfold Lg.put Lg.ak;by_cases h:m=b<;>simp[h]
theorem yH (h:M b=none)(d:LC):(M.ak L).put b d=M.ak (L.put b d):=by
 funext m;unfold Lg.put Lg.ak;by_cases hm:m=b
 ·subst hm;simp[h]
 ·simp[hm]
theorem z8 (h:M b=some d):(M.ak L) b=some d:=by simp[Lg.ak,h]
theorem yG (h:M b=none):(M.ak L) b=L b:=by simp[Lg.ak,h]
theorem yI:(M.ak L) b=none↔M b=none∧L b=none:=by
 unfold Lg.ak;cases h:M b<;>simp
def yk (M L:Lg)(r:Nat):Prop:=∀b,b≠r→M b≠none→L b=none
theorem yk.low (h:yk M L r)(hb:b≠r)(e:L b=some d):M b=none:=by
 cases h1:M b with
 | none=>rfl
 | some c=>have:=h b hb (by rw[h1];simp);rw[e]at this;cases this
theorem yk.get (h:yk M L r)(hb:b≠r)(e:L b=some d):(M.ak L) b=some d:=by rw[yG (h.low hb e)];exact e
theorem yk.dx (h:yk M L r)(hb:M b=none)(d:LC):yk M (L.put b d) r:=by
 intro c hc hM
 have:c≠b:=by rintro rfl;exact hM hb
 rw[zb _ _ _ this];exact h c hc hM
theorem yk.put (h:yk M L r)(hb:b=r∨L b=none)(d:LC):yk (M.put b d) L r:=by
 intro c hc hM
 by_cases e:c=b
 ·subst e;rcases hb with h1 | h1
  ·exact absurd h1 hc
  ·exact h1
 ·rw[zb _ _ _ e]at hM;exact h c hc hM
theorem yk.own (h:yk M L r)(hb:M b≠none)(d:LC):yk (M.put b d) L r:=h.put (by by_cases e:b=r;exact .inl e;exact .inr (h b e hb)) d
def zgU (D:Lg→Prop)(hp:Hp):Prop:=∃M,D M∧Sat M hp
theorem zbS {F:Nat→Option aT}{f:Nat}{vs:List AV}{Q:AV→Lg→Prop}{D:Lg→Prop}(e:L r=some (.abs (zgU D)))(hr:∀M,D M→M r≠none)
  (H:∀M,D M→yk M L r→zd F f vs (M.ak L) Q):zd F f vs L Q:=by
 apply y3 e
 rintro hm ⟨M,hD,hs⟩
 refine⟨M,hs,hr M hD,fun hf=>H M hD ?_⟩
 intro c hc hM
 cases h1:M c with
 | none=>exact absurd h1 hM
 | some x=>exact hf c x h1 hc
theorem VO {D:Lg→Prop}(hD:D M)(hr:∃cs,M r=some (.raw (.cells cs)))(ha:yk M L r):zx (M.ak L) (L.put r (.abs (zgU D))) :=
 zx.shut (fun b c h hb=>ha b hb (by rw[h];simp)) (.inl hr) fun h hs=>⟨M,hD,hs⟩
theorem zdT {D:Lg→Prop}(hD:D M)(hr:∃cs,M r=some (.raw (.cells cs)))(ha:yk M L r)(e:L r=some (.abs (zgU D))):zx (M.ak L) L:=by
 have:=VO hD hr ha
 rwa [ye L r _ e]at this
theorem zx.Ey {M L:Lg}(hb:L b=none)(d:LC):zx (M.ak (L.put b d)) (M.ak L):=by
 apply zx.drop
 intro c e hc
 cases h1:M c with
 | some x=>rw[z8 h1]at hc ⊢;exact hc
 | none =>
  rw[yG h1]at hc ⊢
  rw[zb _ _ _ (by rintro rfl;rw[hb]at hc;cases hc)];exact hc
end
def bu (K:Lg)(v:AV)(cs:List AV)(n size:Nat):Prop :=
 (n=0∧cs=[]∧v=.sl none 0 0 0)∨∃b ex,0<n∧v=.sl (some (b,0)) n n ex∧(ex=0∨ex=size)∧K b=some (.raw (.cells cs))∧cs.length=n * size
section
variable {K K':Lg} {v:AV} {cs:List AV} {n size:Nat}
theorem bu.nil (K:Lg)(size:Nat):bu K (.sl none 0 0 0) [] 0 size:=.inl ⟨rfl,rfl,rfl⟩
theorem bu.mono (h:bu K v cs n size)(e:∀b,au v=some b→K' b=K b):bu K' v cs n size:=by
 rcases h with h | ⟨b,ex,h1,h2,h3,h4,h5⟩
 ·exact .inl h
 ·exact .inr ⟨b,ex,h1,h2,h3,by rw[e b (by rw[h2];rfl)];exact h4,h5⟩
theorem bu.block (h:bu K v cs n size){b:Nat}(e:au v=some b):K b=some (.raw (.cells cs)):=by
 rcases h with⟨_,_,h3⟩ | ⟨b',ex,h1,h2,h3,h4,h5⟩
 ·rw[h3]at e;cases e
 ·rw[h2]at e;simp[au]at e;subst e;exact h4
theorem bu.len {F:Nat→Option aT}(h:bu K v cs n size)(L:Lg)(k:AV→Lg→Prop):za F .ax [v] L k=k (.i .i64 n) L:=by
 rcases h with⟨h1,_,h3⟩ | ⟨b',ex,h1,h2,h3,h4,h5⟩
 ·rw[h3,h1];simp
 ·rw[h2];simp
theorem bu.aX {F:Nat→Option aT}(h:bu K v cs n size){x:Int}(h0:0≤x)(h1:x<n):∃b,au v=some b∧K b=some (.raw (.cells cs))∧cs.length=n * size∧∀(L:Lg) (k:AV→Lg→Prop) (j:IntKind),za F (.aX size) [v,.i j x] L k=k (.p (some (b,x.toNat * size))) L:=by
 rcases h with⟨e1,_,h3⟩ | ⟨b',ex,g1,g2,g3,g4,g5⟩
 ·omega
 ·refine⟨b',by rw[g2];rfl,g4,g5,fun L k j=>?_⟩
  rw[g2,yn F L k size b' 0 n n ex j x h0 h1]
  simp
theorem bu.one (h:bu K v cs n size):v.one=true:=by
 rcases h with⟨_,_,h3⟩ | ⟨b',ex,g1,g2,g3,g4,g5⟩
 ·rw[h3];rfl
 ·rw[g2];rfl
theorem bu.cellsOf (h:bu K v cs n size):v.cellsOf=some [v]:=by
 rcases h with⟨_,_,h3⟩ | ⟨b',ex,g1,g2,g3,g4,g5⟩
 ·rw[h3];rfl
 ·rw[g2];rfl
theorem bu.NM (h:bu K v cs n size):∃a ex,v=.sl a n n ex∧zH K a (n * size)=some cs∧(n=0→ex=0):=by
 rcases h with⟨h1,h2,h3⟩ | ⟨b',ex,g1,g2,g3,g4,g5⟩
 ·exact⟨none,0,by rw[h3,h1],by simp[zH,h1,h2],fun _=>rfl⟩
 ·refine⟨_,ex,g2,?_,fun h=>by omega⟩
  simp only[zH,g4,AB.read,cut,zp,Nat.zero_add,g5,Nat.le_refl,decide_true,cond_true,List.drop_zero]
  rw[←g5,List.take_length]
structure Grown (K:Lg)(v:AV)(b:Nat)(cs:List AV)(K1:Lg):Prop where
 fresh:K b=none
 now:K1 b=some (.raw (.cells cs))
 same:∀r,r≠b→au v≠some r→K1 r=K r
 gone:∀r,r≠b→K1 r=none∨K1 r=K r
theorem bu.app {bytes m:Nat}{src:AV}{new:List AV}(h:bu K v cs n size)(hsz:0<size){a:Option (Nat×Nat)}{c e:Nat}(hs:src=.sl a m c e)(hm:0<m)(hr:zH K a (m * size)=some new)(hn:new.length=m * size)(h1:new.all AV.one=true)
  (hb:(n+m) * bytes≤70368744177664) {k:AV→Lg→Prop} (hk:∀b K1,Grown K v b (cs++new) K1→bu K1 (.sl (some (b,0)) (n+m) (n+m) size) (cs++new) (n+m) size→k (.sl (some (b,0)) (n+m) (n+m) size) K1):Xp size bytes K k [v,src]:=by
 subst hs
 obtain⟨av,ex,hv,hrd,hz⟩:=h.NM
 have hlen:cs.length=n * size:=by
  rcases h with⟨h1,h2,h3⟩ | ⟨b',ex,g1,g2,g3,g4,g5⟩
  ·simp[h1,h2]
  ·exact g5
 have key:∀K1:Lg,(K1=K∨∃q,au v=some q∧K1=K.del q)→Zn K av ex size=some K1→Xp size bytes K k [v,.sl a m c e]:=by
  intro K1 ki hg
  rw[hv]
  refine w9 (L':=K1) hr h1 (by omega) hb hrd hg ?_
  intro b gD
  refine hk b _ ⟨gD,ze _ _ _,?_,?_⟩ (.inr ⟨b,size,by omega,rfl,.inr rfl,ze _ _ _,by simp[hlen,hn,Nat.add_mul]⟩)
  ·intro r hr hq
   rw[zb _ _ _ hr]
   rcases ki with rfl | ⟨q,Se,rfl⟩
   ·rfl
   ·rw[yL,if_neg];rintro rfl;exact hq Se
  ·intro r hr
   rw[zb _ _ _ hr]
   rcases ki with rfl | ⟨q,Se,rfl⟩
   ·exact .inr rfl
   ·rw[yL];split
    ·exact .inl rfl
    ·exact .inr rfl
 rcases h with⟨h1,h2,h3⟩ | ⟨b',ex',g1,g2,g3,g4,g5⟩
 ·have:ex=0:=hz h1
  exact key K (.inl rfl) (by rw[this];simp[Zn])
 ·have Fe:=hv
  rw[g2]at Fe
  cases Fe
  rcases g3 with g3 | g3
  ·exact key K (.inl rfl) (by simp[Zn,g3])
  ·refine key (K.del b') (.inr ⟨b',by rw[g2];rfl,rfl⟩) ?_
   have:¬size=0:=by omega
   simp[Zn,this,g4,g3]
theorem bu.znz {bytes:Nat}{src:AV}(h:bu K v cs n size){a:Option (Nat×Nat)}{c e:Nat}(hs:src=.sl a 0 c e)(hr:zH K a 0=some []){k:AV→Lg→Prop}(hk:k v K):Xp size bytes K k [v,src]:=by
 subst hs
 rcases h with⟨h1,h2,h3⟩ | ⟨b',ex',g1,g2,g3,g4,g5⟩
 ·rw[h3];rw[h3]at hk
  simp only[Xp,Nat.zero_mul,hr,Ia]
  simpa using hk
 ·rw[g2];rw[g2]at hk
  simp only[Xp,Nat.zero_mul,hr,Ia]
  simpa using hk
end
def zl {α:Type}(f:α→List AV):List α→List AV
 | []=>[]
 | x::r=>f x++zl f r
section
variable {α:Type} {f:α→List AV} {k:Nat}
theorem zU:∀(a b:List α),zl f (a++b)=zl f a++zl f b
 | [],_=>rfl
 | x::r,b=>by simp[zl,zU r b]
theorem zY (hf:∀x,(f x).length=k):∀(a:List α),(zl f a).length=a.length * k
 | []=>by simp[zl]
 | x::r=>by
  simp only[zl,List.length_append,hf,zY hf r,List.length_cons,Nat.add_mul,Nat.one_mul];omega
theorem Yw (h1:∀x,(f x).all AV.one=true):∀(a:List α),(zl f a).all AV.one=true
 | []=>rfl
 | x::r=>by simp[zl,List.all_append,h1,Yw h1 r]
theorem xT (hf:∀x,(f x).length=k):∀(l:List α) (i:Nat) (x:α),l[i]?=some x→((zl f l).drop (i * k)).take k=f x∧i * k+k≤(zl f l).length
 | [],i,x,h=>by simp at h
 | a::r,0,x,h=>by
  simp at h;subst h
  have:=hf a
  simp only[zl,Nat.zero_mul,List.drop_zero,List.length_append,this,Nat.zero_add]
  exact⟨by rw[←this,List.take_left],by omega⟩
 | a::r,i+1,x,h=>by
  have:=xT hf r i x (by simpa using h)
  have e:(i+1) * k=(f a).length+i * k:=by rw[hf,Nat.add_mul];omega
  rw[e]
  simp only[zl,List.length_append]
  rw[←List.drop_drop,List.drop_left]
  exact⟨this.1,by omega⟩
theorem vw (hf:∀x,(f x).length=k)(l:List α)(i j:Nat)(x:α)(h:l[i]?=some x)(hj:j<k):(zl f l)[i * k+j]?=(f x)[j]?:=by
 have h1:=xT hf l i x h
 rw[←h1.1,List.getElem?_take_of_lt hj,List.getElem?_drop]
theorem xm (hf:∀x,(f x).length=k):∀(l:List α) (i:Nat) (x y:α) (j:Nat) (v:AV),l[i]?=some x→j<k→(f x).set j v=f y→(zl f l).set (i * k+j) v=zl f (l.set i y)
 | [],i,x,y,j,v,h,_,_=>by simp at h
 | a::r,0,x,y,j,v,h,hj,e=>by
  simp at h;subst h
  have:=hf a
  simp only[zl,Nat.zero_mul,Nat.zero_add,List.set_cons_zero]
  rw[List.set_append_left _ _ (by omega),e]
 | a::r,i+1,x,y,j,v,h,hj,e=>by
  have:=xm hf r i x y j v (by simpa using h) hj e
  have e2:(i+1) * k+j=(f a).length+(i * k+j):=by rw[hf,Nat.add_mul];omega
  rw[e2]
  simp only[zl,List.set_cons_succ]
  rw[List.set_append_right _ _ (by omega),Nat.add_sub_cancel_left,this]
end
end
section
def sA:br→br | .seq a _=>a | _=>.skip
def sB:br→br | .seq _ b=>b | _=>.skip
def sC:br→fT | .cond c _ _=>c | _=>.l 0
def sX:br→br | .cond _ x _=>x | _=>.skip
def sY:br→br | .cond _ _ y=>y | _=>.skip
def sI:br→Nat | .block i _=>i | _=>0
def sD:br→br | .block _ c=>c | _=>.skip
def sL:br→br | .loop c=>c | _=>.skip
section
variable {F:TF} {c:br} {l t:Env} {L:Lg} {k:Kn} {ke:Nat→Kn} {kr:Kn} {X Y Z:Prop}
theorem lf {A:Prop}(B:Prop)(h:A=B:=by kernel_rfl):A=B:=h
theorem wS {G:Kn}(h:∀l t L,wp F (sB c) l t L k ke kr=G l t L)(e:wp F (sA c) l t L G ke kr=Z)(q:c=.seq (sA c) (sB c):=by kernel_rfl):wp F c l t L k ke kr=Z:=(congrArg (fun c=>wp F c l t L k ke kr) q).trans (wpS h e)
theorem wC (hx:wp F (sX c) l t L k ke kr=X)(hy:wp F (sY c) l t L k ke kr=Y)(e:zn (G3 l t (sC c)) X Y=Z)(q:c=.cond (sC c) (sX c) (sY c):=by kernel_rfl):wp F c l t L k ke kr=Z:=(congrArg (fun c=>wp F c l t L k ke kr) q).trans (wpC hx hy e)
theorem wB (h:wp F (sD c) l t L k (fun j l t L=>bif Nat.beq j (sI c)then k l t L else ke j l t L) kr=Z)(q:c=.block (sI c) (sD c):=by kernel_rfl):wp F c l t L k ke kr=Z:=(congrArg (fun c=>wp F c l t L k ke kr) q).trans h
theorem wL {B:Env→Env→Lg→TK→Prop}(h:∀l t L (k:TK),wp F (sL c) l t L (fun l _ L=>k l L) ke kr=B l t L k)(e:xA B l L=Z)(q:c=.loop (sL c):=by kernel_rfl):wp F c l t L k ke kr=Z:=(congrArg (fun c=>wp F c l t L k ke kr) q).trans (wpL h e)
end
theorem cw {F:TF}{f:Nat}{fn:aT}(h:F f=some fn){vs:List AV}{L:Lg}{Q:TQ}{Z:Env→Env→Lg→Prop}(p:∀l t L,wp F fn.body l t L (fin fn.res Q) nE (fin fn.res Q)=Z l t L){W:Prop}(e:W)(q:Z (zI vs 0) Env.nil L=W:=by kernel_rfl):zd F f vs L Q :=
 WH h (Eq.mpr ((p (zI vs 0) Env.nil L).trans q) e)
def zG (o:Option aT):aT:=match o with | some f=>f | none=>⟨.ret,[]⟩
def zhi (l:List (Nat×Nat))(f:Nat):Option Nat:=match l with | []=>none | (a,b)::r=>bif Nat.beq a f then some b else zhi r f
def zhx (P:Program)(l:List (Nat×Nat))(f:Nat):Option aT:=match zhi l f,P.funcs[f]? with | some b,some g=>Ws P b g | _,_=>none
theorem zb5 (P:Program)(l:List (Nat×Nat)):W5 P (zhx P l):=by
 intro f fn h
 unfold zhx at h
 split at h
 ·rename_i b g _ hg;exact .inl ⟨b,g,hg,h⟩
 ·cases h
theorem zhy {P:Program}{t:Nat→Option aT}(h:W5 P t){a:Nat}(ka:Zy P a):W5 P (fun f=>bif Nat.beq f a then some zds else t f):=by
 intro f fn e
 cases hc:Nat.beq f a with
 | true =>
  simp only[hc,cond_true]at e
  cases e
  rw[zq,decide_eq_true_eq]at hc
  subst hc
  exact .inr ⟨rfl,ka⟩
 | false =>
  simp only[hc,cond_false]at e
  exact h f fn e
end
end Go.AM
