/- The texts LibRefL, LibRefM, LibRefN, LibRefO, LibRefP, LibRefQ, LibRefR, LibRefS, LibRefT, LibRefU, LibRefV, LibRefW, LibSimA, LawTimerActsA, LawTimerActsB, LibSimB of a proof of LapseSound, merged. -/
import Derived.Test.YtbpoekdljkkkpaaGreatLapseSoundG6
set_option linter.unusedVariables false
set_option linter.unusedSimpArgs false
namespace Go.AM
section
variable {F:Nat→Option aT}
structure bf where
 after:Bool
 no:Int
 prog:Int
 gone:Bool
 plain:Bool
 err:Int
 cause:Int
 when:Int
 has:Bool
 own:Bool
 timer:Int
 c:Option Nat
def bf.cells (x:bf):List AV:=[.b x.after,.i .i64 x.no,.i .i64 x.prog,.b x.gone,.b x.plain,.i .i64 x.err,.i .i64 x.cause,.i .i64 x.when,.b x.has,.b x.own,.i .i64 x.timer,ptr x.c]
theorem bf.len (x:bf):x.cells.length=12:=rfl
theorem bf.one (x:bf):x.cells.all AV.one=true:=rfl
def zJ (i:Nat)(o:One):bf:=⟨false,i,0,false,o.free,o.err,o.cause,o.when,o.has,o.own,o.timer,o.c⟩
def wH (j:Nat)(a:cK):bf:=⟨true,j,a.prog,a.ak,false,0,0,0,false,false,-1,none⟩
def iG (n:Nd):List AV:=[.i .i64 n.parent,.b n.linked]
theorem Zh (n:Nd):(iG n).length=2:=rfl
structure iT (σ:Cs)(aM:List bf):Prop where
 len:aM.length=σ.tree.length
 one:∀(i k:Nat) (o:One),σ.af[i]?=some o→o.node=(k:Int)→aM[k]?=some (zJ i o)
 cm:∀(j k:Nat) (a:cK),σ.ai[j]?=some a→a.node=(k:Int)→aM[k]?=some (wH j a)
def Ek (σ:Cs)(aM:List bf)(tv nv cv av:AV):List Ai:=[⟨tv,zl iG σ.tree,σ.tree.length,2⟩,⟨nv,zl bf.cells aM,aM.length,12⟩,⟨cv,zl fI (σ.af.map (·.node)),σ.af.length,1⟩,⟨av,zl fI (σ.ai.map (·.node)),σ.ai.length,1⟩]
def NH (σ:Cs)(tv nv cv av:AV):List AV:=[ptr σ.t,tv,nv,cv,av]
structure XR (L:Lg)(c:Nat)(σ:Cs)(aM:List bf)(tv nv cv av:AV)(K:Lg):Prop where
 g:GO L c (NH σ tv nv cv av) (Ek σ aM tv nv cv av) K
 n:iT σ aM
section
variable {L K:Lg} {c:Nat} {σ:Cs} {aM:List bf} {tv nv cv av:AV}
theorem XR.f0 (o:XR L c σ aM tv nv cv av K):aq K (c,0) none=some (ptr σ.t):=o.g.rd 0
theorem XR.f1 (o:XR L c σ aM tv nv cv av K):aq K (c,1) none=some tv:=o.g.rd 1
theorem XR.f2 (o:XR L c σ aM tv nv cv av K):aq K (c,2) none=some nv:=o.g.rd 2
theorem XR.f3 (o:XR L c σ aM tv nv cv av K):aq K (c,3) none=some cv:=o.g.rd 3
theorem XR.f4 (o:XR L c σ aM tv nv cv av K):aq K (c,4) none=some av:=o.g.rd 4
theorem XR.ts (o:XR L c σ aM tv nv cv av K):bu K tv (zl iG σ.tree) σ.tree.length 2:=o.g.own 0 _ rfl
theorem XR.ns (o:XR L c σ aM tv nv cv av K):bu K nv (zl bf.cells aM) aM.length 12:=o.g.own 1 _ rfl
theorem XR.cs (o:XR L c σ aM tv nv cv av K):bu K cv (zl fI (σ.af.map (·.node))) σ.af.length 1:=o.g.own 2 _ rfl
theorem XR.as (o:XR L c σ aM tv nv cv av K):bu K av (zl fI (σ.ai.map (·.node))) σ.ai.length 1:=o.g.own 3 _ rfl
theorem XR.sT (o:XR L c σ aM tv nv cv av K):cI iG 2 K tv σ.tree:=cI.bD Zh o.ts
theorem XR.sC (o:XR L c σ aM tv nv cv av K):cI fI 1 K cv (σ.af.map (·.node)):=cI.bD Yx (by simpa using o.cs)
theorem XR.sA (o:XR L c σ aM tv nv cv av K):cI fI 1 K av (σ.ai.map (·.node)):=cI.bD Yx (by simpa using o.as)
theorem XR.sub (o:XR L c σ aM tv nv cv av K){K':Lg}(h:zQ K K'):XR L c σ aM tv nv cv av K':=⟨o.g.sub h,o.n⟩
theorem XR.bW (o:XR L c σ aM tv nv cv av K){b:Nat}(hb:K b=none)(d:LC):XR (L.put b d) c σ aM tv nv cv av (K.put b d):=⟨o.g.bW hb d,o.n⟩
theorem XR.bY (o:XR L c σ aM tv nv cv av K){b:Nat}(h1:b≠c){d0:LC}(h2:L b=some d0)(d:LC):XR (L.put b d) c σ aM tv nv cv av (K.put b d):=⟨o.g.bY h1 h2 d,o.n⟩
theorem XR.nb (o:XR L c σ aM tv nv cv av K){k:Nat}(hk:k<aM.length):∃b,au nv=some b∧K b=some (.raw (.cells (zl bf.cells aM)))∧∀(X:Lg) (p:AV→Lg→Prop),za F (.aX 12) [nv,.i .i64 k] X p=p (.p (some (b,k * 12))) X:=by
 obtain⟨b,h1,h2,h3,h4⟩:=o.ns.aX (F:=F) (x:=(k:Int)) (by omega) (by omega)
 exact⟨b,h1,h2,fun X p=>by simpa using h4 X p .i64⟩
theorem XR.tb (o:XR L c σ aM tv nv cv av K){k:Nat}(hk:k<σ.tree.length):∃b,au tv=some b∧K b=some (.raw (.cells (zl iG σ.tree)))∧∀(X:Lg) (p:AV→Lg→Prop),za F (.aX 2) [tv,.i .i64 k] X p=p (.p (some (b,k * 2))) X:=by
 obtain⟨b,h1,h2,h3,h4⟩:=o.ts.aX (F:=F) (x:=(k:Int)) (by omega) (by omega)
 exact⟨b,h1,h2,fun X p=>by simpa using h4 X p .i64⟩
theorem XR.node (o:XR L c σ aM tv nv cv av K){b:Nat}(hb:au nv=some b){σ':Cs}{bz:List bf}(hl:bz.length=aM.length)(h1:σ'.t=σ.t)(h2:σ'.tree=σ.tree)(h3:σ'.af.map (·.node)=σ.af.map (·.node))(h4:σ'.ai.map (·.node)=σ.ai.map (·.node))(hn:iT σ' bz) :
  XR L c σ' bz tv nv cv av (K.put b (.raw (.cells (zl bf.cells bz)))):=by
 refine⟨?_,hn⟩
 have:=o.g.GJ (i:=1) (p:=⟨nv,zl bf.cells aM,aM.length,12⟩) rfl hb (cs':=zl bf.cells bz) (by rw[zY bf.len,zY bf.len,hl])
 have e1:σ'.af.length=σ.af.length:=by simpa using congrArg List.length h3
 have e2:σ'.ai.length=σ.ai.length:=by simpa using congrArg List.length h4
 simp only[NH,Ek,h1,h2,h3,h4,e1,e2,hl]at this ⊢
 exact this
theorem XR.Ft (o:XR L c σ aM tv nv cv av K){b:Nat}(hb:au tv=some b){ns:List Nd}(hl:ns.length=σ.tree.length) :
  XR L c { σ with tree:=ns } aM tv nv cv av (K.put b (.raw (.cells (zl iG ns)))):=by
 refine⟨?_,⟨by rw[o.n.len,←hl],o.n.one,o.n.cm⟩⟩
 have:=o.g.GJ (i:=0) (p:=⟨tv,zl iG σ.tree,σ.tree.length,2⟩) rfl hb (cs':=zl iG ns) (by rw[zY Zh,zY Zh,hl])
 simp only[NH,Ek,hl]at this ⊢
 exact this
theorem wJ (hf:dM F)(o:XR L c σ aM tv nv cv av K)(id:Int):zd F cS [.p (some (c,0)),.i .i64 id] K fun v K'=>v=.b (σ.has id)∧K'=K:=by
 refine zr ?_
 intro Q hQ
 apply QH hf.code
 unfold rZ
 have hlen:=fun X k=>o.cs.len (F:=F) X k
 have fin:∀b:Bool,σ.has id=b→zm (some (.b b)) Q K:=fun b h=>⟨K,zx.refl _,hQ _ _ ⟨by rw[h],rfl⟩⟩
 by_cases h:0≤id
 ·simp only[zf,vg,ge_iff_le,h,decide_true,zw,yo,zh,zk,Nat.zero_add,zt,o.f3,zg,hlen,yP,zV]
  exact fin _ (by simp[Cs.has,h])
 ·simp[h]
  exact fin _ (by simp[Cs.has,h])
theorem xU (hf:eg F)(o:XR L c σ aM tv nv cv av K){i k:Nat}{x:One}(hx:σ.af[i]?=some x)(hk:x.node=(k:Int))(hl:k<aM.length):zd F cz [.p (some (c,0)),.i .i64 i] K fun v K'=>(∃b,au nv=some b∧v=.p (some (b,k * 12)))∧K'=K:=by
 refine zr ?_
 intro Q hQ
 apply QG hf.code
 unfold rY
 obtain⟨q,w,q1,q2,_⟩:=o.sC.get (F:=F) (i:=i) (x:=(k:Int)) (by rw[List.getElem?_map,hx,←hk];rfl)
 have r0:aq K (q,w) none=some (.i .i64 k):=(q2 K (zQ.refl _)).1 0 (by omega)
 obtain⟨b,h1,h2,h3⟩:=o.nb (F:=F) hl
 simp only[zf,zh,zk,Nat.zero_add,zt,o.f2,o.f3,zg,q1,r0,h3]
 exact⟨K,zx.refl _,hQ _ _ ⟨⟨b,h1,rfl⟩,rfl⟩⟩
theorem XR.rn (o:XR L c σ aM tv nv cv av K){b k j:Nat}(hb:au nv=some b){x:bf}(hx:aM[k]?=some x)(hj:j<12):aq K (b,k * 12+j) none=x.cells[j]?:=by
 rw[zj (o.ns.block hb),vw bf.len aM k j x hx hj]
theorem zdr (hf:F6 F)(o:XR L c σ aM tv nv cv av K)(hl:σ.tree.length≤1000)(k:Int):zd F jF [.p (some (c,1)),.i .i64 k] K fun v K'=>cJ K v (zl fI ((zK σ.tree k).map fun (i:Nat)=>(i:Int))) (zK σ.tree k).length 1 K':=by
 refine zr ?_
 intro Q hQ
 apply QC hf.code
 unfold rL rK rI rH
 obtain⟨T,hT⟩:∃T,T=σ.tree:=⟨_,rfl⟩
 obtain⟨I,hI⟩:∃I:Nat→Env→Lg→Prop,I=fun m E K'=>∃i:Nat,m+i=T.length∧E 0=.p (some (c,1))∧E 1=.i .i64 k∧E 6=.i .i64 i ∧
   cJ K (E 5) (zl fI (((List.range i).filter (bN T k)).map fun (i:Nat)=>(i:Int))) ((List.range i).filter (bN T k)).length 1 K':=⟨_,rfl⟩
 refine zN I T.length ?_ ?_
 ·rw[hI];exact⟨0,by omega,by simp[zI],by simp[zI],by simp,by simpa[zl]using cJ.nil K 1⟩
 intro m E t K' hi
 rw[hI]at hi
 obtain⟨i,hm,e0,e1,e6,li⟩:=hi
 have o':=o.sub li.s
 have hlen:=fun X k=>o'.sT.len (F:=F) X k
 unfold rG
 rw[e0,e1,e6]
 simp only[zf,zh,zk,Nat.add_zero,zt,o'.f1,zg,hlen,yP,zM]
 refine⟨fun hlt=>?_,fun Bu=>?_⟩
 rotate_left
 ·unfold rJ
  have MZ:i=T.length:=by rw[hT]at hm ⊢;omega
  refine⟨K',zx.refl _,hQ _ _ ?_⟩
  rw[MZ]at li
  rw[←hT]
  exact li
 have bK:i<T.length:=by rw[hT];omega
 have hx:σ.tree[i]?=some T[i]:=by rw[←hT];exact List.getElem?_eq_getElem bK
 have hh:bN T k i=(T[i].linked&&decide (T[i].parent=k)):=by unfold bN;rw[List.getElem?_eq_getElem bK]
 generalize T[i]=x at hx hh
 have w1:wr .i64 ((i:Int)+1)=((i+1:Nat):Int):=by rw[zT (by omega) (by omega)];omega
 obtain⟨b,q,q1,q2,_⟩:=o'.sT.get (F:=F) hx
 have ra:aq K' (b,q) none=some (.i .i64 x.parent):=(q2 K' (zQ.refl _)).1 0 (by omega)
 have rb:aq K' (b,q+1) none=some (.b x.linked):=(q2 K' (zQ.refl _)).1 1 (by omega)
 have I3:(List.range (i+1)).filter (bN T k)=(List.range i).filter (bN T k)++(if bN T k i=true then [i]else []):=by
  rw[List.range_succ,List.filter_append]
  congr 1
  by_cases h:bN T k i=true
  ·rw[if_pos h,List.filter_cons_of_pos h];rfl
  ·rw[if_neg h,List.filter_cons_of_neg h];rfl
 have hfl:((List.range i).filter (bN T k)).length≤i:=by have:=List.length_filter_le (bN T k) (List.range i);simpa using this
 have skip:bN T k i=false→∃m',m'<m∧I m' (Env.put E 6 (.i .i64 ((i+1:Nat):Int))) K':=by
  intro h
  rw[hI]
  refine⟨m-1,by omega,i+1,by omega,by simp[e0],by simp[e1],by simp,?_⟩
  rw[I3,if_neg (by rw[h];simp),List.append_nil]
  simpa using li
 cases hlk:x.linked with
 | false =>
  rw[hlk]at rb hh
  simp only[zf,zh,zk,Nat.add_zero,zt,o'.f1,zg,q1,rb,vI,xD,zW,zC,y6,w1]
  exact skip (by rw[hh];rfl)
 | true =>
  rw[hlk]at rb hh
  simp only[zf,zh,zk,Nat.add_zero,zt,o'.f1,zg,q1,rb,ra,zw,yo,xw,zV,zM]
  refine⟨fun hp=>?_,fun hp=>?_⟩
  ·refine zjh rfl ?_
   intro v23 K3 o23 k3 f23
   have s3:zQ K' K3:=fun r d hr=>k3.none_ hr
   have s23:cI fI 1 K3 v23 [(i:Int)]:=cI.bD (f:=fI) Yx (by simpa[zl,fI]using o23)
   refine (li.mono s3).app Yx zfl (by omega) s23 (by simp;omega) ?_
   intro v24 K4 l4
   simp only[zf,y6,w1]
   rw[hI]
   refine⟨m-1,by omega,i+1,by omega,by simp[e0],by simp[e1],by simp,?_⟩
   rw[I3,if_pos (by rw[hh];simp[hp]),List.map_append,zU]
   simpa using l4
  ·simp only[zf,y6,w1]
   exact skip (by rw[hh];simp[hp])
theorem zbr (T:List Nd)(k:Nat):zl iG (yd T fun i=>decide (i=k))=(zl iG T).set (k * 2+1) (.b false):=by
 have key:∀(T S:List Nd) (k:Nat),S.length=T.length→(∀(i:Nat) (n m:Nd),T[i]?=some n→S[i]?=some m→m.parent=n.parent∧m.linked=(n.linked&&!decide (i=k)))→zl iG S=(zl iG T).set (k * 2+1) (.b false):=by
  intro T
  induction T with
  | nil=>intro S k hl _;have:=List.length_eq_zero_iff.1 hl;subst this;simp[zl]
  | cons n r ih =>
   intro S k hl h
   cases S with
   | nil=>simp at hl
   | cons m q =>
    obtain⟨h1,h2⟩:=h 0 n m rfl rfl
    cases k with
    | zero =>
     have hq:zl iG q=zl iG r:=by
      have:=ih q (r.length+5) (by simpa using hl) (fun i a b ha hb=>by
       obtain⟨g1,g2⟩:=h (i+1) a b (by simpa using ha) (by simpa using hb)
       refine⟨g1,?_⟩
       have hi:¬i=r.length+5:=by have:=(List.getElem?_eq_some_iff.1 ha).1;omega
       rw[g2];simp[hi])
      rw[this,List.set_eq_of_length_le]
      rw[zY Zh];omega
     simp only[zl,iG,List.cons_append,List.nil_append,hq,h1,h2]
     simp
    | succ k =>
     have hq:zl iG q=(zl iG r).set (k * 2+1) (.b false):=ih q k (by simpa using hl) (fun i a b ha hb=>by
      obtain⟨g1,g2⟩:=h (i+1) a b (by simpa using ha) (by simpa using hb)
      refine⟨g1,?_⟩
      rw[g2];simp)
     simp only[zl,iG,List.cons_append,List.nil_append,hq,h1,h2]
     have e:(k+1) * 2+1=k * 2+1+1+1:=by omega
     rw[e];simp
 refine key T _ k (yD _ _) ?_
 intro i n m hn hm
 rw[yU,hn]at hm
 simp at hm
 subst hm
 exact⟨rfl,rfl⟩
theorem Zt (hf:pE F)(o:XR L c σ aM tv nv cv av K){k:Nat}(hk:k<σ.tree.length):zd F eL [.p (some (c,1)),.i .i64 k] K fun v K'=>(∃b,v=.b b)∧XR L c { σ with tree:=yd σ.tree fun i=>decide (i=k) } aM tv nv cv av K'∧∀b,au tv≠some b→K' b=K b:=by
 refine zr ?_
 intro Q hQ
 apply QF hf.code
 unfold rX
 have hlen:=fun X k=>o.sT.len (F:=F) X k
 have c1:¬(k:Int)<0:=by omega
 have c2:¬(k:Int)≥(σ.tree.length:Int):=by omega
 obtain⟨b,h1,h2,h3⟩:=o.tb (F:=F) hk
 have hx:σ.tree[k]?=some σ.tree[k]:=List.getElem?_eq_getElem hk
 generalize σ.tree[k]=x at hx
 have rb:aq K (b,k * 2+1) none=some (.b x.linked):=by rw[zj h2,vw Zh σ.tree k 1 x hx (by omega)];rfl
 have o2:=o.Ft h1 (ns:=yd σ.tree fun i=>decide (i=k)) (yD _ _)
 rw[zbr]at o2
 simp only[zf,yP,c1,decide_false,zw,yo,zh,zk,Nat.add_zero,zt,o.f1,zg,hlen,vg,c2,zW,h3,rb]
 cases hl:x.linked with
 | false =>
  rw[hl]at rb
  simp only[zf,yf,Bool.not_false,zW,z9]
  refine⟨K,zx.refl _,hQ _ _ ⟨⟨_,rfl⟩,?_,fun _ _=>rfl⟩⟩
  have:(zl iG σ.tree).set (k * 2+1) (.b false)=zl iG σ.tree:=by
   apply List.ext_getElem?
   intro j
   by_cases hj:k * 2+1=j
   ·subst hj
    have e:=vw Zh σ.tree k 1 x hx (by omega)
    rw[List.getElem?_set_self (by rw[zY Zh];omega),e]
    simp[iG,hl]
   ·rw[List.getElem?_set_ne hj]
  rw[this]at o2
  rwa [ye _ _ _ h2]at o2
 | true =>
  rw[hl]at rb
  simp only[zf,yf,Bool.not_true,zW,zC,zh,zk,Nat.add_zero,zt,o.f1,zg,h3,yj]
  rw[zD h2 (by rw[zY Zh];omega) rfl]
  exact⟨_,zx.refl _,hQ _ _ ⟨⟨_,rfl⟩,o2,fun q hq=>zb _ _ _ (by rintro rfl;exact hq h1)⟩⟩
end
end
section
variable {F:Nat→Option aT}
structure bE (c:Nat)(S:CX)(L:Lg):Prop where
 bQ:∀s,S.σ.t=some s→s≠c∧L s=some (.abs (YI s S.τ))
 bB:∀o∈S.σ.af,∀a,o.c=some a→a≠c∧S.σ.t≠some a∧L a=some (.abs (YH a (S.χ a)))
def fh (c:Nat)(σ:Cs)(L L':Lg):Prop:=∀r d,r≠c→σ.t≠some r→(∀o∈σ.af,o.c≠some r)→L r=some d→L' r=some d
def vf (L:Lg)(c:Nat)(vs:List AV)(b:Nat):Prop:=L b=none∧b≠c∧∀v∈vs,au v≠some b
structure bV (L:Lg)(c:Nat)(vs:List AV)(K:Lg)(v1 v2:AV)(ps:List (cx×AV))(aJ:List (Int×Int)):Prop where
 o1:bu K v1 (zl Fc ps) ps.length 4
 o2:bu K v2 (zl nZ aJ) aJ.length 2
 ins:∀p∈ps,dj K p.2 (zl Wk.cells p.1.bG) p.1.bG.length 5∧∀b,au p.2=some b→vf L c vs b∧au v1≠some b∧au v2≠some b
 f1:∀b,au v1=some b→vf L c vs b∧au v2≠some b
 f2:∀b,au v2=some b→vf L c vs b
section
variable {L K:Lg} {c:Nat} {vs:List AV} {v1 v2:AV} {ps:List (cx×AV)} {aJ:List (Int×Int)}
theorem bV.keep (h:bV L c vs K v1 v2 ps aJ){K' L':Lg}(hk:∀b x,vf L c vs b→K b=some (.raw x)→K' b=some (.raw x))(hl:∀b,vf L c vs b→K b≠none→L' b=none):bV L' c vs K' v1 v2 ps aJ:=by
 have fr:∀b,vf L c vs b→K b≠none→vf L' c vs b:=fun b hb hn=>⟨hl b hb hn,hb.2⟩
 have nn:∀{v:AV} {cs:List AV} {n z:Nat} {b:Nat},bu K v cs n z→au v=some b→K b≠none:=fun h1 h2=>by rw[h1.block h2];simp
 refine⟨h.o1.mono fun b hb=>?_,h.o2.mono fun b hb=>?_,fun p hp=>⟨(h.ins p hp).1.mono fun b hb=>?_,fun b hb=>⟨fr b ((h.ins p hp).2 b hb).1 (by rw[(h.ins p hp).1.block hb];simp),((h.ins p hp).2 b hb).2⟩⟩,fun b hb=>⟨fr b (h.f1 b hb).1 (nn h.o1 hb),(h.f1 b hb).2⟩,fun b hb=>fr b (h.f2 b hb) (nn h.o2 hb)⟩
 ·rw[h.o1.block hb];exact hk b _ (h.f1 b hb).1 (h.o1.block hb)
 ·rw[h.o2.block hb];exact hk b _ (h.f2 b hb) (h.o2.block hb)
 ·rw[(h.ins p hp).1.block hb];exact hk b _ ((h.ins p hp).2 b hb).1 ((h.ins p hp).1.block hb)
theorem bV.sub (h:bV L c vs K v1 v2 ps aJ){K':Lg}(hk:zQ K K'):bV L c vs K' v1 v2 ps aJ:=h.keep (fun b x _ hx=>hk b _ hx) (fun b hb _=>hb.1)
theorem bV.nil (L:Lg)(c:Nat)(vs:List AV)(K:Lg):bV L c vs K (.sl none 0 0 0) (.sl none 0 0 0) [] []:=⟨bu.nil _ _,bu.nil _ _,fun p hp=>by simp at hp,(fun b hb=>by cases hb),(fun b hb=>by cases hb)⟩
theorem zcD (p:cx×AV):(Fc p).length=4:=rfl
theorem za4 (p:Int×Int):(nZ p).length=2:=rfl
theorem zhA (p:Int×Int):(nZ p).all AV.one=true:=rfl
theorem bu.mI {v:AV}{cs:List AV}{n z bytes:Nat}{zs:List AV}(h:bu K v cs n z){x:List AV}(hz:zs.length=z)(hx:x.length=z)(h1:x.all AV.one=true)(h0:0<z)(hb:(n+1) * bytes≤70368744177664){k:AV→Lg→Prop}
  (hk:∀(v':AV) (K1:Lg),bu K1 v' (cs++x) (n+1) z→vX (au v) K K1→(∀b,au v'=some b→K b=none)→k v' K1):za F (.aC zs 1 z [0]) [.agg x] K fun w L=>za F (.app z bytes) [v,w] L k:=by
 refine zak hz hx h1 ?_
 intro w K1 ow s1 f1
 have hv:bu K1 v cs n z:=h.sub fun b d _ hd=>s1 b d hd
 rw[Xz]
 rcases ow with⟨h2,_⟩ | ⟨b,ex,h2,rfl,_,h3,h4⟩
 ·omega
 refine hv.app h0 rfl (by omega) (new:=x) ?_ (by omega) h1 hb ?_
 ·simp only[zH,h3,AB.read,cut,zp,Nat.zero_add,Nat.one_mul]
  rw[hx];simp[←hx]
 intro b2 K2 g hO
 have f2:K b2=none:=s1.none g.fresh
 refine hk _ _ hO ?_ ?_
 ·intro r d hr hne
  have r2:r≠b2:=by rintro rfl;rw[f2]at hr;cases hr
  rw[g.same r r2 hne];exact s1 r d hr
 ·intro q hq;simp[au]at hq;subst hq;exact f2
theorem zgx {ps:cx×AV}(h:ps.2.one=true):(Fc ps).all AV.one=true:=by simp[Fc,h]
theorem bV.lap (h:bV L c vs K v1 v2 ps aJ)(hl:ps.length<1000000){p:cx×AV}(hp:dj K p.2 (zl Wk.cells p.1.bG) p.1.bG.length 5)(hf:∀b,au p.2=some b→vf L c vs b∧au v1≠some b∧au v2≠some b){k:AV→Lg→Prop}
  (hk:∀(v':AV) (K1:Lg),bV L c vs K1 v' v2 (ps++[p]) aJ→vX (au v1) K K1→k v' K1) (hfree:∀b,K b=none→vf L c vs b):za F (.aC [.i .i64 0,.i .i64 0,.i .i64 0,.sl none 0 0 0] 1 4 [0]) [.agg (Fc p)] K fun w X=>za F (.app 4 48) [v1,w] X k:=by
 refine h.o1.mI rfl rfl (zgx hp.one) (by omega) (by omega) ?_
 intro v' K1 o1 k1 f1
 refine hk v' K1 ⟨by rw[zU];simpa[zl]using o1,h.o2.sub fun b d hb hd=>k1 b d hd (fun h9=>(h.f1 b h9).2 hb),fun q hq=>?_,fun b hb=>⟨hfree b (f1 b hb),fun h9=>by have:=h.o2.block h9;rw[f1 b hb]at this;cases this⟩,h.f2⟩ k1
 have key:∀q:cx×AV,dj K q.2 (zl Wk.cells q.1.bG) q.1.bG.length 5→(∀b,au q.2=some b→vf L c vs b∧au v1≠some b∧au v2≠some b)→dj K1 q.2 (zl Wk.cells q.1.bG) q.1.bG.length 5∧∀b,au q.2=some b→vf L c vs b∧au v'≠some b∧au v2≠some b:=by
  intro q g1 g2
  refine⟨g1.sub fun b d hb hd=>k1 b d hd (g2 b hb).2.1,fun b hb=>⟨(g2 b hb).1,(fun h9=>by have:=g1.block hb;rw[f1 b h9]at this;cases this),(g2 b hb).2.2⟩⟩
 rcases List.mem_append.1 hq with hq | hq
 ·exact key q (h.ins q hq).1 (h.ins q hq).2
 ·simp at hq;subst hq;exact key q hp hf
theorem bV.start (h:bV L c vs K v1 v2 ps aJ)(hl:aJ.length<1000000){s:Int×Int}{k:AV→Lg→Prop}
  (hk:∀(v':AV) (K1:Lg),bV L c vs K1 v1 v' ps (aJ++[s])→vX (au v2) K K1→k v' K1) (hfree:∀b,K b=none→vf L c vs b):za F (.aC [.i .i64 0,.i .i64 0] 1 2 [0]) [.agg (nZ s)] K fun w X=>za F (.app 2 16) [v2,w] X k:=by
 refine h.o2.mI rfl rfl (zhA s) (by omega) (by omega) ?_
 intro v' K1 o2 k1 f1
 refine hk v' K1 ⟨h.o1.sub fun b d hb hd=>k1 b d hd (h.f1 b hb).2,by rw[zU];simpa[zl]using o2,fun q hq=>⟨(h.ins q hq).1.sub fun b d hb hd=>k1 b d hd ((h.ins q hq).2 b hb).2.2,fun b hb=>⟨((h.ins q hq).2 b hb).1,((h.ins q hq).2 b hb).2.1,fun h9=>by have:=(h.ins q hq).1.block hb;rw[f1 b h9]at this;cases this⟩⟩,fun b hb=>⟨(h.f1 b hb).1,fun h9=>by have:=h.o1.block hb;rw[f1 b h9]at this;cases this⟩,fun b hb=>hfree b (f1 b hb)⟩ k1
end
section
variable {L K:Lg} {c:Nat} {σ:Cs} {aM:List bf} {tv nv cv av:AV} {S:CX}
theorem zf4 {b:Nat}(h:∀v∈[tv,nv,cv,av],au v≠some b):∀(i:Nat) (p:Ai),(Ek σ aM tv nv cv av)[i]?=some p→au p.v≠some b:=by
 intro i p hp
 have hi:=(List.getElem?_eq_some_iff.1 hp).1
 simp[Ek]at hi
 have:i=0∨i=1∨i=2∨i=3:=by omega
 rcases this with rfl | rfl | rfl | rfl<;>simp[Ek]at hp<;>subst hp<;>exact h _ (by simp)
theorem XR.free (o:XR L c σ aM tv nv cv av K){b:Nat}(hb:K b=none):vf L c [tv,nv,cv,av] b:=by
 obtain⟨h1,h2,h3⟩:=o.g.ne hb
 refine⟨h2,h1,fun v hv=>?_⟩
 simp at hv
 rcases hv with rfl | rfl | rfl | rfl
 ·exact h3 0 _ rfl
 ·exact h3 1 _ rfl
 ·exact h3 2 _ rfl
 ·exact h3 3 _ rfl
theorem XR.keep (o:XR L c σ aM tv nv cv av K){K':Lg}{e:Option Nat}(h:vX e K K')(hf:∀b,e=some b→vf L c [tv,nv,cv,av] b):XR L c σ aM tv nv cv av K' :=
 ⟨o.g.keep h (fun h9=>(hf c h9).2.1 rfl) (fun i p hp b hb=>zf4 (hf b hb).2.2 i p hp) (fun b hb=>(hf b hb).1),o.n⟩
theorem iT.aB (h:iT σ aM){w k:Nat}{x x':One}(hx:σ.af[w]?=some x)(hk:x.node=(k:Int))(hn:x'.node=x.node):iT { σ with af:=σ.af.set w x' } (aM.set k (zJ w x')):=by
 have h0:=h.one w k x hx hk
 have dA:=(List.getElem?_eq_some_iff.1 h0).1
 refine⟨by simp[h.len],fun i j o ho hj=>?_,fun q j a ha hj=>?_⟩
 ·rcases wd ho with⟨rfl,rfl,_⟩ | ⟨hi,ho⟩
  ·have:j=k:=by rw[hn,hk]at hj;omega
   subst this
   rw[List.getElem?_set_self dA]
  ·have h1:=h.one i j o ho hj
   have j8:k≠j:=by rintro rfl;rw[h0]at h1;simp[zJ]at h1;omega
   rw[List.getElem?_set_ne j8];exact h1
 ·have h1:=h.cm q j a ha hj
  have j8:k≠j:=by rintro rfl;rw[h0]at h1;simp[zJ,wH]at h1
  rw[List.getElem?_set_ne j8];exact h1
theorem iT.od (h:iT σ aM){w k:Nat}{x x':cK}(hx:σ.ai[w]?=some x)(hk:x.node=(k:Int))(hn:x'.node=x.node):iT { σ with ai:=σ.ai.set w x' } (aM.set k (wH w x')):=by
 have h0:=h.cm w k x hx hk
 have dA:=(List.getElem?_eq_some_iff.1 h0).1
 refine⟨by simp[h.len],fun i j o ho hj=>?_,fun q j a ha hj=>?_⟩
 ·have h1:=h.one i j o ho hj
  have j8:k≠j:=by rintro rfl;rw[h0]at h1;simp[zJ,wH]at h1
  rw[List.getElem?_set_ne j8];exact h1
 ·rcases wd ha with⟨rfl,rfl,_⟩ | ⟨hi,ha⟩
  ·have:j=k:=by rw[hn,hk]at hj;omega
   subst this
   rw[List.getElem?_set_self dA]
  ·have h1:=h.cm q j a ha hj
   have j8:k≠j:=by rintro rfl;rw[h0]at h1;simp[wH]at h1;omega
   rw[List.getElem?_set_ne j8];exact h1
theorem wt {α:Type}{f:α→Int}{l:List α}{i:Nat}{x x':α}(hx:l[i]?=some x)(h:f x'=f x):(l.set i x').map f=l.map f:=by
 apply List.ext_getElem?
 intro j
 simp only[List.getElem?_map]
 by_cases hj:i=j
 ·subst hj
  rw[List.getElem?_set_self (List.getElem?_eq_some_iff.1 hx).1,hx];simp[h]
 ·rw[List.getElem?_set_ne hj]
theorem zfr (hf:pz F)(o:XR L c S.σ aM tv nv cv av K)(out:bE c S L){w:Nat}{x:One}(hx:S.σ.af[w]?=some x)(hsz:∀a,x.c=some a→(S.χ a).recvs.length+(S.χ a).aF.length≤1000000) :
  zd F fl [ptr x.c] K fun v K'=>∃L',XR L' c S.σ aM tv nv cv av K'∧bE c (S.cG x.c).1 L'∧fh c S.σ L L'∧(∀b,L b=none→L' b=none)∧dj K' v (zl Wk.cells (S.cG x.c).2) (S.cG x.c).2.length 5∧(∀b,au v=some b→K b=none)∧(∀b d,K b=some (.raw d)→K' b=some (.raw d)):=by
 have hmem:x∈S.σ.af:=List.mem_of_getElem? hx
 cases hc:x.c with
 | none =>
  refine (W2 hf K).mono ?_
  rintro v K' ⟨rfl,rfl⟩
  exact⟨L,o,out,fun r d _ _ _ h=>h,fun _ h=>h,.inl (bu.nil _ _),(fun b hb=>by cases hb),fun _ _ h=>h⟩
 | some a =>
  obtain⟨h1,h2,h3⟩:=out.bB x hmem a hc
  have hKa:=o.g.old a _ h1 h3
  refine (zbD hf hKa (hsz a hc)).mono ?_
  intro v K' li
  have o2:=(o.bY h1 h3 (.abs (YH a (S.χ a).cB.1))).sub li.s
  refine⟨_,o2,⟨fun s hs=>?_,fun y hy q hq=>?_⟩,fun r d hr ht hcs hd=>?_,fun b hb=>?_,li.o,fun b hb=>?_,fun b d hb=>?_⟩
  ·have:=out.bQ s hs
   have hsa:s≠a:=by rintro rfl;exact h2 hs
   exact⟨this.1,by rw[zb _ _ _ hsa];exact this.2⟩
  ·obtain⟨g1,g2,g3⟩:=out.bB y hy q hq
   refine⟨g1,g2,?_⟩
   by_cases hqa:q=a
   ·subst hqa;rw[ze];simp[CX.cG,xd]
   ·rw[zb _ _ _ hqa,g3];simp[CX.cG,xd,hqa]
  ·rw[zb _ _ _ (by rintro rfl;exact hcs x hmem hc)];exact hd
  ·rw[zb _ _ _ (by rintro rfl;rw[h3]at hb;cases hb)];exact hb
  ·have:=li.f b hb
   rw[zb _ _ _ (by rintro rfl;rw[ze]at this;cases this)]at this;exact this
  ·exact li.s b _ (by rw[zb _ _ _ (by rintro rfl;rw[hKa]at hb;cases hb)];exact hb)
theorem zc8 (hf:Ba F)(o:XR L c S.σ aM tv nv cv av K)(out:bE c S L){B:Int}(tf:aQ S.τ B){u:Nat}(hu:S.σ.t=some u){id:Int}(hc:∀w,S.τ.one id=some w→w.c=none) :
  zd F iI [.p (some (u,0)),.i .i64 id] K fun v K'=>(∃p q,v=.ay [p,q])∧∃L',XR L' c S.σ aM tv nv cv av K'∧bE c (S.bp id) L'∧fh c S.σ L L'∧(∀b,L b=none→L' b=none)∧(∀b d,K b=some (.raw d)→K' b=some (.raw d))∧aQ (S.bp id).τ B:=by
 obtain⟨h1,h2⟩:=out.bQ u hu
 have hKu:=o.g.old u _ h1 h2
 cases ho:S.τ.one id with
 | none =>
  refine (zdc hf hKu id ho).mono ?_
  rintro v K' ⟨rfl,rfl⟩
  have:S.bp id=S:=by unfold CX.bp;rw[hu];simp only[ho]
  rw[this]
  exact⟨⟨_,_,rfl⟩,L,o,out,fun r d _ _ _ h=>h,fun _ h=>h,fun _ _ h=>h,tf⟩
 | some w =>
  have hw:=hc w ho
  refine (zda hf hKu tf id ho (x:=.tm) rfl (fun a ha=>by rw[hw]at ha;cases ha)).mono ?_
  rintro v K' ⟨rfl,rfl⟩
  rw[hw]
  have:S.bp id={ S with τ:={ S.τ with x:=S.τ.x.stop id } }:=by unfold CX.bp;rw[hu];simp only[ho]
  rw[this]
  refine⟨⟨_,_,rfl⟩,_,o.bY h1 h2 _,⟨fun s hs=>?_,fun y hy q hq=>?_⟩,fun r d hr ht _ hd=>?_,fun b hb=>?_,fun b d hb=>?_,⟨tf.g.stop id,tf.b,tf.o,tf.n⟩⟩
  ·have:s=u:=by rw[hu]at hs;cases hs;rfl
   subst this
   exact⟨h1,ze _ _ _⟩
  ·obtain⟨g1,g2,g3⟩:=out.bB y hy q hq
   exact⟨g1,g2,by rw[zb _ _ _ (by rintro rfl;exact g2 hu)];exact g3⟩
  ·rw[zb _ _ _ (by rintro rfl;exact ht hu)];exact hd
  ·rw[zb _ _ _ (by rintro rfl;rw[h2]at hb;cases hb)];exact hb
  ·simp only[Lg.fj]
   rw[zb _ _ _ (by rintro rfl;rw[hKu]at hb;cases hb)];exact hb
end
def xI (S:CX)(i:Nat):Prop:=∀(q:Nat) (x:cK),S.σ.who i=some (-(q:Int)-1)→S.σ.ai[q]?=some x→x.ak=false
theorem VT (T:List Nd)(err cause:Int)(A:Nat→Bool)(l1 l2:List Nat)(acc:Za):walked T err cause A (l1++l2) acc=walked T err cause (fun i=>A i||decide (i∈l1)) l2 (walked T err cause A l1 acc):=by
 simp only[walked,List.foldl_append]
 obtain⟨X1,X2,X3⟩:=l1.foldl (ya err cause) acc
 rw[Wa]
 simp only
 have hA3:(fun i=>A i||decide (i∈l1)||decide (i∈l2))=fun i=>A i||decide (i∈l1++l2):=by
  funext i;simp[Bool.or_assoc]
 rw[hA3]
 rfl
theorem xI.hit {T:List Nd}{acc:Za}{i j:Nat}(err cause:Int)(h:xI acc.1 i)(hi:xh T acc.1 i)(hj:xh T acc.1 j)(hij:i≠j):xI (ya err cause acc j).1 i:=by
 have hk:=wn err cause acc j
 intro q x hq hx
 rw[hk.1]at hq
 rcases hj with⟨w,y,h1,h2,h3,_⟩ | ⟨w,y,h1,h2,h3,h4,_⟩
 ·have HO:¬((w:Int)<0):=by omega
  have:(ya err cause acc j).1.σ.ai=acc.1.σ.ai:=by
   unfold ya
   simp only[h1,Option.getD_some,HO,if_false,Int.toNat_natCast,h2]
   rw[(xV _ _).1,(wo _ _).1];rfl
  rw[this]at hx
  exact h q x hq hx
 ·have hneg:(-(w:Int)-1)<0:=by omega
  have hkk:(-(-(w:Int)-1)-1)=(w:Int):=by omega
  have he:(ya err cause acc j).1.σ.ai=acc.1.σ.ai.set w { y with ak:=true }:=by
   unfold ya
   simp only[h1,Option.getD_some,hneg,if_true,hkk,Int.toNat_natCast,h3]
  rw[he]at hx
  rcases wd hx with⟨rfl,rfl,_⟩ | ⟨_,hx⟩
  ·rcases hi with⟨w',y',g1,_⟩ | ⟨w',y',g1,g2,g3,g4,_⟩
   ·rw[hq]at g1;simp at g1;omega
   ·rw[hq]at g1;simp at g1
    have:w'=w:=by omega
    subst this
    rw[h3]at g3;cases g3
    rw[h4]at g4;omega
  ·exact h q x hq hx
theorem xI.MY {T:List Nd}(err cause:Int):∀(l:List Nat) (acc:Za),(∀i∈l,xh T acc.1 i)→l.Nodup→∀i,xh T acc.1 i→i∉l→xI acc.1 i→xI (l.foldl (ya err cause) acc).1 i
 | [],acc,_,_,i,_,_,h=>h
 | a::r,acc,hl,hn,i,hi,bK,h=>by
  simp at bK
  have ha:=hl a (by simp)
  have hn':=List.nodup_cons.1 hn
  simp only[List.foldl_cons]
  exact xI.MY err cause r _ (fun j hj=>(hl j (by simp[hj])).hit err cause ha (by rintro rfl;exact hn'.1 hj)) hn'.2 i (hi.hit err cause ha bK.1) bK.2 (h.hit err cause hi ha bK.1)
end
section
variable {F:Nat→Option aT}
theorem fh.refl (c:Nat)(σ:Cs)(L:Lg):fh c σ L L:=fun _ _ _ _ _ h=>h
theorem zeS {σ σ':Cs}(hn:σ'.names=σ.names){r:Nat}(h:∀o∈σ.af,o.c≠some r):∀o∈σ'.af,o.c≠some r:=by
 intro o ho
 have h1:(o.c,o.node)∈σ'.names:=List.mem_map.2 ⟨o,ho,rfl⟩
 rw[hn]at h1
 obtain⟨p,hp,he⟩:=List.mem_map.1 h1
 have:=h p hp
 simp only[Prod.mk.injEq]at he
 rw[←he.1];exact this
theorem fh.trans {c:Nat}{σ σ':Cs}{L L1 L2:Lg}(h:fh c σ L L1)(ht:σ'.t=σ.t)(hn:σ'.names=σ.names)(k:fh c σ' L1 L2):fh c σ L L2:=fun r d h1 h2 h3 h4=>k r d h1 (by rw[ht];exact h2) (zeS hn h3) (h r d h1 h2 h3 h4)
section
variable {L K:Lg} {c:Nat} {σ:Cs} {aM:List bf} {tv nv cv av:AV} {S:CX}
theorem zaV {p:Ai}{i:Nat}(hp:(Ek σ aM tv nv cv av)[i]?=some p):p.v∈[tv,nv,cv,av]:=by
 have hi:=(List.getElem?_eq_some_iff.1 hp).1
 simp[Ek]at hi
 have:i=0∨i=1∨i=2∨i=3:=by omega
 rcases this with rfl | rfl | rfl | rfl<;>simp[Ek]at hp<;>subst hp<;>simp
theorem XR.ET (o:XR L c σ aM tv nv cv av K){b:Nat}{d:LC}(hb:K b=some d)(hf:vf L c [tv,nv,cv,av] b):XR (L.put b d) c σ aM tv nv cv av K:=by
 refine⟨⟨o.g.root,o.g.own,fun i p hp q hq=>⟨(o.g.ap i p hp q hq).1,?_⟩,o.g.nd,fun q e hq he=>?_⟩,o.n⟩
 ·rw[zb _ _ _ (by rintro rfl;exact hf.2.2 _ (zaV hp) hq)];exact (o.g.ap i p hp q hq).2
 ·rw[Lg.ah]at he
  split at he
  ·rename_i h9;rw[h9,hb];exact he
  ·exact o.g.old q e hq he
theorem bE.Ft (out:bE c S L)(ns:List Nd):bE c (S.aD ns) L:=⟨out.bQ,out.bB⟩
theorem bE.put (out:bE c S L){b:Nat}(hb:L b=none)(d:LC):bE c S (L.put b d):=by
 have ne:∀{r:Nat} {P:LC},L r=some P→r≠b:=fun h=>by rintro rfl;rw[hb]at h;cases h
 exact⟨fun s hs=>⟨(out.bQ s hs).1,by rw[zb _ _ _ (ne (out.bQ s hs).2)];exact (out.bQ s hs).2⟩,fun o ho a ha=>⟨(out.bB o ho a ha).1,(out.bB o ho a ha).2.1,by rw[zb _ _ _ (ne (out.bB o ho a ha).2.2)];exact (out.bB o ho a ha).2.2⟩⟩
end
def zhl (F:Nat→Option aT)(N:Nat→Nat)(T:List Nd)(n:Nat):Prop :=
 ∀(c k:Nat) (A:Nat→Bool) (S:CX) (err cause B:Int) (L K:Lg) (aM:List bf) (tv nv cv av v1 v2:AV) (ps:List (cx×AV)) (aJ:List (Int×Int)),
 T.length<k+n→k<T.length→S.σ.tree=yd T A→(∀i∈pre T n k,A i=false)→(∀i∈pre T n k,xh T S i)→(∀i∈pre T n k,xI S i)→aQ S.τ B →
 XR L c S.σ aM tv nv cv av K→bE c S L→bV L c [tv,nv,cv,av] K v1 v2 ps aJ→ps.length+(pre T n k).length≤900000→aJ.length+(pre T n k).length≤900000 →
 zd F cW [.p (some (c,0)),.i .i64 k,.i .i64 err,.i .i64 cause,v1,v2] K fun v K'=>∃(R:Za) (L':Lg) (bz:List bf) (w1 w2:AV) (ps':List (cx×AV)),
  R=walked T err cause A (pre T n k) (S,ps.map (·.1),aJ)∧v=.ay [w1,w2]∧XR L' c R.1.σ bz tv nv cv av K'∧bE c R.1 L'∧fh c S.σ L L'∧bV L' c [tv,nv,cv,av] K' w1 w2 ps' R.2.2∧ps'.map (·.1)=R.2.1∧aQ R.1.τ B∧R.1.σ.t=S.σ.t∧R.1.σ.names=S.σ.names
section
variable {L K:Lg} {c:Nat} {σ:Cs} {aM:List bf} {tv nv cv av:AV} {S:CX}
theorem VD (T:List Nd)(A:Nat→Bool)(k:Nat):yd (yd T A) (fun i=>decide (i=k))=yd T fun i=>A i||decide (i∈[k]):=by
 rw[ZX];congr 1;funext i;simp
theorem zgE (hf:pE F){T:List Nd}{k:Nat}{A:Nat→Bool}{err cause B:Int}{v1 v2:AV}{ps:List (cx×AV)}{aJ:List (Int×Int)}{Q:AV→Lg→Prop}{E:Env}
  (hS:S.σ.tree=yd T A) (hk:k<T.length) (tf:aQ S.τ B) (o:XR L c S.σ aM tv nv cv av K) (out:bE c S L) (rr:bV L c [tv,nv,cv,av] K v1 v2 ps aJ) (hs:aJ.length<900000)
  {q:Nat} {x:cK} (h1:S.σ.who k=some (-(q:Int)-1)) (h3:S.σ.ai[q]?=some x) (h4:x.node=(k:Int)) (ho:x.ak=false) {b:Nat} (hb:au nv=some b)
  (e0:E 0=.p (some (c,0))) (e1:E 1=.i .i64 k) (e4:E 4=v1) (e5:E 5=v2) (e14:E 14=.p (some (b,k * 12)))
  (hQ:∀(w2:AV) (K':Lg) (bz:List bf),XR L c (walked T err cause A [k] (S,ps.map (·.1),aJ)).1.σ bz tv nv cv av K'→bV L c [tv,nv,cv,av] K' v1 w2 ps (walked T err cause A [k] (S,ps.map (·.1),aJ)).2.2→Q (.ay [v1,w2]) K'):dI F Q E (.b true) K:=by
 unfold dI
 rw[e0,e1,e4,e5,e14]
 have hx:=o.n.cm q k x h3 h4
 have dA:=(List.getElem?_eq_some_iff.1 hx).1
 have r3:aq K (b,k * 12+3) none=some (.b false):=by rw[o.rn hb hx (by omega)];simp[wH,bf.cells,ho]
 have dZ:=o.ns.block hb
 simp only[zf,z9,zh,zk,zt,r3,zg,yf,Bool.not_false,yj]
 rw[zD dZ (by rw[zY bf.len];omega) rfl]
 have fc:(zl bf.cells aM).set (k * 12+3) (.b true)=zl bf.cells (aM.set k (wH q { x with ak:=true })):=xm bf.len aM k (wH q x) (wH q { x with ak:=true }) 3 _ hx (by omega) rfl
 rw[fc]
 have o1:=o.node hb (σ':={ S.σ with ai:=S.σ.ai.set q { x with ak:=true } }) (bz:=aM.set k (wH q { x with ak:=true })) (by simp) rfl rfl rfl (wt h3 rfl) (o.n.od h3 h4 rfl)
 have NL:bV L c [tv,nv,cv,av] (K.put b (.raw (.cells (zl bf.cells (aM.set k (wH q { x with ak:=true })))))) v1 v2 ps aJ:=rr.keep (fun q' y hq hy=>by rw[zb _ _ _ (by rintro rfl;exact hq.2.2 nv (by simp) hb)];exact hy) (fun q' hq _=>hq.1)
 generalize (K.put b (.raw (.cells (zl bf.cells (aM.set k (wH q { x with ak:=true }))))))=K1 at o1 NL
 have hx1:(aM.set k (wH q { x with ak:=true }))[k]?=some (wH q { x with ak:=true }):=List.getElem?_set_self dA
 have r1:aq K1 (b,k * 12+1) none=some (.i .i64 q):=by rw[o1.rn hb hx1 (by omega)];rfl
 have r2:aq K1 (b,k * 12+2) none=some (.i .i64 x.prog):=by rw[o1.rn hb hx1 (by omega)];rfl
 have hbd:∀k':AV→Lg→Prop,za F (.build [.i .i64 0,.i .i64 0] [(0,1),(1,1)]) [.i .i64 q,.i .i64 x.prog] K1 k'=k' (.agg (nZ ((q:Int),x.prog))) K1:=by
  intro k';simp[zF,zo,zp,zq,nZ]
 simp only[zf,zh,zk,zt,r1,r2,zg,hbd]
 refine NL.start (by omega) ?_ (fun b' hb'=>o1.free hb')
 intro w2 K2 Ms k2
 have o2:=o1.keep k2 (fun b' hb'=>NL.f2 b' hb')
 simp only[zf,zh,zk,Nat.zero_add]
 refine (Zt hf o2 (k:=k) (by rw[hS,yD];exact hk)).mono ?_
 rintro _ K3 ⟨⟨bb,rfl⟩,o3,k3⟩
 have hneg:(-(q:Int)-1)<0:=by omega
 have hkk:(-(-(q:Int)-1)-1)=(q:Int):=by omega
 have hw:walked T err cause A [k] (S,ps.map (·.1),aJ)=(({ S with σ:={ S.σ with ai:=S.σ.ai.set q { x with ak:=true } } }:CX).aD (yd T fun i=>A i||decide (i∈[k])),ps.map (·.1),aJ++[((q:Int),x.prog)]):=by
  unfold walked ya
  simp only[List.foldl_cons,List.foldl_nil,h1,Option.getD_some,hneg,if_true,hkk,Int.toNat_natCast,h3]
 refine⟨K3,zx.refl _,hQ w2 K3 (aM.set k (wH q { x with ak:=true })) ?_ ?_⟩
 ·rw[hw]
  simp only[CX.aD]
  rw[←VD,←hS]
  exact o3
 ·rw[hw]
  exact Ms.keep (fun q' y hq hy=>by rw[k3 q' (hq.2.2 tv (by simp))];exact hy) (fun q' hq _=>hq.1)
theorem zfj (hf:ef F){T:List Nd}(ht:bL T){n k:Nat}(ih:zhl F N T n){err cause B:Int}{Q:AV→Lg→Prop}{aM:List bf}{A:Nat→Bool}{S0:CX}{v1 v2:AV}{ps:List (cx×AV)}{aJ:List (Int×Int)}{E:Env}
  (hn:T.length<k+n+1) (hk:k<T.length) (hS:S.σ.tree=yd T A) (hA:∀j∈zK T (k:Int),∀i∈pre T n j,A i=false) (hL:∀j∈zK T (k:Int),∀i∈pre T n j,xh T S i∧xI S i) (tf:aQ S.τ B)
  (o:XR L c S.σ aM tv nv cv av K) (out:bE c S L) (rr:bV L c [tv,nv,cv,av] K v1 v2 ps aJ) (hp:ps.length+((zK T (k:Int)).flatMap (pre T n)).length≤900000) (hs:aJ.length+((zK T (k:Int)).flatMap (pre T n)).length≤900000)
  {v15:AV} (h15:dj K v15 (zl fI ((zK T (k:Int)).map fun (i:Nat)=>(i:Int))) (zK T (k:Int)).length 1) (f15:∀b,au v15=some b→L b=some (.raw (.cells (zl fI ((zK T (k:Int)).map fun (i:Nat)=>(i:Int)))))∧b≠c)
  (e0:E 0=.p (some (c,0))) (e1:E 1=.i .i64 k) (e2:E 2=.i .i64 err) (e3:E 3=.i .i64 cause) (e4:E 4=v1) (e5:E 5=v2) (e15:E 15=v15)
  (hQ:∀(R:Za) (L':Lg) (bz:List bf) (w1 w2:AV) (ps':List (cx×AV)) (K':Lg),R=((walked T err cause A ((zK T (k:Int)).flatMap (pre T n)) (S,ps.map (·.1),aJ)).1.aD (yd T fun i=>(A i||decide (i∈(zK T (k:Int)).flatMap (pre T n)))||decide (i∈[k])),(walked T err cause A ((zK T (k:Int)).flatMap (pre T n)) (S,ps.map (·.1),aJ)).2)→XR L' c R.1.σ bz tv nv cv av K'→bE c R.1 L'→fh c S.σ L L'→bV L' c [tv,nv,cv,av] K' w1 w2 ps' R.2.2→ps'.map (·.1)=R.2.1→aQ R.1.τ B→R.1.σ.t=S.σ.t→R.1.σ.names=S.σ.names→Q (.ay [w1,w2]) K') :
  gk F Q E K:=by
 obtain⟨js,hjs⟩:∃js,js=zK T (k:Int):=⟨_,rfl⟩
 have hTl:=ht.len
 have hjl:js.length≤1000:=by rw[hjs];exact Nat.le_trans (vG _ _) hTl
 have hpw:js.Pairwise (fun a b=>a<b):=by rw[hjs];exact List.Pairwise.sublist List.filter_sublist List.pairwise_lt_range
 unfold gk lX
 rw[←hjs]at hA hL hp hs h15 f15 hQ
 obtain⟨W,hW⟩:∃W,W=walked T err cause A (js.flatMap (pre T n)) (S,ps.map (·.1),aJ):=⟨_,rfl⟩
 obtain⟨I,hI⟩:∃I:Nat→Env→Lg→Prop,I=fun m E K'=>∃(i:Nat) (A':Nat→Bool) (S':CX) (L':Lg) (bz:List bf) (w1 w2:AV) (ps':List (cx×AV)) (gJ:List (Int×Int)),m+i=js.length∧i≤js.length ∧
   S'.σ.tree=yd T A'∧(∀j∈js.drop i,∀q∈pre T n j,A' q=false)∧(∀j∈js.drop i,∀q∈pre T n j,xh T S' q∧xI S' q)∧aQ S'.τ B∧XR L' c S'.σ bz tv nv cv av K'∧bE c S' L'∧fh c S.σ L L'∧bV L' c [tv,nv,cv,av] K' w1 w2 ps' gJ ∧
   S'.σ.t=S.σ.t∧S'.σ.names=S.σ.names∧ps'.length+((js.drop i).flatMap (pre T n)).length≤900000∧gJ.length+((js.drop i).flatMap (pre T n)).length≤900000∧W=walked T err cause A' ((js.drop i).flatMap (pre T n)) (S',ps'.map (·.1),gJ)∧(∀q,A' q=(A q||decide (q∈(js.take i).flatMap (pre T n)))) ∧
   dj K' v15 (zl fI (js.map fun (i:Nat)=>(i:Int))) js.length 1∧(∀b,au v15=some b→L' b=some (.raw (.cells (zl fI (js.map fun (i:Nat)=>(i:Int)))))∧b≠c) ∧
   E 0=.p (some (c,0))∧E 1=.i .i64 k∧E 2=.i .i64 err∧E 3=.i .i64 cause∧E 4=w1∧E 5=w2∧E 15=v15∧E 16=.i .i64 i:=⟨_,rfl⟩
 refine zN I js.length ?_ ?_
 ·rw[hI]
  refine⟨0,A,S,L,aM,v1,v2,ps,aJ,by omega,by omega,hS,by simpa using hA,by simpa using hL,tf,o,out,fh.refl _ _ _,rr,rfl,rfl,by simpa using hp,by simpa using hs,by simpa using hW,by simp,h15,f15,by simp[e0],by simp[e1],by simp[e2],by simp[e3],by simp[e4],by simp[e5],by simp[e15],by simp⟩
 intro m E t K' hi
 rw[hI]at hi
 obtain⟨i,A',S',L',bz,w1,w2,ps',gJ,hm,hij,hS',hA',hL',NI,o',out',fr',Hv,ht',hn',hp',hs',TB,hAA,TM,znf,e0,e1,e2,e3,e4,e5,e15,e16⟩:=hi
 have s15:cI fI 1 K' v15 (js.map fun (i:Nat)=>(i:Int)):=dj.El Yx (by simpa using TM)
 have hlen:∀(X:Lg) (k:AV→Lg→Prop),za F .ax [v15] X k=k (.i .i64 js.length) X:=fun X k=>by have:=s15.len (F:=F) X k;simpa using this
 unfold lW
 rw[e0,e1,e2,e3,e4,e5,e15,e16]
 simp only[zf,hlen,yP,zM]
 refine⟨fun hlt=>?_,fun Bu=>?_⟩
 rotate_left
 ·-- all kids have zp9
  have MZ:i=js.length:=by omega
  subst MZ
  rw[List.drop_length]at TB
  have hwn:W=(S',ps'.map (·.1),gJ):=by
   rw[TB]
   simp only[walked,List.flatMap_nil,List.foldl_nil]
   have:(yd T fun i=>A' i||decide (i∈([]:List Nat)))=S'.σ.tree:=by rw[hS'];congr 1;funext i;simp
   rw[this];rfl
  unfold lY
  simp only[zf,zh,zk,Nat.zero_add]
  refine (Zt hf.Nm o' (k:=k) (by rw[hS',yD];exact hk)).mono ?_
  rintro _ K3 ⟨⟨bb,rfl⟩,o3,k3⟩
  have zlk:(yd S'.σ.tree fun i=>decide (i=k))=yd T fun i=>(A i||decide (i∈js.flatMap (pre T n)))||decide (i∈[k]):=by
   rw[hS',VD]
   congr 1;funext q
   rw[hAA q,List.take_length]
  have hR:(S'.aD (yd S'.σ.tree fun i=>decide (i=k)),ps'.map (·.1),gJ)=(W.1.aD (yd T fun i=>(A i||decide (i∈js.flatMap (pre T n)))||decide (i∈[k])),W.2):=by
   rw[hwn,zlk]
  rw[hW]at hR
  refine⟨K3,zx.refl _,hQ _ L' bz w1 w2 ps' K3 hR o3 (out'.Ft _) fr' ?_ rfl NI ht' hn'⟩
  exact Hv.keep (fun q' y hq hy=>by rw[k3 q' (hq.2.2 tv (by simp))];exact hy) (fun q' hq _=>hq.1)
 -- one Ev
 have bK:i<js.length:=by omega
 have hx:js[i]?=some js[i]:=List.getElem?_eq_getElem bK
 have Ma:js.drop i=js[i]::js.drop (i+1):=List.drop_eq_getElem_cons bK
 have gu:js.take (i+1)=js.take i++[js[i]]:=by rw[List.take_add_one,hx];rfl
 have hlt:∀j2∈js.drop (i+1),js[i]<j2:=by
  intro j2 hj2
  obtain⟨q,hq⟩:=List.mem_iff_getElem?.1 hj2
  rw[List.getElem?_drop]at hq
  obtain⟨h8,h9⟩:=List.getElem?_eq_some_iff.1 hq
  have:=(List.pairwise_iff_getElem.1 hpw) i (i+1+q) bK h8 (by omega)
  rw[h9]at this;exact this
 generalize js[i]=j at hx Ma gu hlt
 have hjm:j∈zK T (k:Int):=by rw[←hjs];exact List.mem_of_getElem? hx
 have j8:=yY ht hjm
 rw[Ma]at hA' hL' hp' hs' TB
 simp only[List.flatMap_cons,List.length_append]at hp' hs'
 have w1i:wr .i64 ((i:Int)+1)=((i+1:Nat):Int):=by rw[zT (by omega) (by omega)];omega
 obtain⟨b15,q15,g1,g2,_⟩:=s15.get (F:=F) (i:=i) (x:=(j:Int)) (by rw[List.getElem?_map,hx];rfl)
 have rj:aq K' (b15,q15) none=some (.i .i64 j):=(g2 K' (zQ.refl _)).1 0 (by omega)
 simp only[zf,g1,zt,rj,zg]
 have Oz:∀q∈pre T n j,xh T S' q:=fun q hq=>(hL' j (by simp) q hq).1
 have hNj:∀q∈pre T n j,xI S' q:=fun q hq=>(hL' j (by simp) q hq).2
 refine (ih c j A' S' err cause B L' K' bz tv nv cv av w1 w2 ps' gJ (by omega) j8.2 hS' (hA' j (by simp)) Oz hNj NI o' out' Hv (by omega) (by omega)).mono ?_
 rintro _ K2 ⟨R,L2,Fz,x1,x2,ps2,hR,rfl,o2,mV,OE,Ms,HM,Qf,FK,hn2⟩
 simp only[zf,yi,List.getElem?_cons_zero,List.getElem?_cons_succ,zg,y6,w1i]
 have hkeep:=Zm err cause (pre T n j) (S',ps'.map (·.1),gJ) Oz (wg ht n j)
 have hno:=fun q h1 h2 h3=>xI.MY (T:=T) err cause (pre T n j) (S',ps'.map (·.1),gJ) Oz (wg ht n j) q h1 h2 h3
 simp only at hkeep
 obtain⟨k1,k2,k3,k4,k5,k6⟩:=hkeep
 have hap:∀j'∈js.drop (i+1),∀q∈pre T n j',q∉pre T n j:=fun j' hj' q hq h9=>XU ht hjm (by rw[←hjs];exact List.mem_of_mem_drop hj') (hlt j' hj') n n q h9 hq
 have hR1:R.1=((pre T n j).foldl (ya err cause) (S',ps'.map (·.1),gJ)).1.aD (yd T fun q=>A' q||decide (q∈pre T n j)):=by rw[hR];rfl
 have hR2:R.2=((pre T n j).foldl (ya err cause) (S',ps'.map (·.1),gJ)).2:=by rw[hR];rfl
 have hRl:ps2.length≤ps'.length+(pre T n j).length:=by
  have:=congrArg List.length HM
  rw[hR2]at this
  simp only[List.length_map]at this k4
  omega
 have hRs:R.2.2.length≤gJ.length+(pre T n j).length:=by rw[hR2];exact k5
 rw[hI]
 refine⟨m-1,by omega,i+1,fun q=>A' q||decide (q∈pre T n j),R.1,L2,Fz,x1,x2,ps2,R.2.2,by omega,by omega,by rw[hR1];rfl,?_,?_,Qf,o2,mV,fr'.trans ht' hn' OE,Ms,FK.trans ht',hn2.trans hn',by omega,by omega,?_,?_,?_,?_,by simp[e0],by simp[e1],by simp[e2],by simp[e3],by simp,by simp,by simp[e15],by simp⟩
 ·intro j' hj' q hq
  have h1:=hA' j' (by simp[hj']) q hq
  have h2:=hap j' hj' q hq
  simp[h1,h2]
 ·intro j' hj' q hq
  have h1:=hL' j' (by simp[hj']) q hq
  have h2:=hap j' hj' q hq
  rw[hR1]
  exact⟨(k6 q h1.1 h2).tree _,hno q h1.1 h2 h1.2⟩
 ·rw[TB,List.flatMap_cons,VT,←hR]
  congr 1
  rw[HM]
 ·intro q
  show (A' q||decide (q∈pre T n j))=_
  rw[gu,List.flatMap_append,hAA q]
  simp[Bool.or_assoc]
 ·refine TM.sub fun b d hb hd=>?_
  obtain⟨f1,f2⟩:=znf b hb
  have fL2:=OE b _ f2 (fun h9=>by have:=(out'.bQ b h9).2;rw[f1]at this;cases this) (fun y hy h9=>by have:=(out'.bB y hy b h9).2.2;rw[f1]at this;cases this) f1
  have e1:=TM.block hb
  rw[e1]at hd
  rw[←hd]
  exact o2.g.old b _ f2 fL2
 ·intro b hb
  obtain⟨f1,f2⟩:=znf b hb
  exact⟨OE b _ f2 (fun h9=>by have:=(out'.bQ b h9).2;rw[f1]at this;cases this) (fun y hy h9=>by have:=(out'.bB y hy b h9).2.2;rw[f1]at this;cases this) f1,f2⟩
end
end
section
variable {F:Nat→Option aT}
section
variable {L K:Lg} {c:Nat} {tv nv cv av:AV} {S:CX}
theorem vh {S:CX}{w:Nat}{x x':One}(hx:S.σ.af[w]?=some x)(h1:x'.c=x.c)(h2:x'.node=x.node):(S.aB w x').σ.names=S.σ.names:=by
 simp only[Cs.names,CX.aB]
 apply List.ext_getElem?
 intro j
 simp only[List.getElem?_map]
 by_cases hj:w=j
 ·subst hj
  rw[List.getElem?_set_self (List.getElem?_eq_some_iff.1 hx).1,hx];simp[h1,h2]
 ·rw[List.getElem?_set_ne hj]
theorem zbt (hf:ef F){T:List Nd}(ht:bL T):∀n,zhl F N T n
 | 0=>by intro c k A S err cause B L K aM tv nv cv av v1 v2 ps aJ h1 h2;omega
 | n+1=>by
  intro c k A S err cause B L K aM tv nv cv av v1 v2 ps aJ hn hk hS hA hL hN tf o out rr hp hs
  have ih:=zbt hf ht n
  have iN:k∈pre T (n+1) k:=by simp[pre]
  have hTl:=ht.len
  have dR:∀j∈zK T (k:Int),∀i∈pre T n j,i∈pre T (n+1) k∧i≠k:=fun j hj i hi=>by
   have h3:=yY ht hj
   have h4:=(Zg ht _ _ _ hi).1
   refine⟨?_,by omega⟩
   simp only[pre,List.mem_cons,List.mem_flatMap]
   exact .inr ⟨j,hj,hi⟩
  have hpre:pre T (n+1) k=k::(zK T (k:Int)).flatMap (pre T n):=rfl
  refine zr ?_
  intro Q hQ
  apply IJ hf.code
  generalize hE:zI [AV.p (some (c,0)),.i .i64 k,.i .i64 err,.i .i64 cause,v1,v2] 0=E
  have e0:E 0=.p (some (c,0)):=by rw[←hE];simp[zI]
  have e1:E 1=.i .i64 k:=by rw[←hE];simp[zI]
  have e2:E 2=.i .i64 err:=by rw[←hE];simp[zI]
  have e3:E 3=.i .i64 cause:=by rw[←hE];simp[zI]
  have e4:E 4=v1:=by rw[←hE];simp[zI]
  have e5:E 5=v2:=by rw[←hE];simp[zI]
  clear hE
  unfold jf je
  have f0:(Env.put (Env.put E 12 (.sl none 0 0 0)) 13 (.sl none 0 0 0)) 0=.p (some (c,0)):=by simp[e0]
  have f1:(Env.put (Env.put E 12 (.sl none 0 0 0)) 13 (.sl none 0 0 0)) 1=.i .i64 k:=by simp[e1]
  have f2:(Env.put (Env.put E 12 (.sl none 0 0 0)) 13 (.sl none 0 0 0)) 2=.i .i64 err:=by simp[e2]
  have f3:(Env.put (Env.put E 12 (.sl none 0 0 0)) 13 (.sl none 0 0 0)) 3=.i .i64 cause:=by simp[e3]
  have f4:(Env.put (Env.put E 12 (.sl none 0 0 0)) 13 (.sl none 0 0 0)) 4=v1:=by simp[e4]
  have f5:(Env.put (Env.put E 12 (.sl none 0 0 0)) 13 (.sl none 0 0 0)) 5=v2:=by simp[e5]
  generalize (Env.put (Env.put E 12 (.sl none 0 0 0)) 13 (.sl none 0 0 0))=E1 at f0 f1 f2 f3 f4 f5
  clear e0 e1 e2 e3 e4 e5
  have hkn:k<aM.length:=by rw[o.n.len,hS,yD];exact hk
  obtain⟨b,hb,dZ,Sp⟩:=o.nb (F:=F) hkn
  rw[f0,f1]
  simp only[zf,zh,zk,Nat.zero_add,zt,o.f2,zg,Sp]
  have g0:(Env.put E1 14 (.p (some (b,k * 12)))) 0=.p (some (c,0)):=by simp[f0]
  have g1:(Env.put E1 14 (.p (some (b,k * 12)))) 1=.i .i64 k:=by simp[f1]
  have g2:(Env.put E1 14 (.p (some (b,k * 12)))) 2=.i .i64 err:=by simp[f2]
  have g3:(Env.put E1 14 (.p (some (b,k * 12)))) 3=.i .i64 cause:=by simp[f3]
  have g4:(Env.put E1 14 (.p (some (b,k * 12)))) 4=v1:=by simp[f4]
  have g5:(Env.put E1 14 (.p (some (b,k * 12)))) 5=v2:=by simp[f5]
  have Jv:(Env.put E1 14 (.p (some (b,k * 12)))) 14=.p (some (b,k * 12)):=by simp
  generalize (Env.put E1 14 (.p (some (b,k * 12))))=E2 at g0 g1 g2 g3 g4 g5 Jv
  clear f0 f1 f2 f3 f4 f5 E1
  unfold gj
  rw[Jv]
  rcases hL k iN with⟨w,x,q1,q2,q3,q4,q5,q6,q7⟩ | ⟨q,x,q1,q2,q3,q4,q5⟩
  case inr =>
   have hx:=o.n.cm q k x q3 q4
   have r0:aq K (b,k * 12) none=some (.b true):=by have:=o.rn hb hx (j:=0) (by omega);simpa[wH,bf.cells]using this
   simp only[zf,zh,zk,Nat.add_zero,zt,r0,zg]
   have hpk:pre T (n+1) k=[k]:=by rw[hpre,q5];rfl
   rw[hpk]at hs
   refine zgE (err:=err) (cause:=cause) hf.Nm hS hk tf o out rr (by simp at hs;omega) q1 q3 q4 (hN k iN q x q1 q3) hb g0 g1 g4 g5 Jv ?_
   intro w2 K' bz o' Hv
   rw[←hpk]at o' Hv
   have hneg:(-(q:Int)-1)<0:=by omega
   have hkk:(-(-(q:Int)-1)-1)=(q:Int):=by omega
   have hw:walked T err cause A [k] (S,ps.map (·.1),aJ)=(({ S with σ:={ S.σ with ai:=S.σ.ai.set q { x with ak:=true } } }:CX).aD (yd T fun i=>A i||decide (i∈[k])),ps.map (·.1),aJ++[((q:Int),x.prog)]):=by
    unfold walked ya
    simp only[List.foldl_cons,List.foldl_nil,q1,Option.getD_some,hneg,if_true,hkk,Int.toNat_natCast,q3]
   refine hQ _ _ ⟨_,L,bz,v1,w2,ps,rfl,rfl,o',?_,fh.refl _ _ _,Hv,?_,?_,?_,?_⟩
   all_goals rw[hpk,hw]
   ·exact⟨out.bQ,out.bB⟩
   ·exact tf
   ·rfl
   ·rfl
  -- a context
  have hx:=o.n.one w k x q2 q3
  have cQ:=(List.getElem?_eq_some_iff.1 hx).1
  have rn:=fun (j:Nat) (hj:j<12)=>o.rn hb hx hj
  have r0:aq K (b,k * 12) none=some (.b false):=by have:=rn 0 (by omega);simpa[zJ,bf.cells]using this
  have r5:aq K (b,k * 12+5) none=some (.i .i64 0):=by rw[rn 5 (by omega)];simp[zJ,bf.cells,q5]
  have r4:aq K (b,k * 12+4) none=some (.b false):=by rw[rn 4 (by omega)];simp[zJ,bf.cells,q4]
  simp only[zf,zh,zk,Nat.add_zero,zt,r0,zg]
  unfold dI jd
  rw[Jv]
  simp only[zf,zC,zh,zk,zt,r5,r4,zg,wA,ne_eq,not_true_eq_false,decide_false,zw,yo,zW]
  unfold rF
  rw[Jv,g2,g3]
  simp only[zf,zh,zk,yj]
  rw[zD dZ (by rw[zY bf.len];omega) rfl]
  have hs5:(zl bf.cells aM).set (k * 12+5) (.i .i64 err)=zl bf.cells (aM.set k (zJ w { x with err:=err })):=xm bf.len aM k (zJ w x) (zJ w { x with err:=err }) 5 _ hx (by omega) rfl
  rw[hs5]
  simp only[zf,zh,zk,yj]
  rw[zD (ze _ _ _) (by rw[zY bf.len];simp;omega) rfl,zA]
  have GM:(aM.set k (zJ w { x with err:=err }))[k]?=some (zJ w { x with err:=err }):=List.getElem?_set_self cQ
  have hs6:(zl bf.cells (aM.set k (zJ w { x with err:=err }))).set (k * 12+6) (.i .i64 cause)=zl bf.cells (aM.set k (zJ w { x with err:=err,cause:=cause })):=by
   have h9:(zl bf.cells (aM.set k (zJ w { x with err:=err }))).set (k * 12+6) (.i .i64 cause)=zl bf.cells ((aM.set k (zJ w { x with err:=err })).set k (zJ w { x with err:=err,cause:=cause })):=xm bf.len _ k (zJ w { x with err:=err }) (zJ w { x with err:=err,cause:=cause }) 6 _ GM (by omega) rfl
   rw[h9,List.set_set]
  rw[hs6]
  obtain⟨S1,iR⟩:∃S1,S1=S.aB w { x with err:=err,cause:=cause }:=⟨_,rfl⟩
  have o1:XR L c S1.σ (aM.set k (zJ w { x with err:=err,cause:=cause })) tv nv cv av (K.put b (.raw (.cells (zl bf.cells (aM.set k (zJ w { x with err:=err,cause:=cause })))))):=by
   rw[iR]
   exact o.node hb (by simp) rfl rfl (wt q2 rfl) rfl (o.n.aB q2 q3 rfl)
  have NL:bV L c [tv,nv,cv,av] (K.put b (.raw (.cells (zl bf.cells (aM.set k (zJ w { x with err:=err,cause:=cause })))))) v1 v2 ps aJ:=rr.keep (fun q' y hq hy=>by rw[zb _ _ _ (by rintro rfl;exact hq.2.2 nv (by simp) hb)];exact hy) (fun q' hq _=>hq.1)
  have hx1:S1.σ.af[w]?=some { x with err:=err,cause:=cause }:=by rw[iR];exact List.getElem?_set_self (List.getElem?_eq_some_iff.1 q2).1
  have nh:S1.σ.names=S.σ.names:=by rw[iR];exact vh q2 rfl rfl
  have ht1:S1.σ.t=S.σ.t:=by rw[iR];rfl
  have zoD:bE c S1 L:=by
   refine⟨fun s hs=>by rw[ht1]at hs;rw[iR];exact out.bQ s hs,fun y hy a ha=>?_⟩
   have h8:∃y'∈S.σ.af,y'.c=some a:=by
    have h1:(y.c,y.node)∈S1.σ.names:=List.mem_map.2 ⟨y,hy,rfl⟩
    rw[nh]at h1
    obtain⟨p,hp,he⟩:=List.mem_map.1 h1
    simp only[Prod.mk.injEq]at he
    exact⟨p,hp,by rw[he.1];exact ha⟩
   obtain⟨y',hy',gx⟩:=h8
   rw[ht1,iR]
   exact out.bB y' hy' a gx
  have tf1:aQ S1.τ B:=by rw[iR];exact tf
  generalize (K.put b (.raw (.cells (zl bf.cells (aM.set k (zJ w { x with err:=err,cause:=cause }))))))=K1 at o1 NL
  have R4:(aM.set k (zJ w { x with err:=err,cause:=cause }))[k]?=some (zJ w { x with err:=err,cause:=cause }):=List.getElem?_set_self cQ
  generalize aM.set k (zJ w { x with err:=err,cause:=cause })=MB at o1 R4
  unfold rE
  rw[Jv,g2,g3,g4]
  have s1:aq K1 (b,k * 12+1) none=some (.i .i64 w):=by rw[o1.rn hb R4 (by omega)];rfl
  have s11:aq K1 (b,k * 12+11) none=some (ptr x.c):=by rw[o1.rn hb R4 (by omega)];rfl
  simp only[zf,zh,zk,zt,s1,s11,zg]
  have hsz:∀a,({ x with err:=err,cause:=cause }:One).c=some a→(S1.χ a).recvs.length+(S1.χ a).aF.length≤1000000:=by rw[iR];exact q6
  refine (zfr hf.zqi o1 zoD hx1 hsz).mono ?_
  rintro v7 K2 ⟨L2,o2,mV,OE,lf2,hv7,fv7,zon⟩
  have hef:=wo S1 x.c
  obtain⟨S2,Ik⟩:∃S2,S2=S1.cG x.c:=⟨_,rfl⟩
  simp only at mV hv7
  rw[←Ik]at mV hv7 hef
  have RP:XR L2 c S2.1.σ MB tv nv cv av K2:=by rw[hef.1];exact o2
  have Ms:bV L2 c [tv,nv,cv,av] K2 v1 v2 ps aJ:=NL.keep (fun q' y hq hy=>zon q' y hy) (fun q' hq _=>lf2 q' hq.1)
  have hbd:∀k':AV→Lg→Prop,za F (.build [.i .i64 0,.i .i64 0,.i .i64 0,.sl none 0 0 0] [(0,1),(1,1),(2,1),(3,1)]) [.i .i64 w,.i .i64 err,.i .i64 cause,v7] K2 k'=k' (.agg (Fc ((⟨w,err,cause,S2.2⟩:cx),v7))) K2:=by
   intro k';simp[zF,zo,zp,zq,Fc,hv7.cellsOf]
  rw[hbd]
  have hfv:∀b',au v7=some b'→vf L2 c [tv,nv,cv,av] b'∧au v1≠some b'∧au v2≠some b':=fun b' hb'=>by
   have h8:=o1.free (fv7 b' hb')
   refine⟨⟨lf2 b' h8.1,h8.2⟩,fun h9=>?_,fun h9=>?_⟩
   ·have:=NL.o1.block h9;rw[fv7 b' hb']at this;cases this
   ·have:=NL.o2.block h9;rw[fv7 b' hb']at this;cases this
  refine Ms.lap (p:=((⟨w,err,cause,S2.2⟩:cx),v7)) (by omega) hv7 hfv ?_ (fun b' hb'=>RP.free hb')
  intro v10 K3 rr3 k3
  have o3:=RP.keep k3 (fun b' hb'=>(Ms.f1 b' hb').1)
  have s1':aq K2 (b,k * 12+1) none=some (.i .i64 w):=by rw[o2.rn hb R4 (by omega)];rfl
  refine⟨⟨by simp[yb,yC,XT,s1,s1'],trivial⟩,?_⟩
  have t2:S2.1.σ.t=S.σ.t:=by rw[hef.1];exact ht1
  have n2:S2.1.σ.names=S.σ.names:=by rw[hef.1];exact nh
  have Bv:ya err cause (S,ps.map (·.1),aJ) k=(S2.1.bp x.timer,ps.map (·.1)++[⟨w,err,cause,S2.2⟩],aJ):=by
   have HO:¬((w:Int)<0):=by omega
   unfold ya
   simp only[q1,Option.getD_some,HO,if_false,Int.toNat_natCast,q2]
   rw[Ik,iR]
  have znc:fh c S.σ L L2:=by
   intro r d h1 h2 h3 h4
   exact OE r d h1 (by rw[ht1];exact h2) (zeS nh h3) h4
  have h2t:fh c S2.1.σ L2 L2:=fh.refl _ _ _
  -- behind Bh timer
  have tail:∀(S3:CX) (K4 L4:Lg),S3=S2.1.bp x.timer→XR L4 c S3.σ MB tv nv cv av K4→bE c S3 L4→fh c S.σ L L4→bV L4 c [tv,nv,cv,av] K4 v10 v2 (ps++[((⟨w,err,cause,S2.2⟩:cx),v7)]) aJ→aQ S3.τ B→eF F Q (Env.put E2 4 v10) K4:=by
   intro S3 K4 L4 BB o4 Fx TO rr4 tf4
   have hsf:=xV S2.1 x.timer
   have t3:S3.σ.t=S.σ.t:=by rw[BB,hsf.1];exact t2
   have n3:S3.σ.names=S.σ.names:=by rw[BB,hsf.1];exact n2
   have IA:S3.σ.tree=yd T A:=by rw[BB,hsf.1,hef.1,iR];exact hS
   unfold eF
   have h0:(Env.put E2 4 v10) 0=.p (some (c,0)):=by simp[g0]
   have h1:(Env.put E2 4 v10) 1=.i .i64 k:=by simp[g1]
   rw[h0,h1]
   simp only[zf,zh,zk,Nat.zero_add]
   refine (zdr hf.zqh o4 (by rw[IA,yD];exact hTl) k).mono ?_
   intro v15 K5 RY
   have hkf:zK S3.σ.tree (k:Int)=zK T (k:Int):=by
    rw[IA,wY]
    apply List.filter_eq_self.2
    intro j hj
    have hn0:n≠0:=by rintro rfl;have:=yY ht hj;omega
    have:=hA j ((dR j hj j (by cases n with | zero=>exact absurd rfl hn0 | succ m=>simp[pre])).1)
    simp[this]
   rw[hkf]at RY
   have o5:=o4.sub RY.s
   have rr5:=rr4.sub RY.s
   -- Bh row of kids zoO beside
   have ET:∃L5,XR L5 c S3.σ MB tv nv cv av K5∧bE c S3 L5∧fh c S.σ L L5∧bV L5 c [tv,nv,cv,av] K5 v10 v2 (ps++[((⟨w,err,cause,S2.2⟩:cx),v7)]) aJ∧∀b,au v15=some b→L5 b=some (.raw (.cells (zl fI ((zK T (k:Int)).map fun (i:Nat)=>(i:Int)))))∧b≠c:=by
    cases En:au v15 with
    | none=>exact⟨L4,o5,Fx,TO,rr5,fun b hb=>by cases hb⟩
    | some kb =>
     have A3:=RY.f kb En
     have hfr:=o4.free A3
     have hkc:=RY.o.block En
     refine⟨L4.put kb _,o5.ET hkc hfr,Fx.put hfr.1 _,fun r d h1 h2 h3 h4=>?_,?_,fun b hb=>?_⟩
     ·have:=TO r d h1 h2 h3 h4
      rw[zb _ _ _ (by rintro rfl;rw[hfr.1]at this;cases this)];exact this
     ·-- zj4 blocks are others
      have hne:∀b',vf L4 c [tv,nv,cv,av] b'→K4 b'≠none→(L4.put kb (.raw (.cells (zl fI ((zK T (k:Int)).map fun (i:Nat)=>(i:Int)))))) b'=none:=fun b' hb' hn'=>by
       rw[zb _ _ _ (by rintro rfl;exact hn' A3)];exact hb'.1
      exact rr4.keep (fun b' y _ hy=>RY.s b' _ hy) hne
     ·cases hb
      exact⟨ze _ _ _,hfr.2.1⟩
   obtain⟨L5,Ic,RI,Jw,zok,f15⟩:=ET
   have e0':(Env.put (Env.put E2 4 v10) 15 v15) 0=.p (some (c,0)):=by simp[g0]
   have Sj:∀i,xh T S i→i≠k→xh T S3 i:=fun i hi hik=>by
    have:=hi.hit err cause (hL k iN) hik (acc:=(S,ps.map (·.1),aJ))
    rw[Bv]at this
    rw[BB];exact this
   have zlz:∀i,xh T S i→i≠k→xI S i→xI S3 i:=fun i hi hik hno=>by
    have:=xI.hit (T:=T) (acc:=(S,ps.map (·.1),aJ)) err cause hno hi (hL k iN) hik
    rw[Bv]at this
    rw[BB];exact this
   have zqF:(pre T (n+1) k).length=1+((zK T (k:Int)).flatMap (pre T n)).length:=by rw[hpre,List.length_cons];omega
   refine zfj (S:=S3) (S0:=S) (err:=err) (cause:=cause) (E:=Env.put (Env.put E2 4 v10) 15 v15) hf ht ih (by omega) hk IA (fun j hj i hi=>hA i (dR j hj i hi).1) (fun j hj i hi=>⟨Sj i (hL i (dR j hj i hi).1) (dR j hj i hi).2,zlz i (hL i (dR j hj i hi).1) (dR j hj i hi).2 (hN i (dR j hj i hi).1)⟩) tf4 Ic RI zok (by simp only[List.length_append,List.length_cons,List.length_nil];omega) (by omega) (v15:=v15) RY.o f15 e0' (by simp[g1]) (by simp[g2]) (by simp[g3]) (by simp) (by simp[g5]) (by simp) ?_
   intro R L' bz w1 w2 ps' K' hR oR zoA frR rrR zpj tfR tR nR
   have hRw:R=walked T err cause A (pre T (n+1) k) (S,ps.map (·.1),aJ):=by
    rw[hR]
    simp only[walked,hpre,List.foldl_cons,Bv,←BB,List.map_append,List.map_cons,List.map_nil]
    congr 1
    simp only[CX.aD]
    congr 3
    funext i
    simp only[List.mem_cons,List.mem_singleton,List.not_mem_nil,or_false]
    by_cases hik:i=k<;>simp[hik,Bool.or_comm]
   exact hQ _ _ ⟨R,L',bz,w1,w2,ps',hRw,rfl,oR,zoA,Jw.trans t3 n3 frR,rrR,zpj,tfR,tR.trans t3,nR.trans n3⟩
  unfold rD
  have h14:(Env.put E2 4 v10) 14=.p (some (b,k * 12)):=by simp[Jv]
  have h0:(Env.put E2 4 v10) 0=.p (some (c,0)):=by simp[g0]
  rw[h14,h0]
  have s10:aq K3 (b,k * 12+10) none=some (.i .i64 x.timer):=by rw[o3.rn hb R4 (by omega)];rfl
  have s0:aq K3 (c,0) none=some (ptr S.σ.t):=by rw[o3.f0,t2]
  have EA:S2.1.τ=S.τ:=by rw[hef.2.1,iR];rfl
  have Qf:aQ S2.1.τ B:=by rw[EA];exact tf
  have skip:S2.1.bp x.timer=S2.1→eF F Q (Env.put E2 4 v10) K3:=fun h=>tail S2.1 K3 L2 h.symm o3 mV znc rr3 Qf
  by_cases hti:0≤x.timer
  rotate_left
  ·simp only[zf,zh,zk,Nat.zero_add,zt,s10,zg,vg,ge_iff_le,hti,decide_false,vI,xD,zW,zC]
   refine skip ?_
   have hno:S2.1.τ.one x.timer=none:=by simp[bk.one,bk.has,hti]
   unfold CX.bp
   cases S2.1.σ.t<;>simp[hno]
  have hd:∀inst:Decidable (0≤x.timer),@decide _ inst=true:=fun _=>by simp[hti]
  cases FK:S.σ.t with
  | none =>
   rw[FK]at s0
   simp only[zf,zh,zk,Nat.zero_add,zt,s10,s0,zg,vg]
   rw[hd]
   simp only[zf,zh,zk,Nat.zero_add,zt,s0,zg,zw,yo,Ua]
   have hop:∀k:AV→Lg→Prop,za F (.eq true .ptr) [.p none,.p none] K3 k=k (.b false) K3:=by intro k;simp
   simp only[hop,zV,zC]
   refine skip ?_
   unfold CX.bp
   rw[t2,FK]
  | some u =>
   rw[FK]at s0
   simp only[zf,zh,zk,Nat.zero_add,zt,s10,s0,zg,vg]
   rw[hd]
   simp only[zf,zh,zk,Nat.zero_add,zt,s0,zg,zw,yo,V9]
   have hop:∀k:AV→Lg→Prop,za F (.eq true .ptr) [.p (some (u,0)),.p none] K3 k=k (.b true) K3:=by intro k;simp
   simp only[zf,hop,zV,z9,zh,zk,Nat.zero_add,zt,s10,s0,zg]
   refine (zc8 (S:=S2.1) hf.f80 o3 mV Qf (u:=u) (by rw[t2,FK]) (id:=x.timer) (fun y hy=>q7 u y FK (by rw[←EA];exact hy))).mono ?_
   rintro _ K4 ⟨⟨p',q',rfl⟩,L4,o4,Fx,TO,lf4,zom,tf4⟩
   have hsf:=xV S2.1 x.timer
   have o4':XR L4 c (S2.1.bp x.timer).σ MB tv nv cv av K4:=by rw[hsf.1];exact o4
   refine tail (S2.1.bp x.timer) K4 L4 rfl o4' Fx (znc.trans t2 n2 TO) ?_ tf4
   exact rr3.keep (fun q' y hq hy=>zom q' y hy) (fun q' hq _=>lf4 q' hq.1)
end
end
section
variable {F:Nat→Option aT}
section
variable {L K:Lg} {c:Nat} {cs:List AV} {sl:List Ai}
theorem bu.NY {v:AV}{cs:List AV}{n bytes:Nat}(h:bu K v cs n 1){a:Int}(hb:(n+1) * bytes≤70368744177664){z:AV}{k:AV→Lg→Prop}
  (hk:∀(v':AV) (K1:Lg),bu K1 v' (cs++[.i .i64 a]) (n+1) 1→vX (au v) K K1→(∀b,au v'=some b→K b=none)→k v' K1):za F (.aC [z] 1 1 [0]) [.i .i64 a] K fun w L=>za F (.app 1 bytes) [v,w] L k:=by
 refine zjh rfl ?_
 intro w K1 ow s1 f1
 have hv:bu K1 v cs n 1:=h.sub fun b d _ hd=>s1 b d hd (by simp)
 rw[Xz]
 rcases ow with⟨h2,_⟩ | ⟨b,ex,h2,rfl,_,h3,h4⟩
 ·omega
 refine hv.app (by omega) rfl (by omega) (new:=[.i .i64 a]) ?_ (by simp) rfl hb ?_
 ·simp only[zH,h3,AB.read,cut,zp,Nat.zero_add,Nat.one_mul]
  simp
 intro b2 K2 g hO
 have f2:K b2=none:=by
  cases h9:K b2 with
  | none=>rfl
  | some d=>have:=s1 b2 d h9 (by simp);rw[g.fresh]at this;cases this
 refine hk _ _ hO ?_ ?_
 ·intro r d hr hne
  have r2:r≠b2:=by rintro rfl;rw[f2]at hr;cases hr
  rw[g.same r r2 hne];exact s1 r d hr (by simp)
 ·intro q hq;simp[au]at hq;subst hq;exact f2
theorem zb0 (hf:BV F){T:List Nd}{tv:AV}(g:GO L c cs sl K)(h1:cs[1]?=some tv)(h0:sl[0]?=some ⟨tv,zl iG T,T.length,2⟩)(hlen:T.length<1000){parent:Int}(hp:-1≤parent)(GS:parent<T.length)(lk:Bool) :
  zd F hY [.p (some (c,1)),.i .i64 parent,.b lk] K fun v K'=>v=.ay [.i .i64 T.length,.i .i64 0]∧∃gI,GO L c (cs.set 1 gI) (sl.set 0 ⟨gI,zl iG T++[.i .i64 parent,.b (lk&&decide (0≤parent))],T.length+1,2⟩) K':=by
 refine zr ?_
 intro Q hQ
 apply Rl hf.code
 unfold uK uJ
 have r1:aq K (c,1) none=some tv:=by rw[g.rd 1,h1]
 have os:=g.own 0 _ h0
 simp only at os
 have hl:=fun X k=>os.len (F:=F) X k
 have n1:¬parent < -1:=by omega
 have n2:¬(T.length:Int)≤parent:=by omega
 have n3:¬(1000:Int)≤(T.length:Int):=by omega
 simp only[zf,yP,n1,decide_false,zw,yo,zh,zk,Nat.add_zero,zt,r1,zg,hl,vg,n2,zW,zC]
 unfold uI
 simp only[zf,zh,zk,Nat.add_zero,zt,r1,zg,hl,vg,n3,decide_false,zC]
 have zlw:∀k:AV→Lg→Prop,(zi F (.b lk) true .mv [.i .i64 parent] K fun v9 L9=>zi F (.b lk) true (.bin .geq) [v9,.i .i64 0] L9 fun v10 dG=>za F .pick [.b lk,v10,.b false] dG k)↔k (.b (lk&&decide (0≤parent))) K:=by
  intro k
  cases lk<;>simp
 rw[zlw]
 have hbd:∀k:AV→Lg→Prop,za F (.build [.i .i64 0,.b false] [(0,1),(1,1)]) [.i .i64 parent,.b (lk&&decide (0≤parent))] K k=k (.agg [.i .i64 parent,.b (lk&&decide (0≤parent))]) K:=by
  intro k;simp[zF,zo,zp,zq]
 rw[hbd]
 refine os.mI rfl rfl rfl (by omega) (by omega) ?_
 intro v' K1 o1 k1 f1
 have cH:K1 c=some (.raw (.cells cs)):=k1 c _ g.root (fun h9=>(g.ap 0 _ h0 c h9).1 rfl)
 have cQ:1<cs.length:=(List.getElem?_eq_some_iff.1 h1).1
 have g2:=g.grow h0 (q:=⟨v',zl iG T++[.i .i64 parent,.b (lk&&decide (0≤parent))],T.length+1,2⟩) o1 k1 (fun b hb=>.inl (f1 b hb)) (cs.set 1 v')
 have r1':aq (K1.put c (.raw (.cells (cs.set 1 v')))) (c,1) none=some v':=by rw[zj (ze _ _ _),List.getElem?_set_self cQ]
 have hl':∀X k,za F .ax [v'] X k=k (.i .i64 ((T.length+1:Nat):Int)) X:=fun X k=>o1.len (F:=F) X k
 have hw:wr .i64 (((T.length+1:Nat):Int)-1)=(T.length:Int):=by rw[zT (by omega) (by omega)];omega
 simp only[zf,zh,zk,Nat.add_zero,yj]
 rw[zD cH cQ o1.cellsOf]
 simp only[zf,zh,zk,Nat.add_zero,zt,r1',zg,hl',zbU,hw]
 exact⟨_,zx.refl _,hQ _ _ ⟨rfl,v',g2⟩⟩
end
theorem Wc {T:List Nd}{parent:Int}{lk:Bool}(hT:T.length<1000)(hp:parent=-1∨YQ T parent=true) :
  (zP T parent lk).1.length=T.length+1∧(zP T parent lk).2.1=(T.length:Int)∧zl iG (zP T parent lk).1=zl iG T++[.i .i64 parent,.b (lk&&decide (parent≠-1))]:=by
 unfold zP
 have c1:¬(parent≠-1∧YQ T parent=false):=by
  rintro⟨h1,h2⟩
  rcases hp with h3 | h3
  ·exact h1 h3
  ·rw[h2]at h3;cases h3
 rw[if_neg c1,if_neg (by omega)]
 have key:∀(T:List Nd) (i:Nat) (x:Int),zl iG (vy T i x)=zl iG T∧(vy T i x).length=T.length:=by
  intro T i x
  unfold vy
  cases h:T[i]? with
  | none=>exact⟨rfl,rfl⟩
  | some n =>
   simp only[List.length_set,and_true]
   clear c1
   induction T generalizing i with
   | nil=>simp at h
   | cons a r ih =>
    cases i with
    | zero=>simp at h;subst h;simp[zl,iG]
    | succ i=>simp at h;simp only[List.set_cons_succ,zl];rw[ih i h]
 refine⟨?_,rfl,?_⟩
 ·simp only[List.length_append,List.length_cons,List.length_nil]
  split
  ·rw[(key _ _ _).2]
  ·rfl
 ·rw[zU]
  congr 1
  split
  ·exact (key _ _ _).1
  ·rfl
section
variable {L K:Lg} {c:Nat} {σ:Cs} {aM:List bf} {tv nv cv av:AV}
theorem WA (hf:pS F)(o:XR L c σ aM tv nv cv av K)(ht:σ.tree.length<1000)(hs:σ.af.length≤1000){parent:Int}(hp:parent=-1∨YQ σ.tree parent=true)(x:One) :
  zd F fz [.p (some (c,0)),.i .i64 parent,.b (!x.free),.agg (zJ 0 { x with timer:=-1 }).cells] K fun v K'=>v=.i .i64 σ.af.length∧∃bz gI iE Fi,XR L c (σ.add x parent) bz gI iE Fi av K':=by
 refine zr ?_
 intro Q hQ
 apply Rk hf.code
 unfold uH
 rw[vu,zL _ _ _ (bf.one _)]
 intro b7 hb7
 have zlS:=o.free hb7
 have zpA:L b7=none:=zlS.1
 have FP:b7≠c:=zlS.2.1
 have hpar:-1≤parent∧parent<σ.tree.length:=by
  rcases hp with rfl | h
  ·exact⟨by omega,by omega⟩
  ·simp[YQ]at h;omega
 obtain⟨n0,hn0⟩:∃n0,n0=zJ 0 { x with timer:=-1 }:=⟨_,rfl⟩
 obtain⟨n1,nh⟩:∃n1,n1=zJ σ.af.length { x with node:=(σ.tree.length:Int),timer:=-1 }:=⟨_,rfl⟩
 have fc:n0.cells.set 1 (.i .i64 σ.af.length)=n1.cells:=by rw[hn0,nh];rfl
 rw[←hn0]
 have g0:=(o.bW hb7 (.raw (.cells n0.cells))).g
 unfold uG
 simp only[zf,zh,zk,Nat.zero_add]
 refine (zb0 hf.f123 g0 (T:=σ.tree) (tv:=tv) rfl rfl ht hpar.1 hpar.2 (!x.free)).mono ?_
 rintro _ K1 ⟨rfl,gI,g1⟩
 have hlk:((!x.free)&&decide (0≤parent))=((!x.free)&&decide (parent≠-1)):=by
  congr 1
  by_cases h:parent=-1
  ·simp[h]
  ·have:0≤parent:=by omega
   simp[h,this]
 rw[hlk]at g1
 obtain⟨t1,t2,t3⟩:=Wc (lk:=!x.free) ht hp
 rw[←t3]at g1
 simp only[NH,Ek,List.set_cons_succ,List.set_cons_zero]at g1
 have oc:=g1.own 2 _ rfl
 have on:=g1.own 1 _ rfl
 simp only at oc on
 have cQ:∀X k,za F .ax [cv] X k=k (.i .i64 (σ.af.length:Int)) X:=fun X k=>oc.len (F:=F) X k
 have c3:aq K1 (c,3) none=some cv:=g1.rd 3
 have hk7:K1 b7=some (.raw (.cells n0.cells)):=g1.old b7 _ FP (ze _ _ _)
 simp only[zf,yi,List.getElem?_cons_zero,List.getElem?_cons_succ,zg]
 unfold uF
 simp only[zf,zh,zk,Nat.zero_add,zt,c3,zg,cQ,yj]
 rw[zD hk7 (by rw[bf.len];omega) rfl,fc]
 have g2:=g1.bY FP (ze _ _ _) (.raw (.cells n1.cells))
 rw[zA]at g2
 have Ja:(K1.put b7 (.raw (.cells n1.cells))) b7=some (.raw (.cells n1.cells)):=ze _ _ _
 generalize (K1.put b7 (.raw (.cells n1.cells)))=K2 at g2 Ja
 have c2:aq K2 (c,2) none=some nv:=g2.rd 2
 have r7:aq K2 (b7,0) (some 12)=some (.agg n1.cells):=by rw[yc Ja (by rw[bf.len];omega)];rfl
 simp only[zf,zh,zk,Nat.zero_add,zt,c2,r7,zg]
 have on2:=g2.own 1 _ rfl
 simp only at on2
 have Bu:aM.length<1000:=by rw[o.n.len];exact ht
 refine on2.mI rfl (bf.len _) (bf.one _) (by omega) (by omega) ?_
 intro iE K3 on3 k3 f3
 have hr3:K3 c=some (.raw (.cells [ptr σ.t,gI,nv,cv,av])):=k3 c _ g2.root (fun h9=>(g2.ap 1 _ rfl c h9).1 rfl)
 have g3:=g2.grow (i:=1) rfl (q:=⟨iE,zl bf.cells aM++n1.cells,aM.length+1,12⟩) on3 k3 (fun b hb=>.inl (f3 b hb)) [ptr σ.t,gI,iE,cv,av]
 simp only[zf,zh,zk,Nat.zero_add,yj]
 rw[zD hr3 (by simp) on3.cellsOf]
 simp only[List.set_cons_succ,List.set_cons_zero]at g3 ⊢
 generalize (K3.put c (.raw (.cells [ptr σ.t,gI,iE,cv,av])))=K4 at g3
 have c3':aq K4 (c,3) none=some cv:=g3.rd 3
 simp only[zf,zh,zk,Nat.zero_add,zt,c3',zg]
 have oc4:=g3.own 2 _ rfl
 simp only at oc4
 refine oc4.NY (by omega) ?_
 intro Fi K5 oc5 k5 f5
 have hr5:K5 c=some (.raw (.cells [ptr σ.t,gI,iE,cv,av])):=k5 c _ g3.root (fun h9=>(g3.ap 2 _ rfl c h9).1 rfl)
 have g5:=g3.grow (i:=2) rfl (q:=⟨Fi,zl fI (σ.af.map (·.node))++[.i .i64 (σ.tree.length:Int)],σ.af.length+1,1⟩) oc5 k5 (fun b hb=>.inl (f5 b hb)) [ptr σ.t,gI,iE,Fi,av]
 simp only[zf,zh,zk,Nat.zero_add,yj]
 rw[zD hr5 (by simp) oc5.cellsOf]
 simp only[List.set_cons_succ,List.set_cons_zero]at g5 ⊢
 generalize (K5.put c (.raw (.cells [ptr σ.t,gI,iE,Fi,av])))=K6 at g5
 have r71:aq K6 (b7,1) none=some (.i .i64 σ.af.length):=by rw[zj (g5.old b7 _ FP (ze _ _ _)),nh];rfl
 simp only[zf,zh,zk,Nat.zero_add,zt,r71,zg]
 refine⟨_,zx.refl _,hQ _ _ ⟨rfl,aM++[n1],gI,iE,Fi,⟨?_,?_⟩⟩⟩
 ·have:=g5.below (L0:=L) (fun q d hq hd=>by rw[zb _ _ _ (by rintro rfl;rw[zpA]at hd;cases hd)];exact hd)
  have e1:(σ.add x parent).tree=(zP σ.tree parent (!x.free)).1:=rfl
  have e2:(σ.add x parent).af=σ.af++[{ x with node:=(σ.tree.length:Int),timer:=-1 }]:=by simp[Cs.add,t2]
  have e3:(σ.add x parent).t=σ.t:=rfl
  have e4:(σ.add x parent).ai=σ.ai:=rfl
  simp only[NH,Ek,e1,e2,e3,e4,t1,zU,List.map_append,List.map_cons,List.map_nil,List.length_append,List.length_cons,List.length_nil,List.length_map,Nat.zero_add]
  simp only[zl,List.append_nil,fI]
  exact this
 ·have e1:(σ.add x parent).tree.length=σ.tree.length+1:=t1
  have e2:(σ.add x parent).af=σ.af++[{ x with node:=(σ.tree.length:Int),timer:=-1 }]:=by simp[Cs.add,t2]
  have hlen:=o.n.len
  refine⟨by rw[e1];simp[hlen],fun i k y hy hk=>?_,fun j k y hy hk=>?_⟩
  ·rw[e2]at hy
   by_cases hi:i<σ.af.length
   ·rw[List.getElem?_append_left hi]at hy
    have h1:=o.n.one i k y hy hk
    rw[List.getElem?_append_left (List.getElem?_eq_some_iff.1 h1).1];exact h1
   ·rw[List.getElem?_append_right (by omega)]at hy
    have hz:i-σ.af.length=0:=by
     rcases Nat.eq_zero_or_pos (i-σ.af.length)with h9 | h9
     ·exact h9
     ·rw[List.getElem?_eq_none (by simp;omega)]at hy;cases hy
    rw[hz]at hy
    simp at hy
    subst hy
    have hkk:k=σ.tree.length:=by simp at hk;omega
    have hii:i=σ.af.length:=by omega
    subst hkk;subst hii
    rw[←hlen,List.getElem?_append_right (Nat.le_refl _),Nat.sub_self,hlen,nh];rfl
  ·have h1:=o.n.cm j k y hy hk
   rw[List.getElem?_append_left (List.getElem?_eq_some_iff.1 h1).1];exact h1
end
end
section
variable {F:Nat→Option aT}
def wy (c:Nat)(σ:Cs):Hp→Prop:=GP c fun cs sl=>∃aM tv nv cv av,cs=NH σ tv nv cv av∧sl=Ek σ aM tv nv cv av∧iT σ aM
section
variable {L K:Lg} {c:Nat} {σ:Cs} {aM:List bf} {tv nv cv av:AV} {Q:AV→Lg→Prop}
theorem XR.shut (o:XR L c σ aM tv nv cv av K):zx K (L.put c (.abs (wy c σ))):=o.g.shut ⟨aM,tv,nv,cv,av,rfl,rfl,o.n⟩
theorem XR.back (o:XR L c σ aM tv nv cv av K)(e:L c=some (.abs (wy c σ))):zx K L:=by
 have:=o.shut
 rwa [ye L c _ e]at this
theorem yR {f:Nat}{vs:List AV}(e:L c=some (.abs (wy c σ)))(H:∀aM tv nv cv av K,XR L c σ aM tv nv cv av K→zd F f vs K Q):zd F f vs L Q:=by
 apply zbR e
 rintro cs sl K ⟨aM,tv,nv,cv,av,rfl,rfl,hn⟩ o
 exact H aM tv nv cv av K ⟨o,hn⟩
theorem zeR (hf:Gi F)(L:Lg)(t:Option Nat):zd F jW [ptr t] L fun v L'=>∃c,L c=none∧v=.p (some (c,0))∧L'=L.put c (.abs (wy c (.new t))):=by
 refine zr ?_
 intro Q hQ
 apply Rj hf.code
 unfold uE
 have bP:∀k:AV→Lg→Prop,za F (.build [.p none,.sl none 0 0 0,.sl none 0 0 0,.sl none 0 0 0,.sl none 0 0 0] [(0,1)]) [ptr t] L k=k (.agg [ptr t,.sl none 0 0 0,.sl none 0 0 0,.sl none 0 0 0,.sl none 0 0 0]) L:=by
  intro k;simp[zF,zo,zp,zq]
 rw[bP,vu,zL _ _ _ (by cases t<;>simp[ptr])]
 intro c hc
 have bT:∀(X:Lg) (k:AV→Lg→Prop),za F (.build [.b false,.i .i64 0,.i .i64 0,.b false,.b false,.i .i64 0,.i .i64 0,.i .i64 0,.b false,.b false,.i .i64 0,.p none] [(4,1),(10,1)]) [.b true,.i .i64 (-1)] X k=k (.agg (zJ 0 { ({ One.zero with free:=true }:One)with timer:=-1 }).cells) X:=by
  intro X k;simp[zF,zo,zp,zq,bf.cells,zJ,One.zero]
 rw[bT]
 obtain⟨Hr,MK⟩:∃Hr:Cs,Hr=⟨t,[],[],[],fun _=>none⟩:=⟨_,rfl⟩
 have o:XR L c Hr [] (.sl none 0 0 0) (.sl none 0 0 0) (.sl none 0 0 0) (.sl none 0 0 0) (L.put c (.raw (.cells [ptr t,.sl none 0 0 0,.sl none 0 0 0,.sl none 0 0 0,.sl none 0 0 0]))):=by
  rw[MK]
  have nb:∀(i:Nat) (p:Ai),(Ek ⟨t,[],[],[],fun _=>none⟩ [] (.sl none 0 0 0) (.sl none 0 0 0) (.sl none 0 0 0) (.sl none 0 0 0))[i]?=some p→p.v=.sl none 0 0 0:=by
   intro i p hp
   have:=zaV hp
   simpa using this
  have HB:∀(i:Nat) (p:Ai),(Ek ⟨t,[],[],[],fun _=>none⟩ [] (.sl none 0 0 0) (.sl none 0 0 0) (.sl none 0 0 0) (.sl none 0 0 0))[i]?=some p→∀b,au p.v≠some b:=by
   intro i p hp b h;rw[nb i p hp]at h;cases h
  refine⟨⟨ze _ _ _,fun i p hp=>?_,fun i p hp b hb=>absurd hb (HB i p hp b),fun i j p q _ hp _ b hb=>absurd hb (HB i p hp b),fun q d hq hd=>by rw[zb _ _ _ hq];exact hd⟩,⟨rfl,fun i k x hx=>by simp at hx,fun i k x hx=>by simp at hx⟩⟩
  have hi:=(List.getElem?_eq_some_iff.1 hp).1
  simp[Ek]at hi
  have:i=0∨i=1∨i=2∨i=3:=by omega
  rcases this with rfl | rfl | rfl | rfl<;>simp[Ek]at hp<;>subst hp<;>exact bu.nil _ _
 refine (WA hf.f124 o (by rw[MK];simp) (by rw[MK];simp) (.inl rfl) ({ One.zero with free:=true }:One)).mono ?_
 rintro v K' ⟨rfl,bz,gI,iE,Fi,o'⟩
 refine⟨_,o'.shut,hQ _ _ ⟨c,hc,rfl,?_⟩⟩
 rw[MK];rfl
def Qa (σ:Cs):Prop:=(∀(i:Nat) (x:One),σ.af[i]?=some x→∃k:Nat,x.node=(k:Int)∧k<σ.tree.length)∧∀(j:Nat) (x:cK),σ.ai[j]?=some x→∃k:Nat,x.node=(k:Int)∧k<σ.tree.length
theorem WF.nodes {S:CX}(h:WF S):Qa S.σ:=⟨fun i x hx=>by obtain⟨k,h1,h2,_⟩:=h.bS i x hx;exact⟨k,h1,h2⟩,fun j x hx=>by obtain⟨k,h1,h2,_⟩:=h.eJ j x hx;exact⟨k,h1,h2⟩⟩
theorem xz {σ:Cs}{id:Int}(h:σ.has id=true):∃(i:Nat) (x:One),id=(i:Int)∧σ.af[i]?=some x∧σ.one id=some x:=by
 obtain⟨i,rfl,hi⟩:=dU h
 refine⟨i,σ.af[i],rfl,List.getElem?_eq_getElem hi,?_⟩
 simp[Cs.one,h,List.getElem?_eq_getElem hi]
theorem zdI (hf:pq F)(e:L c=some (.abs (wy c σ)))(hn:Qa σ)(id:Int):zd F gN [.p (some (c,0)),.i .i64 id] L fun v L'=>v=.ay [ptr (match σ.one id with | some o=>o.c | none=>none),.i .i64 (if σ.has id=true then 0 else 4)]∧L'=L:=by
 refine zr ?_
 intro Q hQ
 apply yR e
 intro aM tv nv cv av K o
 apply Qu hf.code
 unfold qF
 refine (wJ hf.fG o id).mono ?_
 rintro _ K' ⟨rfl,rfl⟩
 cases h:σ.has id with
 | false =>
  simp only[zf,yf,Bool.not_false,z9]
  have h1:σ.one id=none:=by simp[Cs.one,h]
  rw[h,h1]at hQ
  exact⟨_,o.back e,hQ _ _ ⟨rfl,rfl⟩⟩
 | true =>
  obtain⟨i,x,rfl,hx,h1⟩:=xz h
  obtain⟨k,hk,dA⟩:=hn.1 i x hx
  simp only[zf,yf,Bool.not_true,zC]
  refine (xU hf.eT o hx hk (by rw[o.n.len];exact dA)).mono ?_
  rintro _ K2 ⟨⟨b,hb,rfl⟩,rfl⟩
  have r:=o.rn hb (o.n.one i k x hx hk) (j:=11) (by omega)
  simp only[zf,zh,zk,zt,r,zg,bf.cells,zJ,List.getElem?_cons_zero,List.getElem?_cons_succ]
  rw[h,h1]at hQ
  exact⟨_,o.back e,hQ _ _ ⟨rfl,rfl⟩⟩
theorem zfo (hf:iz F)(e:L c=some (.abs (wy c σ)))(hn:Qa σ)(id:Int):zd F gM [.p (some (c,0)),.i .i64 id] L fun v L'=>v=.ay [.i .i64 (match σ.one id with | some o=>o.err | none=>0),.i .i64 (match σ.one id with | some o=>o.cause | none=>0),.i .i64 (if σ.has id=true then 0 else 4)]∧L'=L:=by
 refine zr ?_
 intro Q hQ
 apply yR e
 intro aM tv nv cv av K o
 apply Qs hf.code
 unfold qC
 refine (wJ hf.fG o id).mono ?_
 rintro _ K' ⟨rfl,rfl⟩
 cases h:σ.has id with
 | false =>
  simp only[zf,yf,Bool.not_false,z9]
  have h1:σ.one id=none:=by simp[Cs.one,h]
  rw[h,h1]at hQ
  exact⟨_,o.back e,hQ _ _ ⟨rfl,rfl⟩⟩
 | true =>
  obtain⟨i,x,rfl,hx,h1⟩:=xz h
  obtain⟨k,hk,dA⟩:=hn.1 i x hx
  simp only[zf,yf,Bool.not_true,zC]
  refine (xU hf.eT o hx hk (by rw[o.n.len];exact dA)).mono ?_
  rintro _ K2 ⟨⟨b,hb,rfl⟩,rfl⟩
  have r:=o.rn hb (o.n.one i k x hx hk) (j:=5) (by omega)
  have r6:=o.rn hb (o.n.one i k x hx hk) (j:=6) (by omega)
  simp only[zf,zh,zk,zt,r,zg,bf.cells,zJ,List.getElem?_cons_zero,List.getElem?_cons_succ]
  refine (xU hf.eT o hx hk (by rw[o.n.len];exact dA)).mono ?_
  rintro _ K3 ⟨⟨b',hb',rfl⟩,rfl⟩
  have:b'=b:=by rw[hb]at hb';cases hb';rfl
  subst this
  simp only[zf,zh,zk,zt,r6,zg,bf.cells,zJ,List.getElem?_cons_zero,List.getElem?_cons_succ]
  rw[h,h1]at hQ
  refine⟨⟨by simp[yb,yC,XT,r,bf.cells,zJ],trivial⟩,_,o.back e,hQ _ _ ⟨rfl,rfl⟩⟩
theorem zaZ (hf:iy F)(e:L c=some (.abs (wy c σ)))(hn:Qa σ)(id:Int):zd F gL [.p (some (c,0)),.i .i64 id] L fun v L'=>v=.ay [.i .i64 (match σ.one id with | some o=>o.when | none=>0),.b (match σ.one id with | some o=>o.has | none=>false),.i .i64 (if σ.has id=true then 0 else 4)]∧L'=L:=by
 refine zr ?_
 intro Q hQ
 apply yR e
 intro aM tv nv cv av K o
 apply Qr hf.code
 unfold qB
 refine (wJ hf.fG o id).mono ?_
 rintro _ K' ⟨rfl,rfl⟩
 cases h:σ.has id with
 | false =>
  simp only[zf,yf,Bool.not_false,z9]
  have h1:σ.one id=none:=by simp[Cs.one,h]
  rw[h,h1]at hQ
  exact⟨_,o.back e,hQ _ _ ⟨rfl,rfl⟩⟩
 | true =>
  obtain⟨i,x,rfl,hx,h1⟩:=xz h
  obtain⟨k,hk,dA⟩:=hn.1 i x hx
  simp only[zf,yf,Bool.not_true,zC]
  refine (xU hf.eT o hx hk (by rw[o.n.len];exact dA)).mono ?_
  rintro _ K2 ⟨⟨b,hb,rfl⟩,rfl⟩
  have r:=o.rn hb (o.n.one i k x hx hk) (j:=7) (by omega)
  have r6:=o.rn hb (o.n.one i k x hx hk) (j:=8) (by omega)
  simp only[zf,zh,zk,zt,r,zg,bf.cells,zJ,List.getElem?_cons_zero,List.getElem?_cons_succ]
  refine (xU hf.eT o hx hk (by rw[o.n.len];exact dA)).mono ?_
  rintro _ K3 ⟨⟨b',hb',rfl⟩,rfl⟩
  have:b'=b:=by rw[hb]at hb';cases hb';rfl
  subst this
  simp only[zf,zh,zk,zt,r6,zg,bf.cells,zJ,List.getElem?_cons_zero,List.getElem?_cons_succ]
  rw[h,h1]at hQ
  refine⟨⟨by simp[yb,yC,XT,r,bf.cells,zJ],trivial⟩,_,o.back e,hQ _ _ ⟨rfl,rfl⟩⟩
theorem X6 (hf:pg F)(e:L c=some (.abs (wy c σ))):zd F fk [.p (some (c,0))] L fun v L'=>v=.i .i64 σ.af.length∧L'=L:=by
 refine zr ?_
 intro Q hQ
 apply yR e
 intro aM tv nv cv av K o
 apply Qt hf.code
 unfold qD
 have hlen:=fun X k=>o.cs.len (F:=F) X k
 simp only[zf,zh,zk,Nat.zero_add,zt,o.f3,zg,hlen]
 exact⟨_,o.back e,hQ _ _ ⟨rfl,rfl⟩⟩
end
end
section
variable {F:Nat→Option aT}
def AO (S:CX):Prop:=∀(j k:Nat) (x:cK) (n:Nd),S.σ.ai[j]?=some x→x.node=(k:Int)→S.σ.tree[k]?=some n→n.linked=true→x.ak=false
section
variable {L K:Lg} {c:Nat} {aM:List bf} {tv nv cv av:AV} {S:CX}
theorem zfk (hf:ef F)(o:XR L c S.σ aM tv nv cv av K){i k:Nat}{x:One}(hx:S.σ.af[i]?=some x)(hk:x.node=(k:Int))(he:x.free=true∨x.err≠0)(dA:k<S.σ.tree.length)(err cause:Int)(v1 v2:AV) :
  zd F cW [.p (some (c,0)),.i .i64 k,.i .i64 err,.i .i64 cause,v1,v2] K fun v K'=>v=.ay [v1,v2]∧K'=K:=by
 refine zr ?_
 intro Q hQ
 apply IJ hf.code
 generalize hE:zI [AV.p (some (c,0)),.i .i64 k,.i .i64 err,.i .i64 cause,v1,v2] 0=E
 have e0:E 0=.p (some (c,0)):=by rw[←hE];simp[zI]
 have e1:E 1=.i .i64 k:=by rw[←hE];simp[zI]
 have e4:E 4=v1:=by rw[←hE];simp[zI]
 have e5:E 5=v2:=by rw[←hE];simp[zI]
 clear hE
 unfold jf je
 have f0:(Env.put (Env.put E 12 (.sl none 0 0 0)) 13 (.sl none 0 0 0)) 0=.p (some (c,0)):=by simp[e0]
 have f1:(Env.put (Env.put E 12 (.sl none 0 0 0)) 13 (.sl none 0 0 0)) 1=.i .i64 k:=by simp[e1]
 have f4:(Env.put (Env.put E 12 (.sl none 0 0 0)) 13 (.sl none 0 0 0)) 4=v1:=by simp[e4]
 have f5:(Env.put (Env.put E 12 (.sl none 0 0 0)) 13 (.sl none 0 0 0)) 5=v2:=by simp[e5]
 generalize (Env.put (Env.put E 12 (.sl none 0 0 0)) 13 (.sl none 0 0 0))=E1 at f0 f1 f4 f5
 have hkn:k<aM.length:=by rw[o.n.len];exact dA
 obtain⟨b,hb,dZ,Sp⟩:=o.nb (F:=F) hkn
 rw[f0,f1]
 simp only[zf,zh,zk,Nat.zero_add,zt,o.f2,zg,Sp]
 have g4:(Env.put E1 14 (.p (some (b,k * 12)))) 4=v1:=by simp[f4]
 have g5:(Env.put E1 14 (.p (some (b,k * 12)))) 5=v2:=by simp[f5]
 have Jv:(Env.put E1 14 (.p (some (b,k * 12)))) 14=.p (some (b,k * 12)):=by simp
 generalize (Env.put E1 14 (.p (some (b,k * 12))))=E2 at g4 g5 Jv
 unfold gj
 rw[Jv]
 have hx1:=o.n.one i k x hx hk
 have rn:=fun (j:Nat) (hj:j<12)=>o.rn hb hx1 hj
 have r0:aq K (b,k * 12) none=some (.b false):=by have:=rn 0 (by omega);simpa[zJ,bf.cells]using this
 have r5:aq K (b,k * 12+5) none=some (.i .i64 x.err):=by rw[rn 5 (by omega)];rfl
 have r4:aq K (b,k * 12+4) none=some (.b x.free):=by rw[rn 4 (by omega)];rfl
 simp only[zf,zh,zk,Nat.add_zero,zt,r0,zg]
 unfold dI jd
 rw[Jv,g4,g5]
 by_cases h5:x.err=0
 ·rw[h5]at r5
  have hfr:x.free=true:=by rcases he with h | h;exact h;exact absurd h5 h
  rw[hfr]at r4
  simp only[zf,zC,zh,zk,zt,r5,r4,zg,wA,ne_eq,not_true_eq_false,decide_false,zw,yo,zW,z9]
  exact⟨K,zx.refl _,hQ _ _ ⟨rfl,rfl⟩⟩
 ·simp only[zf,zC,zh,zk,zt,r5,r4,zg,wA,ne_eq,h5,not_false_eq_true,decide_true,YR,xD,zV,z9]
  exact⟨K,zx.refl _,hQ _ _ ⟨rfl,rfl⟩⟩
theorem AO.Mx (ao:AO S)(wf:WF S){i k:Nat}{x:One}(hx:S.σ.af[i]?=some x)(hk:x.node=(k:Int))(n:Nat):∀j∈pre S.σ.tree n k,xI S j:=by
 intro j hj q y hq hy
 obtain⟨k',e1,e2,e3⟩:=wf.bS i x hx
 have:k'=k:=by omega
 subst this
 by_cases e:j=k'
 ·subst e;rw[e3]at hq;simp at hq;omega
 obtain⟨m,hm⟩:=Vs n k' j hj e
 have hl:S.σ.tree[j]?=some m∧m.linked=true:=by
  rcases hm with⟨h1,h2,_⟩ | hm
  ·exact⟨h1,h2⟩
  ·exact hm.elim
 obtain⟨k3,d1,d2,d3,_⟩:=wf.eJ q y hy
 rcases wf.cover j ((Zg wf.tr _ _ _ hj).2 e2)with⟨i2,x2,c1,c2,c3⟩ | ⟨j2,x2,c1,c2,c3⟩
 ·rw[c1]at hq;simp at hq;omega
 ·rw[c1]at hq;simp at hq
  have:j2=q:=by omega
  subst this
  rw[hy]at c2;cases c2
  exact ao j2 j y m hy c3 hl.1 hl.2
theorem ZF (hf:ef F){B:Int}(wf:WF S)(ao:AO S)(tf:aQ S.τ B)(o:XR L c S.σ aM tv nv cv av K)(out:bE c S L){i k:Nat}{x:One}(hx:S.σ.af[i]?=some x)(hk:x.node=(k:Int))(err cause:Int) :
  zd F cW [.p (some (c,0)),.i .i64 k,.i .i64 err,.i .i64 cause,.sl none 0 0 0,.sl none 0 0 0] K fun v K'=>∃(R:Za) (L':Lg) (bz:List bf) (w1 w2:AV) (ps':List (cx×AV)),S.az 200 i err cause=some R∧v=.ay [w1,w2]∧XR L' c R.1.σ bz tv nv cv av K'∧bE c R.1 L'∧fh c S.σ L L'∧bV L' c [tv,nv,cv,av] K' w1 w2 ps' R.2.2∧ps'.map (·.1)=R.2.1∧aQ R.1.τ B:=by
 obtain⟨k',e1,e2,e3⟩:=wf.bS i x hx
 have:k'=k:=by omega
 subst this
 by_cases he:x.free=true∨x.err≠0
 ·refine (zfk hf o hx hk he e2 err cause _ _).mono ?_
  rintro _ K' ⟨rfl,rfl⟩
  exact⟨(S,[],[]),L,aM,_,_,[],yA hx he 199 err cause,rfl,o,out,fh.refl _ _ _,bV.nil _ _ _ _,rfl,tf⟩
 ·simp only[not_or,Bool.not_eq_true,ne_eq,Decidable.not_not]at he
  have hsz:=wf.sz
  have hlen:=wf.len
  have j5:(pre S.σ.tree 200 k').length≤1000:=by
   have fQ:=wg wf.tr 200 k'
   have hsub:pre S.σ.tree 200 k' ⊆ List.range S.σ.tree.length:=fun j hj=>List.mem_range.2 ((Zg wf.tr _ _ _ hj).2 e2)
   have:=fQ.length_le_of_subset hsub
   simp at this;omega
  refine (zbt hf wf.tr 200 c k' (fun _=>false) S err cause B L K aM tv nv cv av _ _ [] [] (by omega) e2 (ZD _ (fun _=>rfl)).symm (fun _ _=>rfl) (wf.Bn hx hk he.1 he.2 200) (ao.Mx wf hx hk 200) tf o out (bV.nil _ _ _ _) (by simp;omega) (by simp;omega)).mono ?_
  rintro v K' ⟨R,L',bz,w1,w2,ps',hR,hv,o',out',fr',Hv,hps,NI,_,_⟩
  exact⟨R,L',bz,w1,w2,ps',by rw[hR];exact wf.az hx hk he.1 he.2 err cause,hv,o',out',fr',Hv,hps,NI⟩
end
structure dm (c:Nat)(S S':CX)(L Lf:Lg):Prop where
 e:Lf c=some (.abs (wy c S'.σ))
 out:bE c S' Lf
 fr:fh c S.σ L Lf
def Ht (K:Lg)(v1 v2:AV)(aN:List cx)(aJ:List (Int×Int)):Prop:=∃ps:List (cx×AV),ps.map (·.1)=aN∧bu K v1 (zl Fc ps) ps.length 4∧bu K v2 (zl nZ aJ) aJ.length 2∧∀p∈ps,dj K p.2 (zl Wk.cells p.1.bG) p.1.bG.length 5
section
variable {L L' K K':Lg} {c:Nat} {aM:List bf} {tv nv cv av v1 v2:AV} {S S':CX} {σ:Cs} {ps:List (cx×AV)} {aJ:List (Int×Int)}
open Classical in
noncomputable def Lg.all (L:Lg)(c:Nat)(vs:List AV)(K:Lg):Lg:=fun b=>if vf L c vs b then K b else L b
theorem UC {vs:List AV}{b:Nat}(h:vf L c vs b):L.all c vs K b=K b:=by unfold Lg.all;rw[if_pos h]
theorem zbI {vs:List AV}{b:Nat}(h:¬vf L c vs b):L.all c vs K b=L b:=by unfold Lg.all;rw[if_neg h]
theorem ziy {vs:List AV}{b:Nat}{d:LC}(h:L b=some d):L.all c vs K b=some d:=by rw[zbI (fun h9=>by have:=h9.1;rw[h]at this;cases this),h]
theorem XR.all (o:XR L c σ aM tv nv cv av K):XR (L.all c [tv,nv,cv,av] K) c σ aM tv nv cv av K:=by
 refine⟨⟨o.g.root,o.g.own,fun i p hp b hb=>⟨(o.g.ap i p hp b hb).1,?_⟩,o.g.nd,fun q d hq hd=>?_⟩,o.n⟩
 ·rw[zbI (fun h9=>h9.2.2 _ (zaV hp) hb)];exact (o.g.ap i p hp b hb).2
 ·by_cases h:vf L c [tv,nv,cv,av] q
  ·rw[UC h]at hd;exact hd
  ·rw[zbI h]at hd;exact o.g.old q d hq hd
theorem bE.sub (out:bE c S L)(h:∀b d,L b=some d→L' b=some d):bE c S L' :=
 ⟨fun s hs=>⟨(out.bQ s hs).1,h _ _ (out.bQ s hs).2⟩,fun o ho a ha=>⟨(out.bB o ho a ha).1,(out.bB o ho a ha).2.1,h _ _ (out.bB o ho a ha).2.2⟩⟩
theorem bE.root (out:bE c S L)(d:LC):bE c S (L.put c d) :=
 ⟨fun s hs=>⟨(out.bQ s hs).1,by rw[zb _ _ _ (out.bQ s hs).1];exact (out.bQ s hs).2⟩,fun o ho a ha=>⟨(out.bB o ho a ha).1,(out.bB o ho a ha).2.1,by rw[zb _ _ _ (out.bB o ho a ha).1];exact (out.bB o ho a ha).2.2⟩⟩
theorem Hu (o:XR L' c S'.σ aM tv nv cv av K')(out:bE c S' L')(fr:fh c σ L L')(rr:bV L' c [tv,nv,cv,av] K' v1 v2 ps aJ)(hσ:σ=S.σ) :
  ∃Lf,zx K' Lf∧dm c S S' L Lf∧Ht Lf v1 v2 (ps.map (·.1)) aJ:=by
 subst hσ
 have h9:∀b d,L' b=some d→(L'.all c [tv,nv,cv,av] K') b=some d:=fun b d h=>ziy h
 have hfr:∀{v:AV} {cs:List AV} {n z:Nat},bu K' v cs n z→(∀b,au v=some b→vf L' c [tv,nv,cv,av] b)→bu ((L'.all c [tv,nv,cv,av] K').put c (.abs (wy c S'.σ))) v cs n z:=by
  intro v cs n z h1 h2
  exact h1.mono fun b hb=>by rw[zb _ _ _ (h2 b hb).2.1,UC (h2 b hb)]
 refine⟨_,o.all.shut,⟨ze _ _ _,(out.sub h9).root _,fun r d h1 h2 h3 h4=>by rw[zb _ _ _ h1];exact h9 _ _ (fr r d h1 h2 h3 h4)⟩,ps,rfl,hfr rr.o1 fun b hb=>(rr.f1 b hb).1,hfr rr.o2 rr.f2,fun p hp=>?_⟩
 exact (rr.ins p hp).1.mono fun b hb=>by rw[zb _ _ _ ((rr.ins p hp).2 b hb).1.2.1,UC ((rr.ins p hp).2 b hb).1]
end
end
section
variable {F:Nat→Option aT}
theorem AO.add {S:CX}(h:AO S)(wf:WF S){σ':Cs}{uY:bk}{Aa:Nat→Ch}(ha:σ'.ai=S.σ.ai){p:Int}{lk:Bool}(had:gH S.σ.tree p lk σ'.tree):AO ⟨σ',uY,Aa⟩:=by
 intro j k x n hx hk hn hl
 simp only at hx hn
 rw[ha]at hx
 rcases had.back hn with⟨_,m,hm,_,h2⟩ | ⟨h1,_,_⟩
 ·exact h j k x m hx hk hm (by rw[←h2];exact hl)
 ·obtain⟨k',e1,e2,_⟩:=wf.eJ j x hx
  omega
theorem AO.walk {S S':CX}(h:AO S){l:List Nat}(ht:S'.σ.tree=yd S.σ.tree fun j=>decide (j∈l))(ha:∀w:Nat,S'.σ.ai[w]?=(S.σ.ai[w]?).map fun (x:cK)=>if nc l x.node=true then { x with ak:=true }else x):AO S':=by
 intro j k x n hx hk hn hl
 rw[ha]at hx
 cases e:S.σ.ai[j]? with
 | none=>rw[e]at hx;cases hx
 | some y =>
  rw[e]at hx
  simp at hx
  subst hx
  have R1:y.node=(k:Int):=by split at hk<;>exact hk
  rw[ht,yU]at hn
  cases e2:S.σ.tree[k]? with
  | none=>rw[e2]at hn;cases hn
  | some m =>
   rw[e2]at hn;simp at hn;subst hn
   simp at hl
   rw[zbn R1]
   simp[hl.2]
   exact h j k y m e R1 e2 hl.1
theorem zdu {S:CX}(wf:WF S)(ao:AO S){i:Nat}{x:One}(hx:S.σ.af[i]?=some x){err cause:Int}(dS:err≠0){r:Za}(hr:S.az 200 i err cause=some r):WF r.1∧AO r.1∧r.1.σ.t=S.σ.t∧r.1.σ.af.length=S.σ.af.length∧r.1.τ.af=S.τ.af:=by
 obtain⟨k,hk,_,_⟩:=wf.bS i x hx
 by_cases he:x.free=true∨x.err≠0
 ·rw[yA hx he 199]at hr
  cases hr
  exact⟨wf,ao,rfl,rfl,rfl⟩
 ·simp only[not_or,Bool.not_eq_true,ne_eq,Decidable.not_not]at he
  rw[wf.az hx hk he.1 he.2]at hr
  simp only[Option.some.injEq]at hr
  obtain⟨h1,h2,h3,h4,h5,h6,h7⟩:=wf.walk hx hk he.1 he.2 dS hr
  refine⟨h1,ao.walk h5 h7,h3,?_,h4⟩
  have e1:=h6 S.σ.af.length
  have e2:=h6 r.1.σ.af.length
  rw[List.getElem?_eq_none (Nat.le_refl _)]at e1 e2
  rcases Nat.lt_trichotomy r.1.σ.af.length S.σ.af.length with h9 | h9 | h9
  ·rw[List.getElem?_eq_getElem h9]at e2;cases e2
  ·exact h9
  ·rw[List.getElem?_eq_getElem h9]at e1;cases e1
theorem WF.aG {S:CX}(h:WF S){p:Nat}{up o:One}(aI:S.σ.af[p]?=some up)(hlen:S.σ.af.length<64)(ho:o.err=0)(a:Nat) :
  WF (S.aG o up.node a)∧(S.aG o up.node a).σ.af=S.σ.af++[{ o with c:=some a,node:=S.σ.tree.length,timer:=-1 }]∧gH S.σ.tree up.node (!o.free) (S.aG o up.node a).σ.tree:=by
 have:=h.add (o:={ o with c:=some a }) (Aa:=xd S.χ a .sg) aI hlen ho (fun b n hb=>Ve S.χ a b n hb) (fun b hb=>by simp at hb;subst hb;simp[xd,Ch.sg])
 exact⟨this.1,this.2.1,this.2.2.1⟩
theorem xr {σ:Cs}{id:Int}(h:σ.room id=0):∃(i:Nat) (x:One),id=(i:Int)∧i<σ.af.length∧σ.af[i]?=some x∧σ.has id=true∧σ.af.length<64:=by
 obtain⟨i,rfl,hi⟩:=Yi h
 refine⟨i,σ.af[i],rfl,hi,List.getElem?_eq_getElem hi,by simp[Cs.has,hi],?_⟩
 unfold Cs.room at h
 split at h
 ·cases h
 ·split at h
  ·cases h
  ·omega
section
variable {L K:Lg} {c:Nat} {aM:List bf} {tv nv cv av:AV} {S:CX}
theorem bE.BE (ho:bE c S L){o:One}(h:o.c=none)(parent:Int):bE c (S.fH o parent) L:=by
 refine⟨ho.bQ,fun o1 h1 a h2=>?_⟩
 have dy:o1∈S.σ.af++[{ o with node:=(zP S.σ.tree parent (!o.free)).2.1,timer:=-1 }]:=h1
 rcases List.mem_append.1 dy with dy | dy
 ·exact ho.bB o1 dy a h2
 ·simp at dy;subst dy;rw[h]at h2;cases h2
theorem bE.aG (ho:bE c S L){o:One}{a:Nat}(ha:L a=none)(hac:a≠c)(parent:Int):bE c (S.aG o parent a) (L.put a (.abs (YH a .sg))):=by
 have hn:∀r P,L r=some P→r≠a:=by rintro r P h rfl;rw[ha]at h;cases h
 refine⟨fun s hs=>?_,fun o1 h1 a1 h2=>?_⟩
 ·have:=ho.bQ s hs
  exact⟨this.1,by rw[zb _ _ _ (hn _ _ this.2)];exact this.2⟩
 have dy:o1∈S.σ.af++[{ ({ o with c:=some a }:One)with node:=(zP S.σ.tree parent (!o.free)).2.1,timer:=-1 }]:=h1
 rcases List.mem_append.1 dy with dy | dy
 ·have:=ho.bB o1 dy a1 h2
  have e:a1≠a:=hn _ _ this.2.2
  exact⟨this.1,this.2.1,by rw[zb _ _ _ e];simp[CX.aG,xd,e,this.2.2]⟩
 ·simp at dy;subst dy
  simp at h2;subst h2
  refine⟨hac,?_,by rw[ze];simp[CX.aG,xd]⟩
  intro h9
  exact hn _ _ (ho.bQ a h9).2 rfl
theorem fh.add {L0:Lg}{o:One}{p:Int}{a:Nat}(fr:fh c (S.aG o p a).σ L K)(ha:L0 a=none)(h0:∀r d,L0 r=some d→L r=some d):fh c S.σ L0 K:=by
 intro r d h1 h2 h3 h4
 refine fr r d h1 h2 (fun o1 h5 h6=>?_) (h0 r d h4)
 have h5':o1∈S.σ.af++[{ ({ o with c:=some a }:One)with node:=(zP S.σ.tree p (!o.free)).2.1,timer:=-1 }]:=h5
 rcases List.mem_append.1 h5' with h7 | h7
 ·exact h3 o1 h7 h6
 ·simp at h7;subst h7;simp at h6;subst h6;rw[ha]at h4;cases h4
theorem zoi {K:Lg}{a:Nat}:zx (K.put a (.raw (.cells [.i .i64 0,.b false,.b true,.b false,.sl none 0 0 0,.sl none 0 0 0,.sl none 0 0 0]))) (K.put a (.abs (YH a .sg))):=by
 have o:aE K a .sg (.sl none 0 0 0) (.sl none 0 0 0) (.sl none 0 0 0) (K.put a (.raw (.cells [.i .i64 0,.b false,.b true,.b false,.sl none 0 0 0,.sl none 0 0 0,.sl none 0 0 0]))) :=
  ⟨ze _ _ _,.inl (bu.nil _ _),.inl (bu.nil _ _),.inl (bu.nil _ _),(fun b h=>by cases h),(fun b h=>by cases h),(fun b h=>by cases h),(fun r d hr hd=>by rw[zb _ _ _ hr];exact hd),(by simp[Ch.sg])⟩
 exact o.shut
theorem vO (hf:kA F){B:Int}(wf:WF S)(ao:AO S)(tf:aQ S.τ B)(o:XR L c S.σ aM tv nv cv av K)(out:bE c S L)(id:Int) :
  zd F dX [.p (some (c,0)),.i .i64 id] K fun v K'=>∃(a:Nat) (r:Fa) (L':Lg) (bz:List bf) (gI iE Fi w v2:AV) (ps:List (cx×AV)) (aJ:List (Int×Int)),(S.σ.room id=0→L a=none)∧S.aL id a=some r∧v=.ay [.i .i64 r.2.1,w,.i .i64 r.2.2.2] ∧
   XR L' c r.1.σ bz gI iE Fi av K'∧bE c r.1 L'∧fh c S.σ L L'∧bV L' c [gI,iE,Fi,av] K' w v2 ps aJ∧ps.map (·.1)=r.2.2.1∧aQ r.1.τ B:=by
 refine zr ?_
 intro Q hQ
 apply QB hf.code
 unfold rC rB
 refine (wJ hf.fG o id).mono ?_
 rintro _ K' ⟨rfl,rfl⟩
 have bad:∀z:Int,S.σ.room id=z→z≠0→zm (some (.ay [.i .i64 0,.sl none 0 0 0,.i .i64 z])) Q K':=fun z hz h0=>⟨K',zx.refl _,hQ _ _ ⟨0,(S,0,[],S.σ.room id),L,aM,tv,nv,cv,_,.sl none 0 0 0,[],[],fun h=>absurd (hz.symm.trans h) h0,by unfold CX.aL;rw[if_pos (by rw[hz];exact h0)],by rw[hz],o,out,fh.refl _ _ _,bV.nil _ _ _ _,rfl,tf⟩⟩
 cases h:S.σ.has id with
 | false =>
  simp only[zf,yf,Bool.not_false,z9]
  exact bad 4 (by simp[Cs.room,h]) (by omega)
 | true =>
 simp only[zf,yf,Bool.not_true,zC]
 unfold rA
 have cQ:=fun X k=>o.cs.len (F:=F) X k
 simp only[zf,zh,zk,Nat.zero_add,zt,o.f3,zg,cQ,vg]
 by_cases OC:(64:Int)≤(S.σ.af.length:Int)
 ·rw[decide_eq_true OC]
  simp only[z9]
  exact bad 3 (by simp[Cs.room,h];omega) (by omega)
 rw[decide_eq_false OC]
 simp only[zC]
 have hroom:S.σ.room id=0:=by simp[Cs.room,h];omega
 obtain⟨i,up,rfl,bK,aI,_,hlen⟩:=xr hroom
 obtain⟨k,hk,dA,hwk⟩:=wf.bS i up aI
 unfold rz
 refine (xU hf.eT o aI hk (by rw[o.n.len];exact dA)).mono ?_
 rintro _ K2 ⟨⟨b,hb,rfl⟩,rfl⟩
 have fQ:=o.n.one i k up aI hk
 have r12:aq K2 (b,k * 12) (some 12)=some (.agg (zJ i up).cells):=by
  rw[yc (o.ns.block hb) (by rw[zY bf.len];have:=(List.getElem?_eq_some_iff.1 fQ).1;omega)]
  rw[(xT bf.len aM k _ fQ).1]
 simp only[zf,zh,zt,r12,zg,y4]
 intro b4 hb4
 simp only[zf,yj]
 rw[zu (n:=12) (ze _ _ _) (bf.one _) (bf.len _) (by simp),zA]
 have hsp:zo [.b false,.i .i64 0,.i .i64 0,.b false,.b false,.i .i64 0,.i .i64 0,.i .i64 0,.b false,.b false,.i .i64 0,.p none] 0 (zJ i up).cells=(zJ i up).cells:=by simp[zo,bf.cells,zp,zq]
 rw[hsp]
 obtain⟨zmS,zpO,_⟩:=o.free hb4
 have o4:=o.bW hb4 (.raw (.cells (zJ i up).cells))
 have Fx:=out.put zmS (.raw (.cells (zJ i up).cells))
 have k4:(K2.put b4 (.raw (.cells (zJ i up).cells))) b4=some (.raw (.cells (zJ i up).cells)):=ze _ _ _
 have l4:∀r d,L r=some d→(L.put b4 (.raw (.cells (zJ i up).cells))) r=some d:=fun r d hr=>by rw[zb _ _ _ (by rintro rfl;rw[zmS]at hr;cases hr)];exact hr
 have l44:(L.put b4 (.raw (.cells (zJ i up).cells))) b4=some (.raw (.cells (zJ i up).cells)):=ze _ _ _
 generalize (K2.put b4 (.raw (.cells (zJ i up).cells)))=K4 at o4 k4
 generalize (L.put b4 (.raw (.cells (zJ i up).cells)))=L4 at o4 Fx l4 l44
 unfold ry
 obtain⟨q,z,q1,q2,_⟩:=o4.sC.get (F:=F) (i:=i) (x:=(k:Int)) (by rw[List.getElem?_map,aI,←hk];rfl)
 have rk:aq K4 (q,z) none=some (.i .i64 k):=(q2 K4 (zQ.refl _)).1 0 (by omega)
 have hbc:∀(X:Lg) (k:AV→Lg→Prop),za F (.build [.i .i64 0,.b false,.b false,.b false,.sl none 0 0 0,.sl none 0 0 0,.sl none 0 0 0] [(2,1)]) [.b true] X k=k (.agg [.i .i64 0,.b false,.b true,.b false,.sl none 0 0 0,.sl none 0 0 0,.sl none 0 0 0]) X:=by
  intro X k;simp[zF,zo,zp,zq]
 simp only[zf,zh,zk,Nat.zero_add,zt,o4.f3,zg,q1,rk,hbc,vu]
 rw[zL _ _ _ (by simp)]
 intro a ha
 obtain⟨TD,hac,_⟩:=o4.free ha
 have zlX:a≠b4:=by rintro rfl;rw[k4]at ha;cases ha
 have kk4:(K4.put a (.raw (.cells [.i .i64 0,.b false,.b true,.b false,.sl none 0 0 0,.sl none 0 0 0,.sl none 0 0 0]))) b4=some (.raw (.cells (zJ i up).cells)):=by rw[zb _ _ _ (Ne.symm zlX)];exact k4
 have s7:aq (K4.put a (.raw (.cells [.i .i64 0,.b false,.b true,.b false,.sl none 0 0 0,.sl none 0 0 0,.sl none 0 0 0]))) (b4,7) none=some (.i .i64 up.when):=by rw[zj kk4];rfl
 have s8:aq (K4.put a (.raw (.cells [.i .i64 0,.b false,.b true,.b false,.sl none 0 0 0,.sl none 0 0 0,.sl none 0 0 0]))) (b4,8) none=some (.b up.has):=by rw[zj kk4];rfl
 have gD:∀(X:Lg) (k:AV→Lg→Prop),za F (.build [.b false,.i .i64 0,.i .i64 0,.b false,.b false,.i .i64 0,.i .i64 0,.i .i64 0,.b false,.b false,.i .i64 0,.p none] [(11,1),(7,1),(8,1),(10,1)]) [.p (some (a,0)),.i .i64 up.when,.b up.has,.i .i64 (-1)] X k=k (.agg (zJ 0 { ({ ({ One.zero with when:=up.when,has:=up.has }:One)with c:=some a }:One)with timer:=-1 }).cells) X:=by
  intro X k;simp[zF,zo,zp,zq,bf.cells,zJ,One.zero]
 simp only[zf,zk,Nat.zero_add,zt,s7,s8,zg,gD]
 refine zd.pre zoi ?_
 have oa:=o4.bW ha (.abs (YH a .sg))
 have RH:=Fx.aG (o:={ One.zero with when:=up.when,has:=up.has }) TD hac up.node
 have A2:=wf.node aI
 have m6:S.σ.tree.length<1000:=by have:=wf.len;have:=wf.sz;omega
 rw[←hk]
 refine (WA hf.f124 oa m6 (by omega) (.inr A2.1) ({ ({ One.zero with when:=up.when,has:=up.has }:One)with c:=some a }:One)).mono ?_
 rintro _ K5 ⟨rfl,MA,tv5,nv5,cv5,o5⟩
 obtain⟨S5,Ow⟩:∃S5,S5=S.aG { One.zero with when:=up.when,has:=up.has } up.node a:=⟨_,rfl⟩
 have Ic:XR (L4.put a (.abs (YH a .sg))) c S5.σ MA tv5 nv5 cv5 av K5:=by rw[Ow];exact o5
 rw[←Ow]at RH
 obtain⟨w5,e5,d5⟩:=wf.aG (o:={ One.zero with when:=up.when,has:=up.has }) aI hlen rfl a
 rw[←Ow]at w5 e5 d5
 have ao5:AO S5:=by rw[Ow];exact ao.add wf rfl (by rw[Ow]at d5;exact d5)
 have tf5:aQ S5.τ B:=by rw[Ow];exact tf
 have hcp:∀aN S',S5.bw S.σ.af.length i=some (S',aN)→S.aL i a=some (S',(S.σ.af.length:Int),aN,0):=by
  intro aN S' h9
  unfold CX.aL
  rw[if_neg (by rw[hroom];simp),if_pos wf.bM]
  simp only[Int.toNat_natCast,aI,←Ow,h9]
 have zlj:S5.σ.af[i]?=some up:=by rw[e5,List.getElem?_append_left bK];exact aI
 have Jw:fh c S.σ L (L4.put a (.abs (YH a .sg))):=fun r d _ _ _ hr=>by rw[zb _ _ _ (by rintro rfl;rw[l4 _ _ hr]at TD;cases TD)];exact l4 r d hr
 unfold ru
 have u4:K5 b4=some (.raw (.cells (zJ i up).cells)):=Ic.g.old b4 _ zpO (by rw[zb _ _ _ (Ne.symm zlX)];exact l44)
 have u5:aq K5 (b4,5) none=some (.i .i64 up.err):=by rw[zj u4];rfl
 have u6:aq K5 (b4,6) none=some (.i .i64 up.cause):=by rw[zj u4];rfl
 have hla:L a=none:=by
  cases h9:L a with
  | none=>rfl
  | some d=>rw[l4 _ _ h9]at TD;cases TD
 simp only[zf,zk,Nat.zero_add,zt,u5,zg,xw]
 by_cases h0:up.err=0
 ·rw[decide_eq_true h0]
  simp only[z9]
  refine⟨K5,zx.refl _,hQ _ _ ⟨a,(S5,S.σ.af.length,[],0),_,MA,tv5,nv5,cv5,_,.sl none 0 0 0,[],[],fun _=>hla,hcp _ _ ?_,rfl,Ic,RH,Jw,bV.nil _ _ _ _,rfl,tf5⟩⟩
  unfold CX.bw
  rw[if_pos (by omega)]
  simp only[Int.toNat_natCast,zlj,h0,if_true]
 ·rw[decide_eq_false h0]
  have hnew:S5.σ.af[S.σ.af.length]?=some { ({ ({ One.zero with when:=up.when,has:=up.has }:One)with c:=some a }:One)with node:=S.σ.tree.length,timer:=-1 }:=by rw[e5,List.getElem?_append_right (Nat.le_refl _)];simp
  obtain⟨q5,z5,q51,q52,_⟩:=Ic.sC.get (F:=F) (i:=S.σ.af.length) (x:=(S.σ.tree.length:Int)) (by rw[List.getElem?_map,hnew];rfl)
  have rk5:aq K5 (q5,z5) none=some (.i .i64 S.σ.tree.length):=(q52 K5 (zQ.refl _)).1 0 (by omega)
  simp only[zC,zf,zh,zk,Nat.zero_add,zt,Ic.f3,u5,u6,zg,q51,rk5]
  refine (ZF hf.BD w5 ao5 tf5 Ic RH hnew rfl up.err up.cause).mono ?_
  rintro _ K6 ⟨R,L6,Mz,w1,w2,ps,hR,rfl,o6,mU,kj,Ql,hps,tf6⟩
  simp only[zf,yi,List.getElem?_cons_zero,List.getElem?_cons_succ,zg]
  refine⟨K6,zx.refl _,hQ _ _ ⟨a,(R.1,S.σ.af.length,R.2.1,0),L6,Mz,tv5,nv5,cv5,w1,w2,ps,R.2.2,fun _=>hla,hcp _ _ ?_,rfl,o6,mU,?_,Ql,hps,tf6⟩⟩
  ·unfold CX.bw
   rw[if_pos (by omega)]
   simp only[Int.toNat_natCast,zlj,h0,if_false,hR]
  ·rw[Ow]at kj
   exact fh.add kj hla fun r d hr=>by rw[zb _ _ _ (by rintro rfl;rw[l4 _ _ hr]at TD;cases TD)];exact l4 r d hr
end
end
section
variable {F:Nat→Option aT}
section
variable {L K:Lg} {c:Nat} {S:CX}
theorem dm.refl (e:L c=some (.abs (wy c S.σ)))(out:bE c S L):dm c S S L L:=⟨e,out,fh.refl _ _ _⟩
theorem Ht.nil (K:Lg):Ht K (.sl none 0 0 0) (.sl none 0 0 0) [] []:=⟨[],rfl,bu.nil _ _,bu.nil _ _,fun p hp=>by simp at hp⟩
theorem XQ (hf:kA F){B:Int}(wf:WF S)(ao:AO S)(tf:aQ S.τ B)(e:L c=some (.abs (wy c S.σ)))(out:bE c S L)(id:Int) :
  zd F dX [.p (some (c,0)),.i .i64 id] L fun v Lf=>∃(a:Nat) (r:Fa) (w v2:AV) (aJ:List (Int×Int)),(S.σ.room id=0→L a=none)∧S.aL id a=some r∧v=.ay [.i .i64 r.2.1,w,.i .i64 r.2.2.2]∧dm c S r.1 L Lf∧Ht Lf w v2 r.2.2.1 aJ∧aQ r.1.τ B:=by
 apply yR e
 intro aM tv nv cv av K o
 refine (vO hf wf ao tf o out id).cj ?_
 rintro _ K' ⟨a,r,L',bz,gI,iE,Fi,w,v2,ps,aJ,ha,hr,rfl,o',out',fr',Hv,hps,NI⟩
 obtain⟨Lf,h1,h2,h3⟩:=Hu (S:=S) o' out' fr' Hv rfl
 exact⟨Lf,h1,a,r,w,v2,aJ,ha,hr,rfl,h2,by rw[←hps];exact h3,NI⟩
theorem XO (hf:BL F){B:Int}(wf:WF S)(tf:aQ S.τ B)(e:L c=some (.abs (wy c S.σ)))(out:bE c S L)(id:Int) :
  zd F jD [.p (some (c,0)),.i .i64 id] L fun v Lf=>∃r:CX×Int×Int,S.bF id=some r∧v=.ay [.i .i64 r.2.1,.i .i64 r.2.2]∧dm c S r.1 L Lf∧aQ r.1.τ B:=by
 refine zr ?_
 intro Q hQ
 apply yR e
 intro aM tv nv cv av K o
 apply Qz hf.code
 unfold qW
 refine (wJ hf.fG o id).mono ?_
 rintro _ K' ⟨rfl,rfl⟩
 have bad:∀z:Int,S.σ.room id=z→z≠0→zm (some (.ay [.i .i64 0,.i .i64 z])) Q K':=fun z hz h0=>⟨L,o.back e,hQ _ _ ⟨(S,0,S.σ.room id),by unfold CX.bF;rw[if_pos (by rw[hz];exact h0)],by rw[hz],dm.refl e out,tf⟩⟩
 cases h:S.σ.has id with
 | false =>
  simp only[zf,yf,Bool.not_false,z9]
  exact bad 4 (by simp[Cs.room,h]) (by omega)
 | true =>
 have cQ:=fun X k=>o.cs.len (F:=F) X k
 simp only[zf,yf,Bool.not_true,zC,zh,zk,Nat.zero_add,zt,o.f3,zg,cQ,vg]
 by_cases OC:(64:Int)≤(S.σ.af.length:Int)
 ·rw[decide_eq_true OC]
  simp only[z9]
  exact bad 3 (by simp[Cs.room,h];omega) (by omega)
 rw[decide_eq_false OC]
 have hroom:S.σ.room id=0:=by simp[Cs.room,h];omega
 obtain⟨i,up,rfl,bK,aI,_,hlen⟩:=xr hroom
 obtain⟨k,hk,dA,hwk⟩:=wf.bS i up aI
 obtain⟨q,z,q1,q2,_⟩:=o.sC.get (F:=F) (i:=i) (x:=(k:Int)) (by rw[List.getElem?_map,aI,←hk];rfl)
 have rk:aq K' (q,z) none=some (.i .i64 k):=(q2 K' (zQ.refl _)).1 0 (by omega)
 have gD:∀(X:Lg) (k:AV→Lg→Prop),za F (.build [.b false,.i .i64 0,.i .i64 0,.b false,.b false,.i .i64 0,.i .i64 0,.i .i64 0,.b false,.b false,.i .i64 0,.p none] [(4,1),(10,1)]) [.b true,.i .i64 (-1)] X k=k (.agg (zJ 0 { ({ One.zero with free:=true }:One)with timer:=-1 }).cells) X:=by
  intro X k;simp[zF,zo,zp,zq,bf.cells,zJ,One.zero]
 simp only[zC,zf,zh,zk,Nat.zero_add,zt,o.f3,zg,q1,rk,gD]
 have A2:=wf.node aI
 have m6:S.σ.tree.length<1000:=by have:=wf.len;have:=wf.sz;omega
 rw[←hk]
 refine (WA hf.f124 o m6 (by omega) (.inr A2.1) ({ One.zero with free:=true }:One)).mono ?_
 rintro _ K5 ⟨rfl,MA,tv5,nv5,cv5,o5⟩
 have Ic:XR L c (S.fH { One.zero with free:=true } up.node).σ MA tv5 nv5 cv5 av K5:=o5
 have RI:bE c (S.fH { One.zero with free:=true } up.node) L:=out.BE rfl _
 obtain⟨Lf,h1,h2,_⟩:=Hu (S:=S) Ic RI (fh.refl _ S.σ L) (bV.nil _ _ _ _) rfl
 refine⟨Lf,h1,hQ _ _ ⟨(S.fH { One.zero with free:=true } up.node,S.σ.af.length,0),?_,rfl,h2,tf⟩⟩
 unfold CX.bF
 rw[if_neg (by rw[hroom];simp),if_pos wf.bM]
 simp only[Int.toNat_natCast,aI]
theorem WO (hf:BK F){B:Int}(wf:WF S)(ao:AO S)(tf:aQ S.τ B)(e:L c=some (.abs (wy c S.σ)))(out:bE c S L)(id cause:Int) :
  zd F jC [.p (some (c,0)),.i .i64 id,.i .i64 cause] L fun v Lf=>∃(r:CX×List cx×List (Int×Int)×Int) (w1 w2:AV),S.bC id cause=some r∧v=.ay [w1,w2,.i .i64 r.2.2.2]∧dm c S r.1 L Lf∧Ht Lf w1 w2 r.2.1 r.2.2.1∧aQ r.1.τ B:=by
 refine zr ?_
 intro Q hQ
 apply yR e
 intro aM tv nv cv av K o
 apply Qy hf.code
 unfold qV qU
 refine (wJ hf.fG o id).mono ?_
 rintro _ K' ⟨rfl,rfl⟩
 have bad:∀z:Int,S.bC id cause=some (S,[],[],z)→zm (some (.ay [.sl none 0 0 0,.sl none 0 0 0,.i .i64 z])) Q K':=fun z hz=>⟨L,o.back e,hQ _ _ ⟨(S,[],[],z),_,_,hz,rfl,dm.refl e out,Ht.nil _,tf⟩⟩
 cases h:S.σ.has id with
 | false =>
  simp only[zf,yf,Bool.not_false,z9]
  exact bad 4 (by unfold CX.bC;rw[if_pos h])
 | true =>
 simp only[zf,yf,Bool.not_true,zC]
 unfold qT
 obtain⟨i,x,rfl,hx,_⟩:=xz h
 obtain⟨k,hk,dA,hwk⟩:=wf.bS i x hx
 refine (xU hf.eT o hx hk (by rw[o.n.len];exact dA)).mono ?_
 rintro _ K2 ⟨⟨b,hb,rfl⟩,rfl⟩
 have r4:aq K2 (b,k * 12+4) none=some (.b x.free):=by rw[o.rn hb (o.n.one i k x hx hk) (by omega)];rfl
 simp only[zf,zh,zk,zt,r4,zg]
 cases hfr:x.free with
 | true =>
  simp only[z9]
  exact bad 1 (by unfold CX.bC;rw[if_neg (by rw[h];simp)];simp only[Int.toNat_natCast,hx,hfr,if_true])
 | false =>
 simp only[zC]
 unfold qS
 obtain⟨q,z,q1,q2,_⟩:=o.sC.get (F:=F) (i:=i) (x:=(k:Int)) (by rw[List.getElem?_map,hx,←hk];rfl)
 have rk:aq K2 (q,z) none=some (.i .i64 k):=(q2 K2 (zQ.refl _)).1 0 (by omega)
 have step:∀cs:Int,(if cause<1 then 1 else cause)=cs→fJ F Q (.p (some (c,0))) (.i .i64 i) (.i .i64 cs) K2:=by
  intro cs hcs
  unfold fJ
  simp only[zf,zh,zk,Nat.zero_add,zt,o.f3,zg,q1,rk]
  refine (ZF hf.BD wf ao tf o out hx hk 1 cs).mono ?_
  rintro _ K6 ⟨R,L6,Mz,w1,w2,ps,hR,rfl,o6,mU,kj,Ql,hps,tf6⟩
  simp only[zf,yi,List.getElem?_cons_zero,List.getElem?_cons_succ,zg]
  obtain⟨Lf,h1,h2,h3⟩:=Hu (S:=S) o6 mU kj Ql rfl
  refine⟨Lf,h1,hQ _ _ ⟨(R.1,R.2.1,R.2.2,0),w1,w2,?_,rfl,h2,by rw[←hps];exact h3,tf6⟩⟩
  unfold CX.bC
  rw[if_neg (by rw[h];simp)]
  simp only[Int.toNat_natCast,hx,hfr,Bool.false_eq_true,if_false,hcs,hR]
 simp only[zf,yP,zM]
 exact⟨fun h1=>step 1 (if_pos h1),fun h1=>step cause (if_neg h1)⟩
theorem V5 (hf:BH F){B:Int}(wf:WF S)(ao:AO S)(tf:aQ S.τ B)(e:L c=some (.abs (wy c S.σ)))(out:bE c S L)(id:Int) :
  zd F gO [.p (some (c,0)),.i .i64 id] L fun v Lf=>∃(r:CX×List cx×List (Int×Int)×Int) (w1 w2:AV),S.bO id=some r∧v=.ay [w1,w2,.i .i64 r.2.2.2]∧dm c S r.1 L Lf∧Ht Lf w1 w2 r.2.1 r.2.2.1∧aQ r.1.τ B:=by
 refine zr ?_
 intro Q hQ
 apply yR e
 intro aM tv nv cv av K o
 apply Qv hf.code
 unfold qG
 refine (wJ hf.fG o id).mono ?_
 rintro _ K' ⟨rfl,rfl⟩
 have bad:∀z:Int,S.bO id=some (S,[],[],z)→zm (some (.ay [.sl none 0 0 0,.sl none 0 0 0,.i .i64 z])) Q K':=fun z hz=>⟨L,o.back e,hQ _ _ ⟨(S,[],[],z),_,_,hz,rfl,dm.refl e out,Ht.nil _,tf⟩⟩
 cases h:S.σ.has id with
 | false =>
  simp only[zf,yf,Bool.not_false,z9]
  exact bad 4 (by unfold CX.bO;rw[if_pos h])
 | true =>
 simp only[zf,yf,Bool.not_true,zC]
 obtain⟨i,x,rfl,hx,_⟩:=xz h
 obtain⟨k,hk,dA,hwk⟩:=wf.bS i x hx
 refine (xU hf.eT o hx hk (by rw[o.n.len];exact dA)).mono ?_
 rintro _ K2 ⟨⟨b,hb,rfl⟩,rfl⟩
 have r4:aq K2 (b,k * 12+9) none=some (.b x.own):=by rw[o.rn hb (o.n.one i k x hx hk) (by omega)];rfl
 simp only[zf,zh,zk,zt,r4,zg,yf]
 cases hfr:x.own with
 | false =>
  simp only[zf,Bool.not_false,z9]
  exact bad 1 (by unfold CX.bO;rw[if_neg (by rw[h];simp)];simp only[Int.toNat_natCast,hx,hfr,if_true])
 | true =>
 simp only[zf,Bool.not_true,zC]
 obtain⟨q,z,q1,q2,_⟩:=o.sC.get (F:=F) (i:=i) (x:=(k:Int)) (by rw[List.getElem?_map,hx,←hk];rfl)
 have rk:aq K2 (q,z) none=some (.i .i64 k):=(q2 K2 (zQ.refl _)).1 0 (by omega)
 simp only[zf,zh,zk,Nat.zero_add,zt,o.f3,zg,q1,rk]
 refine (ZF hf.BD wf ao tf o out hx hk 2 2).mono ?_
 rintro _ K6 ⟨R,L6,Mz,w1,w2,ps,hR,rfl,o6,mU,kj,Ql,hps,tf6⟩
 simp only[zf,yi,List.getElem?_cons_zero,List.getElem?_cons_succ,zg]
 obtain⟨Lf,h1,h2,h3⟩:=Hu (S:=S) o6 mU kj Ql rfl
 refine⟨Lf,h1,hQ _ _ ⟨(R.1,R.2.1,R.2.2,0),w1,w2,?_,rfl,h2,by rw[←hps];exact h3,tf6⟩⟩
 unfold CX.bO
 rw[if_neg (by rw[h];simp)]
 simp only[Int.toNat_natCast,hx,hfr,Bool.true_eq_false,if_false,hR]
theorem XP (hf:BI F){B:Int}(wf:WF S)(tf:aQ S.τ B)(e:L c=some (.abs (wy c S.σ)))(out:bE c S L)(j:Int) :
  zd F jA [.p (some (c,0)),.i .i64 j] L fun v Lf=>∃r:CX×Bool×Int,S.bg j=some r∧v=.ay [.b r.2.1,.i .i64 r.2.2]∧dm c S r.1 L Lf∧aQ r.1.τ B:=by
 refine zr ?_
 intro Q hQ
 apply yR e
 intro aM tv nv cv av K o
 apply Qw hf.code
 unfold qJ qI
 have Me:=fun X k=>o.as.len (F:=F) X k
 have bad:¬(0≤j∧j<(S.σ.ai.length:Int))→zm (some (.ay [.b false,.i .i64 4])) Q K:=fun hz=>⟨L,o.back e,hQ _ _ ⟨(S,false,4),by unfold CX.bg;rw[if_neg hz],rfl,dm.refl e out,tf⟩⟩
 by_cases h0:j<0
 ·simp only[zf,yP,h0,decide_true,YR,xD,zV,z9]
  exact bad (by omega)
 simp only[zf,yP,h0,decide_false,zw,yo,zh,zk,zt,Nat.zero_add,o.f4,zg,Me,vg,zW,zM]
 refine⟨fun h1=>bad (by omega),fun h1=>?_⟩
 obtain⟨i,rfl⟩:=Int.eq_ofNat_of_zero_le (by omega:0≤j)
 have bK:i<S.σ.ai.length:=by omega
 have hx:S.σ.ai[i]?=some S.σ.ai[i]:=List.getElem?_eq_getElem bK
 generalize S.σ.ai[i]=x at hx
 obtain⟨k,hk,dA,hwk,_⟩:=wf.eJ i x hx
 unfold qH
 obtain⟨q,z,q1,q2,_⟩:=o.sA.get (F:=F) (i:=i) (x:=(k:Int)) (by rw[List.getElem?_map,hx,←hk];rfl)
 have rk:aq K (q,z) none=some (.i .i64 k):=(q2 K (zQ.refl _)).1 0 (by omega)
 obtain⟨b,hb,dZ,Sp⟩:=o.nb (F:=F) (k:=k) (by rw[o.n.len];exact dA)
 have fQ:=o.n.cm i k x hx hk
 have hkn:=(List.getElem?_eq_some_iff.1 fQ).1
 have r3:aq K (b,k * 12+3) none=some (.b x.ak):=by rw[o.rn hb fQ (by omega)];rfl
 simp only[zf,zh,zk,zt,Nat.zero_add,o.f2,o.f4,zg,q1,rk,Sp,r3,yf,yj]
 rw[zD dZ (by rw[zY bf.len];omega) rfl]
 have fc:(zl bf.cells aM).set (k * 12+3) (.b true)=zl bf.cells (aM.set k (wH i { x with ak:=true })):=xm bf.len aM k (wH i x) (wH i { x with ak:=true }) 3 _ fQ (by omega) rfl
 rw[fc]
 have o1:=o.node hb (σ':={ S.σ with ai:=S.σ.ai.set i { x with ak:=true } }) (bz:=aM.set k (wH i { x with ak:=true })) (by simp) rfl rfl rfl (wt hx rfl) (o.n.od hx hk rfl)
 generalize (K.put b (.raw (.cells (zl bf.cells (aM.set k (wH i { x with ak:=true }))))))=K1 at o1
 obtain⟨q',z',q1',q2',_⟩:=o1.sA.get (F:=F) (i:=i) (x:=(k:Int)) (by rw[List.getElem?_map,List.getElem?_set_self bK,←hk];rfl)
 have rk':aq K1 (q',z') none=some (.i .i64 k):=(q2' K1 (zQ.refl _)).1 0 (by omega)
 simp only[zf,zh,zk,zt,Nat.zero_add,o1.f4,zg,q1',rk']
 refine (Zt hf.Nm o1 (k:=k) dA).mono ?_
 rintro _ K3 ⟨⟨bb,rfl⟩,o3,_⟩
 obtain⟨S3,BB⟩:∃S3:CX,S3={ S with σ:={ S.σ with ai:=S.σ.ai.set i { x with ak:=true },tree:=yd S.σ.tree fun i=>decide (i=k) } }:=⟨_,rfl⟩
 have o3':XR L c S3.σ (aM.set k (wH i { x with ak:=true })) tv nv cv av K3:=by rw[BB];exact o3
 have RJ:bE c S3 L:=by rw[BB];exact⟨out.bQ,out.bB⟩
 obtain⟨Lf,h2,h3,_⟩:=Hu (S:=S) o3' RJ (fh.refl _ S.σ L) (bV.nil _ _ _ _) rfl
 refine⟨Lf,h2,hQ _ _ ⟨(S3,!x.ak,0),?_,rfl,h3,by rw[BB];exact tf⟩⟩
 unfold CX.bg
 rw[if_pos ⟨by omega,by omega⟩]
 have hd:Ir S.σ.tree x.node=some (yd S.σ.tree fun q=>decide (q=k)):=by rw[hk];exact Us wf.tr dA
 simp only[Int.toNat_natCast,hx,hd]
 rw[BB]
end
end
section
variable {F:Nat→Option aT}
section
variable {L K:Lg} {c:Nat} {S:CX}
theorem AO.cm {S:CX}(h:AO S)(wf:WF S){p:Nat}{up:One}(aI:S.σ.af[p]?=some up)(hlen:S.σ.ai.length<64)(prog:Int):AO ({ S with σ:=S.σ.cm up prog }:CX):=by
 obtain⟨w1,e1,d1,_⟩:=wf.cm aI hlen prog
 intro j k x n hx hk hn hl
 simp only at hx hn
 rw[e1]at hx
 by_cases hj:j<S.σ.ai.length
 ·rw[List.getElem?_append_left hj]at hx
  rcases d1.back hn with⟨_,m,hm,_,h2⟩ | ⟨h1,_,_⟩
  ·exact h j k x m hx hk hm (by rw[←h2];exact hl)
  ·obtain⟨k',q1,q2,_⟩:=wf.eJ j x hx
   omega
 ·rw[List.getElem?_append_right (by omega)]at hx
  have hz:j-S.σ.ai.length=0:=by
   rcases Nat.eq_zero_or_pos (j-S.σ.ai.length)with h9 | h9
   ·exact h9
   ·rw[List.getElem?_eq_none (by simp;omega)]at hx;cases hx
  rw[hz]at hx;simp at hx;subst hx;rfl
theorem zcn {T:List Nd}{k:Nat}(h:zK T (k:Int)=[])(n:Nat):pre T (n+1) k=[k]:=by simp[pre,h]
theorem V6 (hf:BJ F){B:Int}(wf:WF S)(ao:AO S)(tf:aQ S.τ B)(e:L c=some (.abs (wy c S.σ)))(out:bE c S L)(id prog:Int) :
  zd F jB [.p (some (c,0)),.i .i64 id,.i .i64 prog] L fun v Lf=>∃(r:CX×Int×List (Int×Int)×Int) (w1 w2:AV),S.bI id prog=some r∧v=.ay [.i .i64 r.2.1,w2,.i .i64 r.2.2.2]∧dm c S r.1 L Lf∧Ht Lf w1 w2 [] r.2.2.1:=by
 refine zr ?_
 intro Q hQ
 apply yR e
 intro aM tv nv cv av K o
 apply Qx hf.code
 unfold qR qQ
 refine (wJ hf.fG o id).mono ?_
 rintro _ K' ⟨rfl,rfl⟩
 have bad:∀z:Int,S.bI id prog=some (S,0,[],z)→zm (some (.ay [.i .i64 0,.sl none 0 0 0,.i .i64 z])) Q K':=fun z hz=>⟨L,o.back e,hQ _ _ ⟨(S,0,[],z),_,_,hz,rfl,dm.refl e out,Ht.nil _⟩⟩
 cases h:S.σ.has id with
 | false =>
  simp only[zf,yf,Bool.not_false,z9]
  exact bad 4 (by unfold CX.bI;rw[if_pos h])
 | true =>
 have Ij:¬S.σ.has id=false:=by rw[h];simp
 have Me:=fun X k=>o.as.len (F:=F) X k
 simp only[zf,yf,Bool.not_true,zC,yP,zM]
 refine⟨fun h1=>bad 1 (by unfold CX.bI;rw[if_neg Ij,if_pos h1]),fun h1=>?_⟩
 simp only[zf,zh,zk,Nat.zero_add,zt,o.f4,zg,Me,vg,zM]
 refine⟨fun h2=>bad 3 (by unfold CX.bI;rw[if_neg Ij,if_neg h1,if_pos (by omega)]),fun h2=>?_⟩
 have hlen:S.σ.ai.length<64:=by omega
 obtain⟨i,up,rfl,aI,_⟩:=xz h
 obtain⟨k,hk,dA,hwk⟩:=wf.bS i up aI
 unfold qO
 obtain⟨q,z,q1,q2,_⟩:=o.sC.get (F:=F) (i:=i) (x:=(k:Int)) (by rw[List.getElem?_map,aI,←hk];rfl)
 have rk:aq K' (q,z) none=some (.i .i64 k):=(q2 K' (zQ.refl _)).1 0 (by omega)
 simp only[zf,zh,zk,Nat.zero_add,zt,o.f3,zg,q1,rk]
 have A2:=wf.node aI
 have m6:S.σ.tree.length<1000:=by have:=wf.len;have:=wf.sz;omega
 refine (zb0 hf.f123 o.g (T:=S.σ.tree) (tv:=tv) rfl rfl m6 (by omega) (by omega) true).mono ?_
 rintro _ K1 ⟨rfl,gI,g1⟩
 have hlk:(true&&decide (0≤(k:Int)))=(true&&decide (up.node≠-1)):=by simp[A2.2]
 rw[hlk,←hk]at g1
 obtain⟨t1,t2,t3⟩:=Wc (lk:=true) m6 (.inr A2.1)
 rw[←t3]at g1
 simp only[NH,Ek,List.set_cons_succ,List.set_cons_zero]at g1
 simp only[zf,yi,List.getElem?_cons_zero,List.getElem?_cons_succ,zg]
 unfold qM
 have oa:=g1.own 3 _ rfl
 simp only at oa
 have zpS:∀X k,za F .ax [av] X k=k (.i .i64 (S.σ.ai.length:Int)) X:=fun X k=>oa.len (F:=F) X k
 have c4:aq K1 (c,4) none=some av:=g1.rd 4
 obtain⟨n1,nh⟩:∃n1,n1=wH S.σ.ai.length ⟨(S.σ.tree.length:Int),prog,false⟩:=⟨_,rfl⟩
 have gD:∀(X:Lg) (k:AV→Lg→Prop),za F (.build [.b false,.i .i64 0,.i .i64 0,.b false,.b false,.i .i64 0,.i .i64 0,.i .i64 0,.b false,.b false,.i .i64 0,.p none] [(0,1),(1,1),(2,1),(10,1)]) [.b true,.i .i64 (S.σ.ai.length:Int),.i .i64 prog,.i .i64 (-1)] X k=k (.agg n1.cells) X:=by
  intro X k;rw[nh];simp[zF,zo,zp,zq,bf.cells,wH]
 simp only[zf,zh,zk,Nat.zero_add,zt,c4,zg,zpS,gD,y4]
 intro b7 hb7
 obtain⟨FP,zmR,_⟩:=g1.ne hb7
 have g2:=g1.bW hb7 (.raw (.cells n1.cells))
 simp only[zf,yj]
 rw[zu (n:=12) (ze _ _ _) (bf.one _) (bf.len _) (by simp),zA]
 have hsp:zo [.b false,.i .i64 0,.i .i64 0,.b false,.b false,.i .i64 0,.i .i64 0,.i .i64 0,.b false,.b false,.i .i64 0,.p none] 0 n1.cells=n1.cells:=by simp[zo,bf.cells,zp,zq]
 rw[hsp]
 have Ja:(K1.put b7 (.raw (.cells n1.cells))) b7=some (.raw (.cells n1.cells)):=ze _ _ _
 generalize (K1.put b7 (.raw (.cells n1.cells)))=K2 at g2 Ja
 unfold qL
 have c2:aq K2 (c,2) none=some nv:=g2.rd 2
 have r7:aq K2 (b7,0) (some 12)=some (.agg n1.cells):=by rw[yc Ja (by rw[bf.len];omega)];rfl
 simp only[zf,zh,zk,Nat.zero_add,zt,c2,r7,zg]
 have on2:=g2.own 1 _ rfl
 simp only at on2
 have Bu:aM.length<1000:=by rw[o.n.len];exact m6
 refine on2.mI rfl (bf.len _) (bf.one _) (by omega) (by omega) ?_
 intro iE K3 on3 k3 f3
 have hr3:K3 c=some (.raw (.cells [ptr S.σ.t,gI,nv,cv,av])):=k3 c _ g2.root (fun h9=>(g2.ap 1 _ rfl c h9).1 rfl)
 have g3:=g2.grow (i:=1) rfl (q:=⟨iE,zl bf.cells aM++n1.cells,aM.length+1,12⟩) on3 k3 (fun b hb=>.inl (f3 b hb)) [ptr S.σ.t,gI,iE,cv,av]
 simp only[zf,zh,zk,Nat.zero_add,yj]
 rw[zD hr3 (by simp) on3.cellsOf]
 simp only[List.set_cons_succ,List.set_cons_zero]at g3 ⊢
 generalize (K3.put c (.raw (.cells [ptr S.σ.t,gI,iE,cv,av])))=K4 at g3
 unfold qK
 have c4':aq K4 (c,4) none=some av:=g3.rd 4
 simp only[zf,zh,zk,Nat.zero_add,zt,c4',zg]
 have oa4:=g3.own 3 _ rfl
 simp only at oa4
 refine oa4.NY (by omega) ?_
 intro av' K5 oa5 k5 f5
 have hr5:K5 c=some (.raw (.cells [ptr S.σ.t,gI,iE,cv,av])):=k5 c _ g3.root (fun h9=>(g3.ap 3 _ rfl c h9).1 rfl)
 have g5:=g3.grow (i:=3) rfl (q:=⟨av',zl fI (S.σ.ai.map (·.node))++[.i .i64 (S.σ.tree.length:Int)],S.σ.ai.length+1,1⟩) oa5 k5 (fun b hb=>.inl (f5 b hb)) [ptr S.σ.t,gI,iE,cv,av']
 simp only[zf,zh,zk,Nat.zero_add,yj]
 rw[zD hr5 (by simp) oa5.cellsOf]
 simp only[List.set_cons_succ,List.set_cons_zero]at g5 ⊢
 generalize (K5.put c (.raw (.cells [ptr S.σ.t,gI,iE,cv,av'])))=K6 at g5
 obtain⟨S1,iR⟩:∃S1:CX,S1={ S with σ:=S.σ.cm up prog }:=⟨_,rfl⟩
 obtain⟨w1,a1,d1,bS⟩:=wf.cm aI hlen prog
 have ao1:=ao.cm wf aI hlen prog
 have I8:=o.n.len
 have o6:XR (L.put b7 (.raw (.cells n1.cells))) c S1.σ (aM++[n1]) gI iE cv av' K6:=by
  have e1:S1.σ.tree=(zP S.σ.tree up.node true).1:=by rw[iR];rfl
  have e2:S1.σ.ai=S.σ.ai++[⟨(S.σ.tree.length:Int),prog,false⟩]:=by rw[iR];exact a1
  have e3:S1.σ.t=S.σ.t:=by rw[iR];rfl
  have e4:S1.σ.af=S.σ.af:=by rw[iR];rfl
  refine⟨?_,⟨by rw[e1,t1];simp[I8],fun i k y hy hk=>?_,fun j k y hy hk=>?_⟩⟩
  ·simp only[NH,Ek,e1,e2,e3,e4,t1,zU,List.map_append,List.map_cons,List.map_nil,List.length_append,List.length_cons,List.length_nil,List.length_map,Nat.zero_add]
   simp only[zl,List.append_nil,fI]
   exact g5
  ·rw[e4]at hy
   have h1:=o.n.one i k y hy hk
   rw[List.getElem?_append_left (List.getElem?_eq_some_iff.1 h1).1];exact h1
  ·rw[e2]at hy
   by_cases hi:j<S.σ.ai.length
   ·rw[List.getElem?_append_left hi]at hy
    have h1:=o.n.cm j k y hy hk
    rw[List.getElem?_append_left (List.getElem?_eq_some_iff.1 h1).1];exact h1
   ·rw[List.getElem?_append_right (by omega)]at hy
    have hz:j-S.σ.ai.length=0:=by
     rcases Nat.eq_zero_or_pos (j-S.σ.ai.length)with h9 | h9
     ·exact h9
     ·rw[List.getElem?_eq_none (by simp;omega)]at hy;cases hy
    rw[hz]at hy
    simp at hy
    subst hy
    have hkk:k=S.σ.tree.length:=by simp at hk;omega
    have hii:j=S.σ.ai.length:=by omega
    subst hkk;subst hii
    rw[←I8,List.getElem?_append_right (Nat.le_refl _),Nat.sub_self,I8,nh];rfl
 have mU:bE c S1 (L.put b7 (.raw (.cells n1.cells))):=by
  have:=out.put zmR (.raw (.cells n1.cells))
  rw[iR];exact⟨this.bQ,this.bB⟩
 have kj:fh c S.σ L (L.put b7 (.raw (.cells n1.cells))):=fun r d _ _ _ hr=>by rw[zb _ _ _ (by rintro rfl;rw[zmR]at hr;cases hr)];exact hr
 have Br:S1.σ.af[i]?=some up:=by rw[iR];exact aI
 have zpD:k<(aM++[n1]).length:=by simp;omega
 rw[←iR]at w1 ao1
 refine (xU hf.eT o6 Br hk zpD).mono ?_
 rintro _ K7 ⟨⟨b,hb,rfl⟩,rfl⟩
 have r5:aq K7 (b,k * 12+5) none=some (.i .i64 up.err):=by rw[o6.rn hb (o6.n.one i k up Br hk) (by omega)];rfl
 have rb1:aq K7 (b7,1) none=some (.i .i64 S.σ.ai.length):=by rw[zj (o6.g.old b7 _ FP (ze _ _ _)),nh];rfl
 simp only[zf,zh,zk,zt,r5,zg,xw]
 by_cases h0:up.err=0
 ·rw[decide_eq_true h0]
  simp only[z9,zf,zk,Nat.zero_add,zt,rb1,zg]
  obtain⟨Lf,h2,h3,h4⟩:=Hu (S:=S) o6 mU kj (bV.nil _ _ _ _) rfl
  refine⟨Lf,h2,hQ _ _ ⟨(S1,S.σ.ai.length,[],0),_,_,?_,rfl,h3,h4⟩⟩
  rw[iR]
  exact wf.bI aI hlen h0 (by omega)
 ·rw[decide_eq_false h0]
  simp only[zC]
  -- it is started at once
  obtain⟨x,hx⟩:∃x:cK,x=⟨(S.σ.tree.length:Int),prog,false⟩:=⟨_,rfl⟩
  have hax:S1.σ.ai[S.σ.ai.length]?=some x:=by rw[iR,hx];show (S.σ.cm up prog).ai[_]?=_;rw[a1];simp
  obtain⟨k',p1,p2,p3,p4⟩:=w1.eJ _ x hax
  have hk':k'=S.σ.tree.length:=by rw[hx]at p1;simp at p1;omega
  have hpre:pre S1.σ.tree 200 k'=[k']:=zcn p4 199
  have hT1:S1.σ.tree.length≤128:=by have:=w1.len;have:=w1.sz;omega
  have live:∀i∈pre S1.σ.tree 200 k',xh S1.σ.tree S1 i:=by
   rw[hpre]
   intro i hi
   simp at hi;subst hi
   exact .inr ⟨_,x,p3,by omega,hax,p1,p4⟩
  have nov:∀i∈pre S1.σ.tree 200 k',xI S1 i:=by
   rw[hpre]
   intro i hi q y hq hy
   simp at hi;subst hi
   rw[p3]at hq;simp at hq
   have:q=S.σ.ai.length:=by omega
   subst this
   rw[hax]at hy;cases hy;rw[hx]
  rw[←hk']
  refine (zbt hf.BD w1.tr 200 c k' (fun _=>false) S1 0 0 B _ K7 _ gI iE cv av' _ _ [] [] (by omega) p2 (ZD _ (fun _=>rfl)).symm (fun _ _=>rfl) live nov (by rw[iR];exact tf) o6 mU (bV.nil _ _ _ _) (by rw[hpre];simp) (by rw[hpre];simp)).mono ?_
  rintro _ K8 ⟨R,L',bz,v1,v2,ps',hR,rfl,o8,zoC,fr8,rr8,hps,tf8,_,_⟩
  obtain⟨σ',s1,s2,s3⟩:=XE w1.tr (S:=S1) (A:=fun _=>false) (j:=k') (k:=S.σ.ai.length) (x:=x) (ZD _ (fun _=>rfl)).symm p2 p3 hax p1 0 0 [] []
  have hR2:R=(({ S1 with σ:=σ' }:CX),([],[((S.σ.ai.length:Int),x.prog)])):=by
   rw[hR,hpre]
   unfold walked
   simp only[List.foldl_cons,List.foldl_nil,List.map_nil]
   rw[s2,s3]
   congr 3
   funext i
   simp
  have zpl:ps'=[]:=by
   rw[hR2]at hps
   simpa using hps
  subst zpl
  have zol:aq K8 (b7,1) none=some (.i .i64 S.σ.ai.length):=by
   rw[zj (o8.g.old b7 _ FP (fr8 b7 _ FP ?_ ?_ (ze _ _ _))),nh];rfl
   ·intro h9;have:=(mU.bQ b7 h9).2;rw[ze]at this;cases this
   ·intro y hy h9;have:=(mU.bB y hy b7 h9).2.2;rw[ze]at this;cases this
  simp only[zf,yi,List.getElem?_cons_zero,List.getElem?_cons_succ,zg,zk,Nat.zero_add,zt,zol]
  have fr9:fh c S.σ L L':=fun r d h1 h2 h3 h4=>fr8 r d h1 (by rw[iR];exact h2) (by rw[iR];exact h3) (kj r d h1 h2 h3 h4)
  obtain⟨Lf,h2,h3,h4⟩:=Hu (S:=S) o8 zoC fr9 rr8 rfl
  refine⟨Lf,h2,hQ _ _ ⟨(R.1,S.σ.ai.length,R.2.2,0),v1,v2,?_,rfl,h3,h4⟩⟩
  unfold CX.bI
  rw[if_neg Ij,if_neg h1,if_neg (by omega),if_pos wf.tr.Em]
  simp only[Int.toNat_natCast,aI]
  rw[if_pos h0]
  have hs1:(S.σ.cm up prog).dJ S.σ.ai.length=some (σ',((S.σ.ai.length:Int),x.prog)):=by rw[iR]at s1;exact s1
  rw[hs1]
  simp only[hR2,iR]
end
end
section
variable {F:Nat→Option aT}
theorem zh9 {S:CX}{n kn a:Nat}{y:One}(hw:S.σ.who kn=some (n:Int))(hy:S.σ.af[n]?=some y)(hc:y.c=some a)(ht:y.timer=-1)(err cause:Int) :
  ya err cause (S,[],[]) kn=({ S.aB n { y with err:=err,cause:=cause }with χ:=xd S.χ a (S.χ a).cB.1 },[⟨n,err,cause,(S.χ a).cB.2⟩],[]):=by
 have HO:¬((n:Int)<0):=by omega
 unfold ya
 simp only[hw,Option.getD_some,HO,if_false,Int.toNat_natCast,hy,hc,ht,List.nil_append]
 have hst:∀X:CX,X.bp (-1)=X:=by
  intro X
  unfold CX.bp
  cases X.σ.t with
  | none=>rfl
  | some s=>simp[bk.one,bk.has]
 rw[hst]
 rfl
theorem zcW {S:CX}(wf:WF S){p:Nat}{up o:One}(aI:S.σ.af[p]?=some up)(hlen:S.σ.af.length<64)(ho:o.err=0)(a:Nat) :
  (S.aG o up.node a).σ.who S.σ.tree.length=some (S.σ.af.length:Int)∧(S.aG o up.node a).σ.af[S.σ.af.length]?=some { o with c:=some a,node:=S.σ.tree.length,timer:=-1 }∧zK (S.aG o up.node a).σ.tree (S.σ.tree.length:Int)=[]:=by
 have h:=wf.add (o:={ o with c:=some a }) (Aa:=xd S.χ a .sg) aI hlen ho (fun b n hb=>Ve S.χ a b n hb) (fun b hb=>by simp at hb;subst hb;simp[xd,Ch.sg])
 obtain⟨h1,h2,h3,h4⟩:=h
 refine⟨?_,?_,?_⟩
 ·show (S.σ.add { o with c:=some a } up.node).who _=_
  rw[h4];simp[yM]
 ·show (S.σ.add { o with c:=some a } up.node).af[_]?=_
  rw[h2];simp
 ·have kn:zK S.σ.tree (S.σ.tree.length:Int)=[]:=by
   rw[List.eq_nil_iff_forall_not_mem]
   intro i hi
   have:=yY wf.tr hi
   omega
  obtain⟨kp,zpC,zpB,_⟩:=wf.bS p up aI
  exact h3.kids kn (.inl (by omega))
theorem zdN {S:CX}(wf:WF S){p:Nat}{up o:One}(aI:S.σ.af[p]?=some up)(hlen:S.σ.af.length<64)(ho:o.err=0)(hfr:o.free=false)(a:Nat)(err cause:Int) :
  (S.aG o up.node a).az 200 S.σ.af.length err cause=some ((({ (S.aG o up.node a).aB S.σ.af.length { o with c:=some a,node:=S.σ.tree.length,timer:=-1,err:=err,cause:=cause }with χ:=xd (S.aG o up.node a).χ a ((S.aG o up.node a).χ a).cB.1 }:CX).aD (yd (S.aG o up.node a).σ.tree fun i=>decide (i=S.σ.tree.length))),
   [⟨S.σ.af.length,err,cause,((S.aG o up.node a).χ a).cB.2⟩],[]):=by
 obtain⟨w1,_,_⟩:=wf.aG (o:=o) aI hlen ho a
 obtain⟨h1,h2,h3⟩:=zcW wf (o:=o) aI hlen ho a
 rw[w1.az h2 (k:=S.σ.tree.length) rfl hfr ho,zcn h3 199]
 unfold walked
 simp only[List.foldl_cons,List.foldl_nil,zh9 h1 h2 rfl rfl]
 congr 4
 funext i
 simp
theorem zgR {S:CX}(o1 o2:One)(h:o2.free=o1.free)(p:Int)(a:Nat):S.aG o2 p a=(S.aG o1 p a).aB S.σ.af.length { o2 with c:=some a,node:=(zP S.σ.tree p (!o1.free)).2.1,timer:=-1 }:=by
 simp[CX.aG,CX.aB,Cs.add,h]
theorem ziq {S:CX}(wf:WF S){i:Nat}{up:One}(aI:S.σ.af[i]?=some up)(hlen:S.σ.af.length<64)(a:Nat)(w:Int)(has:Bool)(W:Int){S':CX}{aN:List cx}
  (h:(S.aG { One.zero with when:=w,has:=has } up.node a).bw S.σ.af.length i=some (S',aN)) :
  ∃y:One,S'.σ.af[S.σ.af.length]?=some y∧y.node=(S.σ.tree.length:Int)∧(y.err=0↔up.err=0)∧(up.err=0→aN.length=0∧S'=S.aG { One.zero with when:=w,has:=has } up.node a)∧(up.err≠0→aN.length=1) ∧
   (S.aG { One.zero with when:=W,has:=true,own:=true } up.node a).bw S.σ.af.length i=some (S'.aB S.σ.af.length { y with when:=W,has:=true,own:=true },aN):=by
 obtain⟨n,hn⟩:∃n,n=S.σ.af.length:=⟨_,rfl⟩
 have bK:=(List.getElem?_eq_some_iff.1 aI).1
 obtain⟨_,e1,_⟩:=wf.aG (o:={ One.zero with when:=w,has:=has }) aI hlen rfl a
 obtain⟨_,e2,_⟩:=wf.aG (o:={ One.zero with when:=W,has:=true,own:=true }) aI hlen rfl a
 obtain⟨_,f2,_⟩:=zcW wf (o:={ One.zero with when:=w,has:=has }) aI hlen rfl a
 have u1:(S.aG { One.zero with when:=w,has:=has } up.node a).σ.af[i]?=some up:=by rw[e1,List.getElem?_append_left bK];exact aI
 have u2:(S.aG { One.zero with when:=W,has:=true,own:=true } up.node a).σ.af[i]?=some up:=by rw[e2,List.getElem?_append_left bK];exact aI
 have htn:(zP S.σ.tree up.node (!false)).2.1=(S.σ.tree.length:Int):=by
  have hl:S.σ.tree.length<1000:=by have:=wf.len;have:=wf.sz;omega
  exact (Wc hl (.inr (wf.node aI).1)).2.1
 have fc:=zgR (S:=S) { One.zero with when:=w,has:=has } { One.zero with when:=W,has:=true,own:=true } rfl up.node a
 have hfr:({ One.zero with when:=w,has:=has }:One).free=false:=rfl
 rw[hfr,htn]at fc
 unfold CX.bw at h ⊢
 rw[if_pos (by omega)]at h ⊢
 simp only[Int.toNat_natCast,u1,u2]at h ⊢
 by_cases h0:up.err=0
 ·simp only[h0,if_true,Option.some.injEq,Prod.mk.injEq]at h ⊢
  obtain⟨rfl,rfl⟩:=h
  refine⟨_,f2,rfl,by simp[One.zero],fun _=>⟨rfl,rfl⟩,fun h9=>absurd rfl h9,?_,rfl⟩
  exact fc
 ·simp only[h0,if_false]at h ⊢
  rw[zdN wf aI hlen rfl rfl]at h ⊢
  simp only[Option.some.injEq,Prod.mk.injEq]at h ⊢
  obtain⟨rfl,rfl⟩:=h
  have eI:S.σ.af.length<(S.aG { One.zero with when:=w,has:=has } up.node a).σ.af.length:=by rw[e1];simp
  refine⟨{ One.zero with when:=w,has:=has,c:=some a,node:=S.σ.tree.length,timer:=-1,err:=up.err,cause:=up.cause },?_,rfl,by simp[h0],fun h9=>absurd h9 (by simp),fun _=>rfl,?_,rfl⟩
  ·show ((S.aG { One.zero with when:=w,has:=has } up.node a).σ.af.set S.σ.af.length _)[S.σ.af.length]?=_
   rw[List.getElem?_set_self eI]
  ·rw[fc]
   simp only[CX.aB,CX.aD,List.set_set]
end
section
variable {F:Nat→Option aT}
section
variable {L K:Lg} {c:Nat} {S:CX}
theorem YO (τ:bk)(n:Nat)(when:Int):(τ.make ⟨4,(n:Int),none,0⟩ 0 when).2.2=0:=by
 have gD:GB 0=false:=by simp[GB]
 simp only[bk.make]
 rw[if_neg (by simp[gD]),if_neg (by simp)]
theorem Xi (hf:BM F){B:Int}(wf:WF S)(ao:AO S)(tf:aQ S.τ B)(hfb:S.τ.fF=true)(e:L c=some (.abs (wy c S.σ)))(out:bE c S L)(id when now:Int) :
  zd F jE [.p (some (c,0)),.i .i64 id,.i .i64 when,.i .i64 now] L fun v Lf=>∃(a:Nat) (r:Fa) (w v2:AV) (aJ:List (Int×Int)),(S.σ.room id=0→L a=none)∧S.aH id when now a=some r∧v=.ay [.i .i64 r.2.1,w,.i .i64 r.2.2.2]∧dm c S r.1 L Lf∧Ht Lf w v2 r.2.2.1 aJ:=by
 refine zr ?_
 intro Q hQ
 apply yR e
 intro aM tv nv cv av K o
 apply QA hf.code
 unfold rq rm
 refine (VB hf.f63 when K).mono ?_
 rintro _ K' ⟨rfl,rfl⟩
 obtain⟨W,hW⟩:∃W,W=max (zB when 0) 0:=⟨_,rfl⟩
 rw[←hW]
 unfold ri
 have direct:(S.σ.room id=0→∃up,S.σ.af[id.toNat]?=some up∧up.has=true∧up.when≤W)→zd F dX [.p (some (c,0)),.i .i64 id] K' fun nY iu=>za F (.ext 0) [nY] iu fun Ib ir=>za F (.ext 1) [nY] ir fun v20 ni=>za F (.ext 2) [nY] ni fun v21 F5=>zm (some (.ay [Ib,v20,v21])) Q F5:=by
  intro aI
  refine (vO hf.Nl wf ao tf o out id).mono ?_
  rintro _ K2 ⟨a,r,L',bz,gI,iE,Fi,w,v2,ps,aJ,ha,hr,rfl,o',out',fr',Hv,hps,NI⟩
  simp only[zf,yi,List.getElem?_cons_zero,List.getElem?_cons_succ,zg]
  obtain⟨Lf,h1,h2,h3⟩:=Hu (S:=S) o' out' fr' Hv rfl
  refine⟨Lf,h1,hQ _ _ ⟨a,r,w,v2,aJ,ha,?_,rfl,h2,by rw[←hps];exact h3⟩⟩
  unfold CX.aH
  by_cases hroom:S.σ.room id=0
  ·rw[if_neg (by rw[hroom];simp)]
   obtain⟨up,h4,h5,h6⟩:=aI hroom
   simp only[h4]
   rw[if_pos ⟨h5,by rw[←hW];exact h6⟩]
   exact hr
  ·rw[if_pos hroom]
   unfold CX.aL at hr
   rw[if_pos hroom]at hr
   exact hr
 have own:(S.σ.room id=0→∃up,S.σ.af[id.toNat]?=some up∧¬(up.has=true∧up.when≤W))→jc F Q (.p (some (c,0))) (.i .i64 id) (.i .i64 W) (.i .i64 now) K':=by
  intro aI
  unfold jc
  refine (vO hf.Nl wf ao tf o out id).mono ?_
  rintro _ K2 ⟨a,r,L',bz,gI,iE,Fi,w,v2,ps,aJ,ha,hr,rfl,o',out',fr',Hv,hps,NI⟩
  simp only[zf,yi,List.getElem?_cons_zero,List.getElem?_cons_succ,zg]
  unfold q9
  by_cases hroom:S.σ.room id=0
  rotate_left
  ·unfold CX.aL at hr
   rw[if_pos hroom]at hr
   cases hr
   simp only[wA]
   rw[decide_eq_true hroom]
   simp only[z9]
   obtain⟨Lf,h1,h2,h3⟩:=Hu (S:=S) o' out' fr' (bV.nil _ _ _ _) rfl
   exact⟨Lf,h1,hQ _ _ ⟨a,(S,0,[],S.σ.room id),_,_,[],fun h=>absurd h hroom,by unfold CX.aH;rw[if_pos hroom],rfl,h2,h3⟩⟩
  obtain⟨i,up,rfl,bK,FH,Jb,hlen⟩:=xr hroom
  obtain⟨n,hn⟩:∃n,n=S.σ.af.length:=⟨_,rfl⟩
  have hnb:¬(up.has=true∧up.when≤W):=by
   obtain⟨u',h4,h5⟩:=aI hroom
   simp only[Int.toNat_natCast]at h4
   rw[FH]at h4;cases h4;exact h5
  obtain⟨aN,S',hr',rfl⟩:∃aN S',(S.aG { One.zero with when:=up.when,has:=up.has } up.node a).bw S.σ.af.length i=some (S',aN)∧r=(S',(S.σ.af.length:Int),aN,0):=by
   unfold CX.aL at hr
   rw[if_neg (by rw[hroom];simp),if_pos wf.bM]at hr
   simp only[Int.toNat_natCast,FH]at hr
   cases h9:(S.aG { One.zero with when:=up.when,has:=up.has } up.node a).bw S.σ.af.length i with
   | none=>rw[h9]at hr;cases hr
   | some q=>rw[h9]at hr;cases hr;exact⟨q.2,q.1,rfl,rfl⟩
  obtain⟨y,hy,hyn,hye,hz0,LV,Md⟩:=ziq wf FH hlen a up.when up.has W hr'
  rw[←hn]at hy Md
  have hdl:∀r:Fa,(if 0<aN.length then some (S'.aB n { y with when:=W,has:=true,own:=true },(n:Int),aN,(0:Int))else if W≤now then match (S'.aB n { y with when:=W,has:=true,own:=true }).az 200 n 2 2 with | none=>none | some r2=>some (r2.1,(n:Int),r2.2.1,0)else match (S'.aB n { y with when:=W,has:=true,own:=true }).fe n W with | none=>none | some S2=>some (S2,(n:Int),[],0))=some r→S.aH i when now a=some r:=by
   intro r h9
   unfold CX.aH
   rw[if_neg (by rw[hroom];simp)]
   simp only[Int.toNat_natCast,FH]
   rw[←hW,if_neg hnb,if_pos wf.bM,←hn,Md]
   exact h9
  simp only[zf,wA,ne_eq,not_true_eq_false,decide_false,zC,←hn]
  unfold q8
  have fQ:=o'.n.one n _ y hy hyn
  have hkn:=(List.getElem?_eq_some_iff.1 fQ).1
  refine (xU hf.eT o' hy hyn hkn).mono ?_
  rintro _ K3 ⟨⟨b,hb,rfl⟩,rfl⟩
  obtain⟨k,hk⟩:∃k,k=S.σ.tree.length:=⟨_,rfl⟩
  rw[←hk]at hyn fQ hkn ⊢
  have dZ:=o'.ns.block hb
  unfold qZ
  simp only[zf,zh,zk,yj]
  rw[zD dZ (by rw[zY bf.len];omega) rfl]
  have hs7:(zl bf.cells bz).set (k * 12+7) (.i .i64 W)=zl bf.cells (bz.set k (zJ n { y with when:=W })):=xm bf.len bz k (zJ n y) (zJ n { y with when:=W }) 7 _ fQ (by omega) rfl
  rw[hs7]
  simp only[zf,zh,zk,yj]
  rw[zD (ze _ _ _) (by rw[zY bf.len];simp;omega) rfl,zA]
  have zpu:(bz.set k (zJ n { y with when:=W }))[k]?=some (zJ n { y with when:=W }):=List.getElem?_set_self hkn
  have hs8:(zl bf.cells (bz.set k (zJ n { y with when:=W }))).set (k * 12+8) (.b true)=zl bf.cells (bz.set k (zJ n { y with when:=W,has:=true })):=by
   have h9:(zl bf.cells (bz.set k (zJ n { y with when:=W }))).set (k * 12+8) (.b true)=zl bf.cells ((bz.set k (zJ n { y with when:=W })).set k (zJ n { y with when:=W,has:=true })):=xm bf.len _ k (zJ n { y with when:=W }) (zJ n { y with when:=W,has:=true }) 8 _ zpu (by omega) rfl
   rw[h9,List.set_set]
  rw[hs8]
  simp only[zf,zh,zk,yj]
  rw[zD (ze _ _ _) (by rw[zY bf.len];simp;omega) rfl,zA]
  have zpt:(bz.set k (zJ n { y with when:=W,has:=true }))[k]?=some (zJ n { y with when:=W,has:=true }):=List.getElem?_set_self hkn
  obtain⟨y2,gq⟩:∃y2:One,y2={ y with when:=W,has:=true,own:=true }:=⟨_,rfl⟩
  have hs9:(zl bf.cells (bz.set k (zJ n { y with when:=W,has:=true }))).set (k * 12+9) (.b true)=zl bf.cells (bz.set k (zJ n y2)):=by
   have h9:(zl bf.cells (bz.set k (zJ n { y with when:=W,has:=true }))).set (k * 12+9) (.b true)=zl bf.cells ((bz.set k (zJ n { y with when:=W,has:=true })).set k (zJ n y2)):=xm bf.len _ k (zJ n { y with when:=W,has:=true }) (zJ n y2) 9 _ zpt (by omega) (by rw[gq];rfl)
   rw[h9,List.set_set]
  rw[hs9]
  rw[←gq]at Md hdl
  obtain⟨S2,Ik⟩:∃S2,S2=S'.aB n y2:=⟨_,rfl⟩
  rw[←Ik]at Md hdl
  have o2:XR L' c S2.σ (bz.set k (zJ n y2)) gI iE Fi av (K3.put b (.raw (.cells (zl bf.cells (bz.set k (zJ n y2)))))):=by
   rw[Ik]
   exact o'.node hb (by simp) rfl rfl (wt hy (by rw[gq])) rfl (o'.n.aB hy hyn (by rw[gq]))
  have Ms:bV L' c [gI,iE,Fi,av] (K3.put b (.raw (.cells (zl bf.cells (bz.set k (zJ n y2)))))) w v2 ps aJ:=Hv.keep (fun q' z hq hz=>by rw[zb _ _ _ (by rintro rfl;exact hq.2.2 iE (by simp) hb)];exact hz) (fun q' hq _=>hq.1)
  have hn2:S2.σ.names=S'.σ.names:=by rw[Ik];exact vh hy (by rw[gq]) (by rw[gq])
  have mV:bE c S2 L':=by
   refine⟨fun s hs=>?_,fun x hx a' gx=>?_⟩
   ·rw[Ik]at hs ⊢;exact out'.bQ s hs
   ·have h1:(x.c,x.node)∈S2.σ.names:=List.mem_map.2 ⟨x,hx,rfl⟩
    rw[hn2]at h1
    obtain⟨p,hp,he⟩:=List.mem_map.1 h1
    simp only[Prod.mk.injEq]at he
    have:=out'.bB p hp a' (by rw[he.1];exact gx)
    rw[Ik];exact this
  have HK:S2.σ.af[n]?=some y2:=by rw[Ik];exact List.getElem?_set_self (List.getElem?_eq_some_iff.1 hy).1
  have R2:y2.node=(k:Int):=by rw[gq];exact hyn
  generalize (K3.put b (.raw (.cells (zl bf.cells (bz.set k (zJ n y2))))))=K4 at o2 Ms
  have MW:(bz.set k (zJ n y2))[k]?=some (zJ n y2):=List.getElem?_set_self hkn
  generalize bz.set k (zJ n y2)=Fz at o2 MW
  unfold qY
  have r5:aq K4 (b,k * 12+5) none=some (.i .i64 y.err):=by rw[o2.rn hb MW (by omega),gq];rfl
  simp only[zf,zh,zk,zt,r5,zg,wA]
  by_cases h0:up.err=0
  rotate_left
  ·have hy0:y.err≠0:=fun h=>h0 (hye.1 h)
   rw[decide_eq_true hy0]
   simp only[z9]
   obtain⟨Lf,h1,h2,h3⟩:=Hu (S:=S) o2 mV fr' Ms rfl
   refine⟨Lf,h1,hQ _ _ ⟨a,(S2,n,aN,0),w,v2,aJ,ha,hdl _ ?_,rfl,h2,by rw[←hps];exact h3⟩⟩
   rw[if_pos (by rw[LV h0];omega)]
  have hy0:¬y.err≠0:=fun h=>h (hye.2 h0)
  rw[decide_eq_false hy0]
  simp only[zC]
  obtain⟨Sk,hS'⟩:=hz0 h0
  have Jt:S2=S.aG { One.zero with when:=W,has:=true,own:=true } up.node a:=by
   unfold CX.bw at Md
   obtain⟨_,e2,_⟩:=wf.aG (o:={ One.zero with when:=W,has:=true,own:=true }) FH hlen rfl a
   rw[if_pos (by omega)]at Md
   simp only[Int.toNat_natCast]at Md
   rw[e2,List.getElem?_append_left bK,FH]at Md
   simp only[h0,if_true,Option.some.injEq,Prod.mk.injEq]at Md
   exact Md.1.symm
  obtain⟨w2,_,d2⟩:=wf.aG (o:={ One.zero with when:=W,has:=true,own:=true }) FH hlen rfl a
  have ao2:AO S2:=by rw[Jt];exact ao.add wf rfl d2
  rw[←Jt]at w2
  have EA:S2.τ=S.τ:=by rw[Jt];rfl
  have FK:S2.σ.t=S.σ.t:=by rw[Jt];rfl
  have Qf:aQ S2.τ B:=by rw[EA];exact tf
  unfold qX
  simp only[zd6]
  by_cases hWn:W≤now
  ·rw[decide_eq_true hWn]
   obtain⟨q,z,q1,q2,_⟩:=o2.sC.get (F:=F) (i:=n) (x:=(k:Int)) (by rw[List.getElem?_map,HK,←R2];rfl)
   have rk:aq K4 (q,z) none=some (.i .i64 k):=(q2 K4 (zQ.refl _)).1 0 (by omega)
   simp only[z9,zf,zh,zk,Nat.zero_add,zt,o2.f3,zg,q1,rk]
   refine (ZF hf.BD w2 ao2 Qf o2 mV HK R2 2 2).mono ?_
   rintro _ K6 ⟨R,L6,Mz,w1,w3,ps6,hR,rfl,o6,mU,kj,Ql,zpk,tf6⟩
   simp only[zf,yi,List.getElem?_cons_zero,List.getElem?_cons_succ,zg]
   have fr7:fh c S.σ L L6:=fun r d h1 h2 h3 h4=>by
    refine kj r d h1 (by rw[FK];exact h2) (fun x hx ie=>?_) (fr' r d h1 h2 h3 h4)
    rw[Jt]at hx
    have hx':x∈S.σ.af++[{ ({ ({ One.zero with when:=W,has:=true,own:=true }:One)with c:=some a }:One)with node:=(zP S.σ.tree up.node (!false)).2.1,timer:=-1 }]:=hx
    rcases List.mem_append.1 hx' with h7 | h7
    ·exact h3 x h7 ie
    ·simp at h7;subst h7;simp at ie;subst ie;rw[ha hroom]at h4;cases h4
   obtain⟨Lf,h1,h2,h3⟩:=Hu (S:=S) o6 mU fr7 Ql rfl
   refine⟨Lf,h1,hQ _ _ ⟨a,(R.1,n,R.2.1,0),w1,w3,R.2.2,ha,hdl _ ?_,rfl,h2,by rw[←zpk];exact h3⟩⟩
   rw[if_neg (by omega),if_pos hWn,hR]
  rw[decide_eq_false hWn]
  simp only[zC]
  unfold lV
  have f0:aq K4 (c,0) none=some (ptr S.σ.t):=by rw[o2.f0,FK]
  cases ht:S.σ.t with
  | none =>
   rw[ht]at f0
   have hop:∀k:AV→Lg→Prop,za F (.eq true .ptr) [.p none,.p none] K4 k=k (.b false) K4:=by intro k;simp
   simp only[zf,zh,zk,Nat.zero_add,zt,f0,zg,Ua,hop,zC]
   obtain⟨Lf,h1,h2,h3⟩:=Hu (S:=S) o2 mV fr' (bV.nil _ _ _ _) rfl
   refine⟨Lf,h1,hQ _ _ ⟨a,(S2,n,[],0),_,_,[],ha,hdl _ ?_,rfl,h2,h3⟩⟩
   rw[if_neg (by omega),if_neg hWn]
   unfold CX.fe
   rw[FK,ht]
  | some u =>
   rw[ht]at f0
   have hop:∀k:AV→Lg→Prop,za F (.eq true .ptr) [.p (some (u,0)),.p none] K4 k=k (.b true) K4:=by intro k;simp
   simp only[zf,zh,zk,Nat.zero_add,zt,f0,zg,V9,hop,z9]
   obtain⟨u1,u2⟩:=mV.bQ u (by rw[FK,ht])
   have hKu:=o2.g.old u _ u1 u2
   refine (zbi hf.f77 hKu Qf W n).mono ?_
   rintro _ K5 ⟨rfl,rfl⟩
   obtain⟨mk,hmk⟩:∃mk,mk=S2.τ.make ⟨4,(n:Int),none,0⟩ 0 W:=⟨_,rfl⟩
   rw[←hmk]
   have o3:=o2.bY u1 u2 (.abs (YI u mk.1))
   have M9:=o3.ns.block hb
   simp only[zf,yi,List.getElem?_cons_zero,List.getElem?_cons_succ,zg,zh,zk,yj]
   rw[zD M9 (by rw[zY bf.len];have:=(List.getElem?_eq_some_iff.1 MW).1;omega) rfl]
   have zpb:(zl bf.cells Fz).set (k * 12+10) (.i .i64 mk.2.1)=zl bf.cells (Fz.set k (zJ n { y2 with timer:=mk.2.1 })):=xm bf.len Fz k (zJ n y2) (zJ n { y2 with timer:=mk.2.1 }) 10 _ MW (by omega) rfl
   rw[zpb]
   obtain⟨S3,BB⟩:∃S3:CX,S3={ ({ S2 with τ:=mk.1 }:CX).aB n { y2 with timer:=mk.2.1 }with τ:=mk.1 }:=⟨_,rfl⟩
   have o4:XR (L'.put u (.abs (YI u mk.1))) c S3.σ (Fz.set k (zJ n { y2 with timer:=mk.2.1 })) gI iE Fi av ((K4.put u (.abs (YI u mk.1))).put b (.raw (.cells (zl bf.cells (Fz.set k (zJ n { y2 with timer:=mk.2.1 })))))):=by
    rw[BB]
    exact o3.node hb (by simp) rfl rfl (wt HK rfl) rfl (o2.n.aB HK R2 rfl)
   have LY:S3.σ.names=S2.σ.names:=by rw[BB];exact vh (S:=S2) HK rfl rfl
   have RJ:bE c S3 (L'.put u (.abs (YI u mk.1))):=by
    refine⟨fun s hs=>?_,fun x hx a' gx=>?_⟩
    ·have hs':S2.σ.t=some s:=by rw[BB]at hs;exact hs
     have:s=u:=by rw[FK,ht]at hs';cases hs';rfl
     subst this
     exact⟨u1,by rw[ze,BB]⟩
    ·have h1:(x.c,x.node)∈S3.σ.names:=List.mem_map.2 ⟨x,hx,rfl⟩
     rw[LY]at h1
     obtain⟨p,hp,he⟩:=List.mem_map.1 h1
     simp only[Prod.mk.injEq]at he
     have h4:=mV.bB p hp a' (by rw[he.1];exact gx)
     have hau:a'≠u:=by rintro rfl;exact h4.2.1 (by rw[FK,ht])
     refine⟨h4.1,by rw[BB];exact h4.2.1,?_⟩
     rw[zb _ _ _ hau,BB];exact h4.2.2
   have fr3:fh c S.σ L (L'.put u (.abs (YI u mk.1))):=fun r d h1 h2 h3 h4=>by
    rw[zb _ _ _ (by rintro rfl;exact h2 ht)];exact fr' r d h1 h2 h3 h4
   obtain⟨Lf,h1,h2,h3⟩:=Hu (S:=S) o4 RJ fr3 (bV.nil _ _ _ _) rfl
   refine⟨Lf,h1,hQ _ _ ⟨a,(S3,n,[],0),_,_,[],ha,hdl _ ?_,rfl,h2,h3⟩⟩
   rw[if_neg (by omega),if_neg hWn]
   have zpw:mk.2.2=0:=by rw[hmk];exact YO _ _ _
   unfold CX.fe
   rw[FK,ht]
   simp only
   rw[EA,if_pos hfb,←EA,←hmk,if_pos zpw,HK]
   rw[BB]
 refine (wJ hf.fG o id).mono ?_
 rintro _ K2 ⟨rfl,rfl⟩
 cases h:S.σ.has id with
 | false =>
  simp only[zf,vI,xD,zW,zC]
  exact own fun h9=>by simp[Cs.room,h]at h9
 | true =>
 obtain⟨i,up,rfl,aI,_⟩:=xz h
 obtain⟨k,hk,dA,hwk⟩:=wf.bS i up aI
 have hkn:k<aM.length:=by rw[o.n.len];exact dA
 simp only[zf,zw,yo,xy]
 refine (xU hf.eT o aI hk hkn).mono ?_
 rintro _ K3 ⟨⟨b,hb,rfl⟩,rfl⟩
 have r8:aq K3 (b,k * 12+8) none=some (.b up.has):=by rw[o.rn hb (o.n.one i k up aI hk) (by omega)];rfl
 have r7:aq K3 (b,k * 12+7) none=some (.i .i64 up.when):=by rw[o.rn hb (o.n.one i k up aI hk) (by omega)];rfl
 simp only[zf,zw,zh,zk,zt,r8,zg,zV]
 cases hh:up.has with
 | false =>
  simp only[zf,vI,xD,zW,zC]
  exact own fun _=>⟨up,by simpa using aI,by simp[hh]⟩
 | true =>
  simp only[zf,zw,yo,xy]
  refine (xU hf.eT o aI hk hkn).mono ?_
  rintro _ K5 ⟨⟨b',hb',rfl⟩,rfl⟩
  have:b'=b:=by rw[hb]at hb';cases hb';rfl
  subst this
  simp only[zf,zw,yo,zh,zk,zt,r7,zg,zd6,zV,zM]
  exact⟨fun h1=>direct fun _=>⟨up,by simpa using aI,hh,h1⟩,fun h1=>own fun _=>⟨up,by simpa using aI,fun h9=>h1 h9.2⟩⟩
end
end
section
def rn (ρ:Nat→Nat)(x:One):One:={ x with c:=x.c.map ρ }
def Qm (ρ:Nat→Nat)(t:Option Nat)(σ:Cs):Cs:={ σ with t:=t,af:=σ.af.map (rn ρ) }
def xi (S:CX)(a:Nat):Prop:=∃x∈S.σ.af,x.c=some a
structure bx (ρ:Nat→Nat)(S S':CX):Prop where
 s:S'.σ=Qm ρ S'.σ.t S.σ
 t:S'.σ.t.isSome=S.σ.t.isSome
 x:S'.τ=S.τ
 c:∀a,xi S a→S'.χ (ρ a)=S.χ a
 i:∀a b,xi S a→xi S b→ρ a=ρ b→a=b
section
variable {ρ:Nat→Nat} {S S':CX}
theorem bx.tree (h:bx ρ S S'):S'.σ.tree=S.σ.tree:=by
 have:=congrArg Cs.tree h.s
 exact this
theorem bx.ai (h:bx ρ S S'):S'.σ.ai=S.σ.ai:=by
 have:=congrArg Cs.ai h.s
 exact this
theorem bx.who (h:bx ρ S S'):S'.σ.who=S.σ.who:=by
 have:=congrArg Cs.who h.s
 exact this
theorem bx.af (h:bx ρ S S'):S'.σ.af=S.σ.af.map (rn ρ):=congrArg Cs.af h.s
theorem bx.len (h:bx ρ S S'):S'.σ.af.length=S.σ.af.length:=by rw[h.af,List.length_map]
theorem bx.get (h:bx ρ S S')(i:Nat):S'.σ.af[i]?=(S.σ.af[i]?).map (rn ρ):=by rw[h.af,List.getElem?_map]
theorem bx.has (h:bx ρ S S')(id:Int):S'.σ.has id=S.σ.has id:=by unfold Cs.has;rw[h.len]
theorem bx.room (h:bx ρ S S')(id:Int):S'.σ.room id=S.σ.room id:=by unfold Cs.room;rw[h.has,h.len]
theorem bx.reset (h:bx ρ S S')(ns:List Nd)(as_:List cK)(w:Int→Option Int):bx ρ { S with σ:={ S.σ with tree:=ns,ai:=as_,who:=w } } { S' with σ:={ S'.σ with tree:=ns,ai:=as_,who:=w } }:=by
 refine⟨?_,h.t,h.x,h.c,h.i⟩
 have:=h.af
 simp only[Qm,this]
theorem bx.aD (h:bx ρ S S')(ns:List Nd):bx ρ (S.aD ns) (S'.aD ns):=by
 refine⟨?_,h.t,h.x,h.c,h.i⟩
 have e1:=h.af
 have e2:=h.ai
 have e3:=h.who
 simp only[CX.aD,Qm,e1,e2,e3]
theorem bx.GI (h:bx ρ S S')(as_:List cK):bx ρ { S with σ:={ S.σ with ai:=as_ } } { S' with σ:={ S'.σ with ai:=as_ } }:=by
 refine⟨?_,h.t,h.x,h.c,h.i⟩
 have e1:=h.af
 have e2:=h.tree
 have e3:=h.who
 simp only[Qm,e1,e2,e3]
theorem bx.aB (h:bx ρ S S'){w:Nat}{x y:One}(hx:S.σ.af[w]?=some x)(hc:y.c=x.c):bx ρ (S.aB w y) (S'.aB w (rn ρ y)):=by
 have hu:∀a,xi (S.aB w y) a→xi S a:=by
  rintro a ⟨z,hz,hza⟩
  obtain⟨i,hi⟩:=List.mem_iff_getElem?.1 hz
  rcases wd hi with⟨_,rfl,_⟩ | ⟨_,hi⟩
  ·exact⟨x,List.mem_of_getElem? hx,by rw[←hc];exact hza⟩
  ·exact⟨z,List.mem_of_getElem? hi,hza⟩
 refine⟨?_,h.t,h.x,fun a ha=>h.c a (hu a ha),fun a b ha hb=>h.i a b (hu a ha) (hu b hb)⟩
 have e1:=h.af
 have e2:=h.tree
 have e3:=h.who
 have e4:=h.ai
 simp only[CX.aB,Qm,e1,e2,e3,e4,List.map_set]
theorem bx.Bi (h:bx ρ S S')(τ:bk):bx ρ { S with τ:=τ } { S' with τ:=τ }:=⟨h.s,h.t,rfl,h.c,h.i⟩
theorem bx.cG (h:bx ρ S S'){c:Option Nat}(hu:∀a,c=some a→xi S a):bx ρ (S.cG c).1 (S'.cG (c.map ρ)).1∧(S'.cG (c.map ρ)).2=(S.cG c).2:=by
 cases c with
 | none=>exact⟨h,rfl⟩
 | some a =>
  have ha:=hu a rfl
  have hc:=h.c a ha
  refine⟨⟨h.s,h.t,h.x,fun b hb=>?_,h.i⟩,?_⟩
  ·have hb':xi S b:=hb
   simp only[CX.cG,Option.map_some,xd]
   by_cases e:b=a
   ·subst e;simp[hc]
   ·have:ρ b≠ρ a:=fun h9=>e (h.i b a hb' ha h9)
    rw[if_neg this,if_neg e];exact h.c b hb'
  ·simp only[CX.cG,Option.map_some,hc]
theorem bx.bp (h:bx ρ S S')(id:Int):bx ρ (S.bp id) (S'.bp id):=by
 unfold CX.bp
 have ht:=h.t
 cases e1:S.σ.t with
 | none =>
  cases e2:S'.σ.t with
  | none=>exact h
  | some s=>rw[e1,e2]at ht;cases ht
 | some s =>
  cases e2:S'.σ.t with
  | none=>rw[e1,e2]at ht;cases ht
  | some s' =>
   simp only
   rw[h.x]
   cases S.τ.one id with
   | none=>exact h
   | some o=>simp only;exact h.Bi _
theorem bx.hit {A A':Za}(h:bx ρ A.1 A'.1)(h2:A'.2=A.2)(err cause:Int)(j:Nat):bx ρ (ya err cause A j).1 (ya err cause A' j).1∧(ya err cause A' j).2=(ya err cause A j).2:=by
 obtain⟨S,o⟩:=A
 obtain⟨S',o'⟩:=A'
 simp only at h h2
 subst h2
 unfold ya
 simp only[h.who,h.ai]
 generalize (S.σ.who j).getD 0=w
 by_cases hw:w<0
 ·simp only[hw,if_true]
  cases e:S.σ.ai[(-w-1).toNat]? with
  | none=>exact⟨h,rfl⟩
  | some x =>
   have h9:=h.GI (S.σ.ai.set (-w-1).toNat { x with ak:=true })
   simp only[h.who]at h9 ⊢
   exact⟨h9,trivial⟩
 ·simp only[hw,if_false,h.get]
  cases e:S.σ.af[w.toNat]? with
  | none=>exact⟨h,rfl⟩
  | some x =>
   simp only[Option.map_some]
   have hs:=h.aB (y:={ x with err:=err,cause:=cause }) e rfl
   have he:rn ρ { x with err:=err,cause:=cause }={ rn ρ x with err:=err,cause:=cause }:=rfl
   rw[he]at hs
   have hm:(S.aB w.toNat { x with err:=err,cause:=cause }).σ.af[w.toNat]?=some { x with err:=err,cause:=cause }:=List.getElem?_set_self (List.getElem?_eq_some_iff.1 e).1
   have hen:=hs.cG (c:=x.c) (fun a ha=>⟨_,List.mem_of_getElem? hm,ha⟩)
   have hcm:(rn ρ x).c=x.c.map ρ:=rfl
   have R9:(rn ρ x).timer=x.timer:=rfl
   rw[hcm,R9]
   exact⟨hen.1.bp _,congrArg (fun z=>(o'.1++[(⟨w,err,cause,z⟩:cx)],o'.2)) hen.2⟩
theorem bx.MY {A A':Za}(h:bx ρ A.1 A'.1)(h2:A'.2=A.2)(err cause:Int):∀l:List Nat,bx ρ (l.foldl (ya err cause) A).1 (l.foldl (ya err cause) A').1∧(l.foldl (ya err cause) A').2=(l.foldl (ya err cause) A).2:=by
 intro l
 induction l generalizing A A' with
 | nil=>exact⟨h,h2⟩
 | cons a r ih =>
  obtain⟨h3,h4⟩:=h.hit h2 err cause a
  exact ih h3 h4
theorem bx.walked {A A':Za}(h:bx ρ A.1 A'.1)(h2:A'.2=A.2)(T:List Nd)(err cause:Int)(B:Nat→Bool)(l:List Nat):bx ρ (walked T err cause B l A).1 (walked T err cause B l A').1∧(walked T err cause B l A').2=(walked T err cause B l A).2:=by
 obtain⟨h3,h4⟩:=h.MY h2 err cause l
 exact⟨h3.aD _,h4⟩
theorem bx.wf (h:bx ρ S S')(wf:WF S):WF S':=by
 have fwd:∀{i:Nat} {y:One},S'.σ.af[i]?=some y→∃x,S.σ.af[i]?=some x∧y=rn ρ x:=by
  intro i y hy
  rw[h.get]at hy
  cases e:S.σ.af[i]? with
  | none=>rw[e]at hy;cases hy
  | some x=>rw[e]at hy;simp at hy;exact⟨x,rfl,hy.symm⟩
 refine⟨by rw[h.tree];exact wf.tr,by rw[h.len,h.ai];exact wf.sz,by rw[h.tree,h.len,h.ai];exact wf.len,?_,?_,?_,?_,?_,?_,by rw[h.x];exact wf.Fq⟩
 ·intro i y hy
  obtain⟨x,hx,rfl⟩:=fwd hy
  rw[h.tree,h.who];exact wf.bS i x hx
 ·intro j y hy
  rw[h.ai]at hy
  rw[h.tree,h.who];exact wf.eJ j y hy
 ·intro k hk
  rw[h.tree]at hk
  rw[h.who,h.ai]
  rcases wf.cover k hk with⟨i,x,c1,c2,c3⟩ | c
  ·exact .inl ⟨i,rn ρ x,c1,by rw[h.get,c2];rfl,c3⟩
  ·exact .inr c
 ·intro i k y n hy hk hn
  obtain⟨x,hx,rfl⟩:=fwd hy
  rw[h.tree]at hn
  exact wf.live i k x n hx hk hn
 ·intro y hy a ha
  obtain⟨i,hi⟩:=List.mem_iff_getElem?.1 hy
  obtain⟨x,hx,rfl⟩:=fwd hi
  have IZ:x.c.map ρ=some a:=ha
  cases e:x.c with
  | none=>rw[e]at IZ;cases IZ
  | some a0 =>
   rw[e]at IZ;simp at IZ;subst IZ
   rw[h.c a0 ⟨x,List.mem_of_getElem? hx,e⟩]
   exact wf.bB x (List.mem_of_getElem? hx) a0 e
 ·intro y hy s o hs ho
  obtain⟨i,hi⟩:=List.mem_iff_getElem?.1 hy
  obtain⟨x,hx,rfl⟩:=fwd hi
  have ht:=h.t
  rw[hs]at ht
  cases e:S.σ.t with
  | none=>rw[e]at ht;cases ht
  | some s0=>rw[h.x]at ho;exact wf.bQ x (List.mem_of_getElem? hx) s0 o e ho
theorem bx.ao (h:bx ρ S S')(ao:AO S):AO S':=by
 intro j k x n hx hk hn hl
 rw[h.ai]at hx
 rw[h.tree]at hn
 exact ao j k x n hx hk hn hl
theorem bx.az (h:bx ρ S S')(wf:WF S){i:Nat}{x:One}(hx:S.σ.af[i]?=some x)(err cause:Int):∃r r',S.az 200 i err cause=some r∧S'.az 200 i err cause=some r'∧bx ρ r.1 r'.1∧r'.2=r.2:=by
 have hx':S'.σ.af[i]?=some (rn ρ x):=by rw[h.get,hx];rfl
 obtain⟨k,hk,_,_⟩:=wf.bS i x hx
 have wf':=h.wf wf
 by_cases he:x.free=true∨x.err≠0
 ·exact⟨_,_,yA hx he 199 err cause,yA hx' he 199 err cause,h,rfl⟩
 ·simp only[not_or,Bool.not_eq_true,ne_eq,Decidable.not_not]at he
  refine⟨_,_,wf.az hx hk he.1 he.2 err cause,wf'.az hx' hk he.1 he.2 err cause,?_⟩
  rw[h.tree]
  exact bx.walked (A:=(S,[],[])) (A':=(S',[],[])) h rfl _ _ _ _ _
theorem bx.fH (h:bx ρ S S'){o:One}(hc:o.c=none)(p:Int):bx ρ (S.fH o p) (S'.fH o p):=by
 have hu:∀a,xi (S.fH o p) a→xi S a:=by
  rintro a ⟨z,hz,hza⟩
  have LW:z∈S.σ.af++[{ o with node:=(zP S.σ.tree p (!o.free)).2.1,timer:=-1 }]:=hz
  rcases List.mem_append.1 LW with h1 | h1
  ·exact⟨z,h1,hza⟩
  ·simp at h1;subst h1;simp[hc]at hza
 refine⟨?_,h.t,h.x,fun a ha=>h.c a (hu a ha),fun a b ha hb=>h.i a b (hu a ha) (hu b hb)⟩
 have e1:=h.af
 have e2:=h.tree
 have e3:=h.who
 have e4:=h.ai
 simp only[CX.fH,Cs.add,Qm,e1,e2,e3,e4,List.map_append,List.map_cons,List.map_nil,List.length_map,rn,hc,Option.map_none]
theorem bx.aG (h:bx ρ S S'){a a':Nat}(ha:¬xi S a)(gx:¬xi S' a')(o:One)(p:Int):bx (fun b=>if b=a then a' else ρ b) (S.aG o p a) (S'.aG o p a'):=by
 have hu:∀b,xi (S.aG o p a) b→b=a∨(b≠a∧xi S b):=by
  rintro b ⟨z,hz,hzb⟩
  have LW:z∈S.σ.af++[{ ({ o with c:=some a }:One)with node:=(zP S.σ.tree p (!o.free)).2.1,timer:=-1 }]:=hz
  rcases List.mem_append.1 LW with h1 | h1
  ·refine .inr ⟨?_,z,h1,hzb⟩
   rintro rfl;exact ha ⟨z,h1,hzb⟩
  ·simp at h1;subst h1;simp at hzb;exact .inl hzb.symm
 have hne:∀b,xi S b→ρ b≠a':=by
  rintro b ⟨z,hz,hzb⟩ h9
  refine gx ⟨rn ρ z,by rw[h.af];exact List.mem_map.2 ⟨z,hz,rfl⟩,?_⟩
  simp[rn,hzb,h9]
 refine⟨?_,h.t,h.x,fun b hb=>?_,fun b d hb hd h9=>?_⟩
 ·have e1:=h.af
  have e2:=h.tree
  have e3:=h.who
  have e4:=h.ai
  have hm:S.σ.af.map (rn ρ)=S.σ.af.map (rn fun b=>if b=a then a' else ρ b):=by
   apply List.map_congr_left
   intro z hz
   unfold rn
   congr 1
   cases e:z.c with
   | none=>rfl
   | some b =>
    have:b≠a:=by rintro rfl;exact ha ⟨z,hz,e⟩
    simp[this]
  simp only[CX.aG,Cs.add,Qm,e1,e2,e3,e4,hm,List.map_append,List.map_cons,List.map_nil,List.length_map,rn,Option.map_some,if_true]
 ·simp only[CX.aG,xd]
  rcases hu b hb with rfl | ⟨h1,h2⟩
  ·simp
  ·simp only[h1,if_false,hne b h2]
   exact h.c b h2
 ·have h9:(if b=a then a' else ρ b)=(if d=a then a' else ρ d):=h9
  rcases hu b hb with rfl | ⟨h1,h2⟩
  ·rcases hu d hd with rfl | ⟨h3,h4⟩
   ·rfl
   ·simp only[if_true,h3,if_false]at h9
    exact absurd h9.symm (hne d h4)
  ·rcases hu d hd with rfl | ⟨h3,h4⟩
   ·simp only[if_true,h1,if_false]at h9
    exact absurd h9 (hne b h2)
   ·simp only[h1,h3,if_false]at h9
    exact h.i b d h2 h4 h9
theorem bx.refl (S:CX):bx id S S:=by
 have hr:S.σ.af.map (rn id)=S.σ.af:=by
  have:rn id=id:=by
   funext x
   obtain⟨a,b,c,d⟩:=x
   cases c<;>rfl
  rw[this,List.map_id]
 refine⟨?_,rfl,rfl,fun _ _=>rfl,fun _ _ _ _ h=>h⟩
 show S.σ={ S.σ with t:=S.σ.t,af:=S.σ.af.map (rn id) }
 rw[hr]
end
end
section
variable {F:Nat→Option aT}
theorem zd.zoB {f:Nat}{vs:List AV}{L:Lg}{Q Q':AV→Lg→Prop}(h:zd F f vs L Q)(hq:∀v L',Q v L'→∃r P,L' r=some (.abs P)∧∀hm,P hm→∃M:Lg,Sat M hm∧M r≠none∧((∀b c,M b=some c→b≠r→L' b=none)→Q' v (M.ak L'))):zd F f vs L Q':=by
 intro S m
 obtain⟨n,v,S',h1,L',h2,h3⟩:=h S m
 obtain⟨r,P,e,hh⟩:=hq v L' h3
 obtain⟨hm,hP,hM⟩:=h2.unfold e
 obtain⟨M,hs,hr,hc⟩:=hh hm hP
 obtain⟨m1,hf⟩:=hM M hs
 exact⟨n,v,S',h1,M.ak L',by rw[←zcs M L' hr];exact m1,hc hf⟩
def P4 (χ:Nat→Ch)(i:Nat)(y:Ch)(j:Nat):Ch:=if j=i then y else χ j
section
variable {L0 Lb:Lg} {b s u:Nat} {now:Int} {σ ρ:bk} {χ ψ:Nat→Ch}
theorem zcl {l:List On}{w w':On}{i:Nat}(h:(l++[w])[i]?=some w'):(i=l.length∧w'=w)∨(i<l.length∧l[i]?=some w'):=by
 by_cases hi:i<l.length
 ·rw[List.getElem?_append_left hi]at h;exact .inr ⟨hi,h⟩
 ·rw[List.getElem?_append_right (by omega)]at h
  have h1:=(List.getElem?_eq_some_iff.1 h).1
  simp at h1
  have e:i-l.length=0:=by omega
  rw[e]at h;simp at h
  exact .inl ⟨by omega,h.symm⟩
end
section
variable {σ ρ:bk}
end
end
section
def due (now:Int)(l:List It):Nat:=(l.filter fun y=>decide (y.w≤now)).length
theorem zin (now:Int)(z:It)(l:List It)(hz:now<z.w):due now (ins z l)=due now l:=by
 unfold due
 rw[((vm z l).filter _).length_eq,List.filter_cons_of_neg (by simp;omega)]
theorem zjI (now:Int){y:It}{l:List It}(hy:y∈l)(hw:y.w≤now):due now (yS y.id l)<due now l:=by
 unfold due yS
 rw[List.filter_filter]
 have e:(l.filter fun a=>decide (a.w≤now)&&!decide (a.id=y.id))=(l.filter fun a=>decide (a.w≤now)).filter fun a=>!decide (a.id=y.id):=by
  rw[List.filter_filter];congr 1;funext a;exact Bool.and_comm _ _
 rw[e]
 refine List.length_filter_lt_length_iff_exists.2 ⟨y,?_,by simp⟩
 simp[hy,hw]
theorem zjJ (now:Int)(l:List It):due now l≤l.length:=List.length_filter_le _ _
theorem Wu {w p now:Int}(hw:0≤w∧w≤4611686018427387904):(zy w p now).2=0→now<(zy w p now).1→0≤(zy w p now).1∧(zy w p now).1≤4611686018427387904:=by
 unfold zy
 split
 ·intro h;simp at h
 ·rename_i h1
  split
  ·intro _ _;exact hw
  ·intro _ h2
   simp only at h2 ⊢
   have:zB now (p-(now-w).tmod p)≤4611686018427387904:=by unfold zB yx;omega
   omega
theorem XG.Mp {x:Xs}{K:Int}(h:XG x K)(now:Int) :
  (x.take now=(x,(0,0,0),false)) ∨
  ∃(x':Xs) (y:It),y∈x.l∧y.w≤now∧x.take now=(x',(y.id,y.w,now),true)∧XG x' (K+1)∧due now x'.l<due now x.l∧(∀z∈x'.l,z∈x.l∨z.id=y.id):=by
 cases hl:x.l with
 | nil=>left;simp[Xs.take,hl]
 | cons y r =>
  have hy:y∈x.l:=by rw[hl];simp
  have t0:=h.time y hy
  by_cases hc:now<0∨now<y.w
  ·left;simp[Xs.take,hl,hc]
  ·right
   obtain⟨p,oU,GS,MT⟩:=h.aK y hy
   have hst:=h.stop y.id
   have HR:=zjI now hy (by omega)
   rw[hl]at HR
   by_cases hn:(zy y.w p now).2=0∧now<(zy y.w p now).1
   ·have hr:=Wu t0 hn.1 hn.2
    obtain⟨a1,a2,a3,a4,a5⟩:=hst.arm y.id (zy y.w p now).1 p hr.1 GS hr.2 MT
    refine⟨((x.stop y.id).arm y.id (zy y.w p now).1 p).1,y,by simp,by omega,by simp[Xs.take,hl,hc,oU,hn],a1,?_,?_⟩
    ·have hb:=zfL hr.1 GS hr.2 MT
     have e:((x.stop y.id).arm y.id (zy y.w p now).1 p).1.l=ins ⟨y.id,(zy y.w p now).1,(x.stop y.id).seq+1⟩ (yS y.id (x.stop y.id).l):=by simp[Xs.arm,hb,Xs.aP]
     rw[e,zin _ _ _ hn.2]
     have e2:yS y.id (x.stop y.id).l=yS y.id x.l:=by simp[Xs.stop,yS]
     rw[e2,hl];exact HR
    ·intro z hz
     rcases (a2 z).1 hz with rfl | ⟨h1,h2⟩
     ·exact .inr rfl
     ·exact .inl (by rw[←hl];exact (V0.1 h1).1)
   ·refine⟨x.stop y.id,y,by simp,by omega,by simp[Xs.take,hl,hc,oU,hn],hst.mono (by omega),?_,?_⟩
    ·simp only[Xs.stop];rw[hl];exact HR
    ·intro z hz;exact .inl (by rw[←hl];exact (V0.1 hz).1)
theorem zfi:∀(n:Nat) (l:List Int),l.Nodup→(∀x∈l,0≤x∧x<(n:Int))→l.length≤n
 | 0,l,_,h=>by
  cases l with
  | nil=>simp
  | cons a r=>have:=h a (by simp);omega
 | n+1,l,nd,h=>by
  have h1:=zfi n (l.filter fun x=>!decide (x=(n:Int))) (nd.filter _) (fun x hx=>by
   have:=List.mem_filter.1 hx
   have h2:=h x this.1
   have h3:¬x=(n:Int):=by simpa using this.2
   omega)
  have h2:l.count (n:Int)≤1:=List.nodup_iff_count.1 nd _
  have h3:l.length=l.countP (fun x=>decide (x=(n:Int)))+l.countP (fun x=>!decide (x=(n:Int))):=by
   have:=List.length_eq_countP_add_countP (fun x:Int=>decide (x=(n:Int))) (l:=l)
   simpa using this
  have h4:l.countP (fun x=>decide (x=(n:Int)))=l.count (n:Int):=by
   rw[List.count_eq_countP];congr 1
  rw[←List.countP_eq_length_filter]at h1
  omega
structure gG (y:Ch)(k:Nat):Prop where
 t:y.bH=true
 cap:y.cap=1
 aF:y.aF=[]
 sig:y.signal=false
 closed:y.closed=false
 vals:y.vals.length≤1
 recvs:y.recvs.length≤k
theorem gG.mono {y:Ch}{k k':Nat}(h:gG y k)(hk:k≤k'):gG y k':=⟨h.t,h.cap,h.aF,h.sig,h.closed,h.vals,Nat.le_trans h.recvs hk⟩
theorem gG.tm (k:Nat):gG Ch.tm k:=⟨rfl,rfl,rfl,rfl,rfl,by simp[Ch.tm],by simp[Ch.tm]⟩
structure TG (σ:bk)(χ:Nat→Ch)(k:Nat):Prop where
 g:XG σ.x k
 n:0≤σ.named∧σ.named≤64
 o:σ.af.length≤k
 ids:∀y∈σ.x.l,∃i:Nat,y.id=(i:Int)∧i<σ.af.length
 gen:∀(i:Nat) (w:On),σ.af[i]?=some w→0≤w.gen∧w.gen≤k
 ch:∀i,gG (χ i) k
section
variable {σ:bk} {χ:Nat→Ch} {k:Nat}
theorem TG.mono {k':Nat}(h:TG σ χ k)(hk:k≤k'):TG σ χ k':=⟨h.g.mono (by omega),h.n,Nat.le_trans h.o hk,h.ids,fun i w hw=>⟨(h.gen i w hw).1,by have:=(h.gen i w hw).2;omega⟩,fun i=>(h.ch i).mono hk⟩
theorem TG.tf (h:TG σ χ k)(hk:k≤900000):aQ σ k:=⟨h.g,by omega,by have:=h.o;omega,h.n.1⟩
theorem TG.few (h:TG σ χ k):σ.x.l.length≤σ.af.length:=by
 have:=zfi σ.af.length (σ.x.l.map It.id) h.g.nd (fun x hx=>by
  obtain⟨y,hy,rfl⟩:=List.mem_map.1 hx
  obtain⟨i,h1,h2⟩:=h.ids y hy
  omega)
 simpa using this
theorem TG.chan (h:TG σ χ k){i:Nat}{y:Ch}(hy:gG y k):TG σ (P4 χ i y) k:=⟨h.g,h.n,h.o,h.ids,h.gen,fun j=>by unfold P4;split;exact hy;exact h.ch j⟩
theorem TG.stop (h:TG σ χ k)(id:Int):TG { σ with x:=σ.x.stop id } χ k:=⟨h.g.stop id,h.n,h.o,fun y hy=>h.ids y (V0.1 hy).1,h.gen,h.ch⟩
theorem zjQ {w:On}{now d:Int}(hn:GB now=false)(hk:w.kind=2→1≤d):0≤zB now (max d 0)∧0≤(if w.kind=2 then min d 4611686018427387904 else 0)∧zB now (max d 0)≤4611686018427387904∧(if w.kind=2 then min d 4611686018427387904 else 0)≤4611686018427387904:=by
 simp[GB]at hn
 refine⟨by unfold zB yx;omega,?_,by unfold zB yx;omega,?_⟩
 ·split
  ·rename_i h;have:=hk h;omega
  ·omega
 ·split<;>omega
theorem TG.aP (h:TG σ χ k){i:Nat}(hi:i<σ.af.length){w:On}(hg:0≤w.gen∧w.gen≤k){now d:Int}(hn:GB now=false)(hk:w.kind=2→1≤d):TG (σ.aP i w now d) χ (k+1):=by
 obtain⟨p1,p2,p3,p4⟩:=zjQ hn hk
 obtain⟨a1,a2,a3,a4,a5⟩:=h.g.arm i (zB now (max d 0)) (if w.kind=2 then min d 4611686018427387904 else 0) p1 p2 p3 p4
 refine⟨by have:=a1.mono (K':=((k+1:Nat):Int)) (by omega);exact this,h.n,by have:=h.o;simp[bk.aP];omega,fun y hy=>?_,fun j v hv=>?_,fun j=>(h.ch j).mono (by omega)⟩
 ·rcases (a2 y).1 hy with rfl | ⟨h1,h2⟩
  ·exact⟨i,rfl,by simp[bk.aP];exact hi⟩
  ·obtain⟨j,h3,h4⟩:=h.ids y h1
   exact⟨j,h3,by simp[bk.aP];exact h4⟩
 ·simp only[bk.aP]at hv
  by_cases hj:i=j
  ·subst hj
   rw[List.getElem?_set_self hi]at hv;cases hv
   exact⟨by simp;omega,by simp;omega⟩
  ·rw[List.getElem?_set_ne hj]at hv
   have:=h.gen j v hv;omega
theorem TG.make (h:TG σ χ k){w:On}(hw:w.gen=0)(now d:Int):TG (σ.make w now d).1 (P4 χ σ.af.length .tm) (k+2):=by
 have h':TG σ (P4 χ σ.af.length .tm) (k+2):=(h.chan (gG.tm k)).mono (by omega)
 simp only[bk.make]
 split
 ·exact h'
 ·rename_i c1
  simp only[not_or]at c1
  split
  ·exact h'
  ·rename_i c2
   have hb:GB now=false:=by simpa using c1.1
   have h2:TG { σ with named:=if w.kind=4 then σ.named else σ.named+1,af:=σ.af++[w] } (P4 χ σ.af.length .tm) (k+1):=by
    refine⟨h.g.mono (by omega),?_,by have:=h.o;simp;omega,fun y hy=>?_,fun j v hv=>?_,fun j=>((h.chan (i:=σ.af.length) (gG.tm k)).ch j).mono (by omega)⟩
    ·have:=h.n
     simp only
     split
     ·exact this
     ·rename_i h4
      have:¬64≤σ.named:=fun h9=>c2 ⟨h4,h9⟩
      omega
    ·obtain⟨i,h3,h4⟩:=h.ids y hy
     exact⟨i,h3,by simp;omega⟩
    ·rcases zcl hv with⟨_,rfl⟩ | ⟨_,uZ⟩
     ·omega
     ·have:=h.gen j v uZ;omega
   exact h2.aP (i:=σ.af.length) (by simp) (w:=w) (by omega) hb (fun h9=>Int.not_lt.1 (fun h8=>c1.2.2 ⟨h9,h8⟩))
theorem TG.take (h:TG σ χ k){now:Int}{x':Xs}{y:It}(hy:y∈σ.x.l)(hx:XG x' (k+1))(hz:∀z∈x'.l,z∈σ.x.l∨z.id=y.id):TG { σ with x:=x' } χ (k+1):=by
 refine⟨by have:=hx.mono (K':=((k+1:Nat):Int)) (by omega);exact this,h.n,by have:=h.o;simp;omega,fun z LW=>?_,fun i w hw=>?_,fun j=>(h.ch j).mono (by omega)⟩
 ·rcases hz z LW with h1 | h1
  ·exact h.ids z h1
  ·rw[h1];exact h.ids y hy
 ·have:=h.gen i w hw;omega
end
end
section
structure cE (y:Ch)(k:Nat):Prop where
 aF:y.aF=[]
 vals:y.vals=[]
 bH:y.bH=false
 sig:y.signal=true
 cap:y.cap=0
 recvs:y.recvs.length≤k
theorem cE.mono {y:Ch}{k k':Nat}(h:cE y k)(hk:k≤k'):cE y k':=⟨h.aF,h.vals,h.bH,h.sig,h.cap,Nat.le_trans h.recvs hk⟩
theorem cE.sg (k:Nat):cE .sg k:=⟨rfl,rfl,rfl,rfl,rfl,by simp[Ch.sg]⟩
theorem cE.fin {y:Ch}{k:Nat}(h:cE y k):cE y.cB.1 k:=by
 unfold Ch.cB
 split
 ·exact⟨rfl,h.vals,h.bH,h.sig,h.cap,by simp[Ch.ended]⟩
 ·exact h
structure CI (S:CX)(k:Nat):Prop where
 wf:WF S
 ao:AO S
 t:S.σ.t.isSome=true
 tg:TG S.τ (fun _=>.tm) k
 on:∀(i:Nat) (o:On),S.τ.af[i]?=some o→o.c=none
 ch:∀a,cE (S.χ a) k
structure cO (τ uY:bk):Prop where
 l:uY.x.l.Sublist τ.x.l
 af:uY.af=τ.af
theorem cO.refl (τ:bk):cO τ τ:=⟨List.Sublist.refl _,rfl⟩
theorem cO.due {τ uY:bk}(h:cO τ uY)(now:Int):due now uY.x.l≤due now τ.x.l:=(h.l.filter _).length_le
theorem zar (P:bk→Prop)(R:Ch→Prop)(hP:∀τ id,P τ→P { τ with x:=τ.x.stop id })(hR:∀y,R y→R y.cB.1)(err cause:Int)(acc:Za)(h1:P acc.1.τ)(h2:∀a,R (acc.1.χ a))(j:Nat) :
  P (ya err cause acc j).1.τ∧∀a,R ((ya err cause acc j).1.χ a):=by
 have hst:∀(X:CX) (id:Int),P X.τ→(∀a,R (X.χ a))→P (X.bp id).τ∧∀a,R ((X.bp id).χ a):=by
  intro X id h3 h4
  unfold CX.bp
  cases X.σ.t with
  | none=>exact⟨h3,h4⟩
  | some s =>
   simp only
   cases X.τ.one id with
   | none=>exact⟨h3,h4⟩
   | some o=>exact⟨hP _ _ h3,h4⟩
 have hen:∀(X:CX) (c:Option Nat),P X.τ→(∀a,R (X.χ a))→P (X.cG c).1.τ∧∀a,R ((X.cG c).1.χ a):=by
  intro X c h3 h4
  cases c with
  | none=>exact⟨h3,h4⟩
  | some a =>
   refine⟨h3,fun b=>?_⟩
   simp only[CX.cG,xd]
   split
   ·exact hR _ (h4 a)
   ·exact h4 b
 unfold ya
 simp only
 split
 ·cases acc.1.σ.ai[(-(acc.1.σ.who j).getD 0-1).toNat]? with
  | none=>exact⟨h1,h2⟩
  | some x=>exact⟨h1,h2⟩
 ·cases acc.1.σ.af[((acc.1.σ.who j).getD 0).toNat]? with
  | none=>exact⟨h1,h2⟩
  | some x =>
   obtain⟨h3,h4⟩:=hen (acc.1.aB ((acc.1.σ.who j).getD 0).toNat { x with err:=err,cause:=cause }) x.c h1 h2
   exact hst _ _ h3 h4
theorem VG (P:bk→Prop)(R:Ch→Prop)(hP:∀τ id,P τ→P { τ with x:=τ.x.stop id })(hR:∀y,R y→R y.cB.1)(err cause:Int):∀(l:List Nat) (acc:Za),P acc.1.τ→(∀a,R (acc.1.χ a))→P (l.foldl (ya err cause) acc).1.τ∧∀a,R ((l.foldl (ya err cause) acc).1.χ a)
 | [],acc,h1,h2=>⟨h1,h2⟩
 | j::r,acc,h1,h2=>by
  obtain⟨h3,h4⟩:=zar P R hP hR err cause acc h1 h2 j
  exact VG P R hP hR err cause r _ h3 h4
structure cg (k:Nat)(aN:List cx)(aJ:List (Int×Int)):Prop where
 l:aN.length≤1000
 s:aJ.length≤1000
 w:∀x∈aN,x.bG.length≤k
theorem cg.nil (k:Nat):cg k [] []:=⟨by simp,by simp,fun x hx=>by simp at hx⟩
theorem Vc (b:Bool):∀(l:List Wt) (acc:List Wk),(l.foldl (yv b) acc).length≤acc.length+l.length
 | [],acc=>by simp
 | x::r,acc=>by
  have h1:(yv b acc x).length≤acc.length+1:=by
   unfold yv
   split<;>simp
  have:=Vc b r (yv b acc x)
  simp only[List.foldl_cons,List.length_cons]
  omega
theorem cE.bG {y:Ch}{k:Nat}(h:cE y k):y.cB.2.length≤k:=by
 unfold Ch.cB
 split
 ·have h1:=h.recvs
  have h2:=h.aF
  simp only[Ch.bG,h2,List.foldl_nil]
  have:=Vc false y.recvs []
  simp at this
  omega
 ·simp
theorem zfa {k:Nat}(err cause:Int)(acc:Za)(h2:∀a,cE (acc.1.χ a) k)(hw:∀x∈acc.2.1,x.bG.length≤k)(j:Nat) :
  (ya err cause acc j).2.1.length≤acc.2.1.length+1∧(ya err cause acc j).2.2.length≤acc.2.2.length+1∧∀x∈(ya err cause acc j).2.1,x.bG.length≤k:=by
 unfold ya
 simp only
 split
 ·cases acc.1.σ.ai[(-(acc.1.σ.who j).getD 0-1).toNat]? with
  | none=>exact⟨by simp,by simp,hw⟩
  | some x=>exact⟨by simp,by simp,hw⟩
 ·cases acc.1.σ.af[((acc.1.σ.who j).getD 0).toNat]? with
  | none=>exact⟨by simp,by simp,hw⟩
  | some x =>
   refine⟨by simp,by simp,fun y hy=>?_⟩
   simp only[List.mem_append,List.mem_singleton]at hy
   rcases hy with hy | hy
   ·exact hw y hy
   ·subst hy
    simp only
    cases x.c with
    | none=>simp[CX.cG]
    | some a=>exact (h2 a).bG
theorem zap {k:Nat}(err cause:Int):∀(l:List Nat) (acc:Za),(∀a,cE (acc.1.χ a) k)→(∀x∈acc.2.1,x.bG.length≤k) →
  (l.foldl (ya err cause) acc).2.1.length≤acc.2.1.length+l.length∧(l.foldl (ya err cause) acc).2.2.length≤acc.2.2.length+l.length∧∀x∈(l.foldl (ya err cause) acc).2.1,x.bG.length≤k
 | [],acc,_,hw=>⟨by simp,by simp,hw⟩
 | j::r,acc,h2,hw=>by
  obtain⟨a1,a2,a3⟩:=zfa err cause acc h2 hw j
  have h3:=(zar (fun _=>True) (fun y=>cE y k) (fun _ _ _=>trivial) (fun y hy=>hy.fin) err cause acc trivial h2 j).2
  obtain⟨b1,b2,b3⟩:=zap err cause r _ h3 a3
  simp only[List.foldl_cons,List.length_cons]
  exact⟨by omega,by omega,b3⟩
section
variable {ρ:Nat→Nat} {S S':CX} {k:Nat}
theorem CI.cancel (h:CI S k){i:Nat}{x:One}(hx:S.σ.af[i]?=some x){err cause:Int}(dS:err≠0){r:Za}(hr:S.az 200 i err cause=some r):CI r.1 k∧cO S.τ r.1.τ∧r.1.σ.t=S.σ.t∧r.1.σ.af.length=S.σ.af.length∧cg k r.2.1 r.2.2:=by
 obtain⟨h1,h2,h3,h4,h5⟩:=zdu h.wf h.ao hx dS hr
 obtain⟨q,hq,_,_⟩:=h.wf.bS i x hx
 have key:(TG r.1.τ (fun _=>.tm) k∧cO S.τ r.1.τ)∧∀a,cE (r.1.χ a) k:=by
  by_cases he:x.free=true∨x.err≠0
  ·rw[yA hx he 199]at hr
   cases hr
   exact⟨⟨h.tg,cO.refl _⟩,h.ch⟩
  ·simp only[not_or,Bool.not_eq_true,ne_eq,Decidable.not_not]at he
   rw[h.wf.az hx hq he.1 he.2]at hr
   simp only[Option.some.injEq]at hr
   rw[←hr]
   exact VG (fun τ=>TG τ (fun _=>.tm) k∧cO S.τ τ) (fun y=>cE y k) (fun τ id hp=>⟨hp.1.stop id,⟨List.Sublist.trans (by simp only[Xs.stop,yS];exact List.filter_sublist) hp.2.l,hp.2.af⟩⟩) (fun y hy=>hy.fin) err cause (pre S.σ.tree 200 q) (S,[],[]) ⟨h.tg,cO.refl _⟩ h.ch
 have aN:cg k r.2.1 r.2.2:=by
  by_cases he:x.free=true∨x.err≠0
  ·rw[yA hx he 199]at hr
   cases hr
   exact cg.nil k
  ·simp only[not_or,Bool.not_eq_true,ne_eq,Decidable.not_not]at he
   obtain⟨k',e1,e2,e3⟩:=h.wf.bS i x hx
   have:k'=q:=by omega
   subst this
   rw[h.wf.az hx hq he.1 he.2]at hr
   simp only[Option.some.injEq]at hr
   have hsz:=h.wf.sz
   have hlen:=h.wf.len
   have j5:(pre S.σ.tree 200 k').length≤1000:=by
    have fQ:=wg h.wf.tr 200 k'
    have hsub:pre S.σ.tree 200 k' ⊆ List.range S.σ.tree.length:=fun j hj=>List.mem_range.2 ((Zg h.wf.tr _ _ _ hj).2 e2)
    have:=fQ.length_le_of_subset hsub
    simp at this;omega
   obtain⟨b1,b2,b3⟩:=zap err cause (pre S.σ.tree 200 k') (S,[],[]) h.ch (fun x hx=>by simp at hx)
   rw[←hr]
   exact⟨by simp only[walked];simp at b1;omega,by simp only[walked];simp at b2;omega,b3⟩
 exact⟨⟨h1,h2,by rw[h3];exact h.t,key.1.1,fun j o ho=>h.on j o (by rw[←h5];exact ho),key.2⟩,key.1.2,h3,h4,aN⟩
theorem CI.mono (h:CI S k){k':Nat}(hk:k≤k'):CI S k':=⟨h.wf,h.ao,h.t,h.tg.mono hk,h.on,fun a=>(h.ch a).mono hk⟩
theorem CI.aG (h:CI S k){p:Nat}{up o:One}(aI:S.σ.af[p]?=some up)(hlen:S.σ.af.length<64)(ho:o.err=0)(a:Nat):CI (S.aG o up.node a) k:=by
 obtain⟨w,_,d⟩:=h.wf.aG aI hlen ho a
 refine⟨w,h.ao.add h.wf rfl d,h.t,h.tg,h.on,fun b=>?_⟩
 simp only[CX.aG,xd]
 split
 ·exact cE.sg k
 ·exact h.ch b
theorem CI.fH (h:CI S k){p:Nat}{up o:One}(aI:S.σ.af[p]?=some up)(hlen:S.σ.af.length<64)(ho:o.err=0)(hc:o.c=none):CI (S.fH o up.node) k:=by
 obtain⟨w,_,d,_⟩:=h.wf.add (o:=o) (Aa:=S.χ) aI hlen ho (fun _ _ hb=>hb) (fun b hb=>by rw[hc]at hb;cases hb)
 exact⟨w,h.ao.add h.wf rfl d,h.t,h.tg,h.on,h.ch⟩
theorem zeQ (h:CI S k)(m:bx ρ S S')(id cause:Int):∃r r',S.bC id cause=some r∧S'.bC id cause=some r'∧bx ρ r.1 r'.1∧r'.2=r.2∧CI r.1 k∧cO S.τ r.1.τ∧cg k r.2.1 r.2.2.1:=by
 unfold CX.bC
 rw[m.has]
 cases hh:S.σ.has id with
 | false=>exact⟨_,_,if_pos rfl,if_pos rfl,m,rfl,h,cO.refl _,cg.nil k⟩
 | true =>
  obtain⟨i,x,rfl,hx,_⟩:=xz hh
  simp only[Bool.true_eq_false,if_false,Int.toNat_natCast,m.get,hx,Option.map_some]
  have hfr:(rn ρ x).free=x.free:=rfl
  rw[hfr]
  cases hf:x.free with
  | true=>exact⟨_,_,if_pos rfl,if_pos rfl,m,rfl,h,cO.refl _,cg.nil k⟩
  | false =>
   obtain⟨r,r',e1,e2,e3,e4⟩:=m.az h.wf hx 1 (if cause<1 then 1 else cause)
   obtain⟨c1,c2,_,c4,c5⟩:=h.cancel hx (by omega) e1
   simp only[Bool.false_eq_true,if_false,e1,e2]
   exact⟨_,_,rfl,rfl,e3,by simp only[e4],c1,c2,c5⟩
theorem zgp (h:CI S k)(m:bx ρ S S')(id:Int):∃r r',S.bO id=some r∧S'.bO id=some r'∧bx ρ r.1 r'.1∧r'.2=r.2∧CI r.1 k∧cO S.τ r.1.τ∧cg k r.2.1 r.2.2.1:=by
 unfold CX.bO
 rw[m.has]
 cases hh:S.σ.has id with
 | false=>exact⟨_,_,if_pos rfl,if_pos rfl,m,rfl,h,cO.refl _,cg.nil k⟩
 | true =>
  obtain⟨i,x,rfl,hx,_⟩:=xz hh
  simp only[Bool.true_eq_false,if_false,Int.toNat_natCast,m.get,hx,Option.map_some]
  have hfr:(rn ρ x).own=x.own:=rfl
  rw[hfr]
  cases hf:x.own with
  | false=>exact⟨_,_,if_pos rfl,if_pos rfl,m,rfl,h,cO.refl _,cg.nil k⟩
  | true =>
   obtain⟨r,r',e1,e2,e3,e4⟩:=m.az h.wf hx 2 2
   obtain⟨c1,c2,_,c4,c5⟩:=h.cancel hx (by omega) e1
   simp only[Bool.true_eq_false,if_false,e1,e2]
   exact⟨_,_,rfl,rfl,e3,by simp only[e4],c1,c2,c5⟩
theorem zdm (h:CI S k)(m:bx ρ S S')(id:Int):∃r r',S.bF id=some r∧S'.bF id=some r'∧bx ρ r.1 r'.1∧r'.2=r.2∧CI r.1 k∧cO S.τ r.1.τ:=by
 unfold CX.bF
 rw[m.room]
 by_cases hr:S.σ.room id=0
 ·obtain⟨i,up,rfl,bK,aI,_,hlen⟩:=xr hr
  simp only[hr,ne_eq,not_true_eq_false,if_false,h.wf.bM,(m.wf h.wf).bM,if_true,Int.toNat_natCast,m.get,aI,Option.map_some]
  refine⟨_,_,rfl,rfl,m.fH rfl _,by simp only[m.len],h.fH aI hlen rfl rfl,cO.refl _⟩
 ·rw[if_pos hr,if_pos hr]
  exact⟨_,_,rfl,rfl,m,rfl,h,cO.refl _⟩
theorem zcu (h:CI S k)(m:bx ρ S S'){i:Nat}{up:One}(aI:S.σ.af[i]?=some up){n:Nat}{y:One}(hy:S.σ.af[n]?=some y):∃r r',S.bw n i=some r∧S'.bw n i=some r'∧bx ρ r.1 r'.1∧r'.2=r.2∧CI r.1 k∧cO S.τ r.1.τ∧r.1.σ.af.length=S.σ.af.length∧cg k r.2 []:=by
 unfold CX.bw
 rw[if_pos (by omega),if_pos (by omega)]
 simp only[Int.toNat_natCast,m.get,aI,Option.map_some]
 have he:(rn ρ up).err=up.err:=rfl
 have hc:(rn ρ up).cause=up.cause:=rfl
 rw[he,hc]
 by_cases h0:up.err=0
 ·simp only[h0,if_true]
  exact⟨_,_,rfl,rfl,m,rfl,h,cO.refl _,rfl,cg.nil k⟩
 ·obtain⟨r,r',e1,e2,e3,e4⟩:=m.az h.wf hy up.err up.cause
  obtain⟨c1,c2,_,c4,c5⟩:=h.cancel hy h0 e1
  simp only[h0,if_false,e1,e2]
  exact⟨_,_,rfl,rfl,e3,by simp only[e4],c1,c2,c4,⟨c5.l,by simp,c5.w⟩⟩
end
end
end Go.AM
