/- The texts LibHeapB, LibHeapC, LibHeapD, LibExpire, LibTimerA, LibTimerB, LibTimerC, LibRefA, LibTimerD, LawTimerP, LawTimerX, LibSlice, LibSignal, LibEnd, LibEndB, LibEndC, LibTree of a proof of LapseSound, merged. -/
import Derived.Test.YtbpoekdljkkkpaaGreatLapseSoundG3
set_option linter.unusedVariables false
set_option linter.unusedSimpArgs false
namespace Go.AM
section
variable {F:Nat→Option aT}
def HSl (L:Lg)(h mb:Nat)(bh:List It)(sv:AV)(K:Lg):Prop :=
 (bh=[]∧sv=.sl none 0 0 0)∨∃b cap sp,sv=.sl (some (b,0)) bh.length cap 3∧K b=some (.raw (.cells (yK bh++sp)))∧sp.length+bh.length * 3=cap * 3∧b≠h∧b≠mb∧L b=none
def xv (L:Lg)(h:Nat)(bh:List It)(mp:Int→Option Int)(seq:Int)(K:Lg):Prop :=
 ∃(sv:AV) (mb:Nat) (es:List (AV×AV)),K h=some (.raw (.cells [sv,.m (some mb),.i .i64 seq]))∧K mb=some (.raw (.map es))∧Fb es mp∧mb≠h∧L mb=none∧HSl L h mb bh sv K ∧
  ∀r d,r≠h→L r=some d→K r=some d
section
variable {L K:Lg} {h:Nat} {bh:List It} {mp:Int→Option Int} {seq:Int}
theorem xv.ne (ho:xv L h bh mp seq K){r:Nat}(hr:K r=none):r≠h∧L r=none:=by
 obtain⟨sv,mb,es,h1,h2,h3,h4,h5,h6,h7⟩:=ho
 have n:r≠h:=by rintro rfl;rw[h1]at hr;cases hr
 refine⟨n,?_⟩
 cases e:L r with
 | none=>rfl
 | some d=>rw[h7 r d n e]at hr;cases hr
theorem xv.bW (ho:xv L h bh mp seq K){r:Nat}(hr:K r=none)(d:LC):xv (L.put r d) h bh mp seq (K.put r d):=by
 obtain⟨sv,mb,es,h1,h2,h3,h4,h5,h6,h7⟩:=ho
 have nb:∀{x:Nat} {k:LC},K x=some k→x≠r:=fun hx ie=>by rw[ie,hr]at hx;cases hx
 refine⟨sv,mb,es,by rw[zb _ _ _ (nb h1)];exact h1,by rw[zb _ _ _ (nb h2)];exact h2,h3,h4,by rw[zb _ _ _ (nb h2)];exact h5,?_,?_⟩
 ·rcases h6 with h6 | ⟨b,cap,sp,a1,a2,a3,a4,a5,a6⟩
  ·exact .inl h6
  ·exact .inr ⟨b,cap,sp,a1,by rw[zb _ _ _ (nb a2)];exact a2,a3,a4,a5,by rw[zb _ _ _ (nb a2)];exact a6⟩
 ·intro x k hx hk
  rw[Lg.ah]at hk ⊢
  split
  ·rename_i h9;rw[if_pos h9]at hk;exact hk
  ·rename_i h9;rw[if_neg h9]at hk;exact h7 x k hx hk
theorem xv.weak {r:Nat}{d:LC}(ho:xv (L.put r d) h bh mp seq K)(hr:L r=none):xv L h bh mp seq K:=by
 obtain⟨sv,mb,es,h1,h2,h3,h4,h5,h6,h7⟩:=ho
 have n1:mb≠r:=by rintro rfl;simp at h5
 rw[zb _ _ _ n1]at h5
 refine⟨sv,mb,es,h1,h2,h3,h4,h5,?_,?_⟩
 ·rcases h6 with h6 | ⟨b,cap,sp,a1,a2,a3,a4,a5,a6⟩
  ·exact .inl h6
  ·have n2:b≠r:=by rintro rfl;simp at a6
   rw[zb _ _ _ n2]at a6
   exact .inr ⟨b,cap,sp,a1,a2,a3,a4,a5,a6⟩
 ·intro x k hx hk
  have:x≠r:=by rintro rfl;rw[hr]at hk;cases hk
  exact h7 x k hx (by rw[zb _ _ _ this];exact hk)
theorem xv.old (ho:xv L h bh mp seq K){r:Nat}{d:LC}(hr:r≠h)(hd:L r=some d):K r=some d:=by
 obtain⟨sv,mb,es,h1,h2,h3,h4,h5,h6,h7⟩:=ho
 exact h7 r d hr hd
theorem Zl (hf:E8 F)(ho:xv L h bh mp seq K)(i:Nat)(hi:i<bh.length)(x:It) :
  zd F gC [.p (some (h,0)),.i .i64 i,x.av] K fun v K'=>v=.ay []∧xv L h (bh.set i x) (yM mp x.id (some (i:Int))) seq K':=by
 apply zkP hf.code
 obtain⟨sv,mb,es,h1,h2,h3,h4,h5,h6,h7⟩:=ho
 rcases h6 with⟨rfl,_⟩ | ⟨b,cap,sp,rfl,a2,a3,a4,a5,a6⟩
 ·simp at hi
 obtain⟨es',hs,hM⟩:=h3.set x.id i
 unfold DR It.av
 simp
 rw[zL _ _ _ (by simp[It.cells])]
 intro r hr
 have nb:∀{y:Nat} {k:LC},K y=some k→y≠r:=fun hx ie=>by rw[ie,hr]at hx;cases hx
 have n1:=nb h1
 have n2:=nb h2
 have n3:=nb a2
 have e1:(i:Int)<(bh.length:Int):=by omega
 have eb:((K.put r (.raw (.cells x.cells))) b)=some (.raw (.cells (yK bh++sp))):=by rw[zb _ _ _ n3];exact a2
 have hlen:i * 3+3≤(yK bh++sp).length:=by simp[xL];omega
 have er:(K.put r (.raw (.cells x.cells))) r=some (.raw (.cells x.cells)):=ze _ _ _
 simp[aq,AB.read,zR,Lg.ah,n1,Ne.symm n1,h1,cut,zp]
 have el:3≤x.cells.length:=by simp[It.cells]
 have et:List.take 3 x.cells=x.cells:=by simp[It.cells]
 simp[el,et,yn _ _ _ 3 b 0 bh.length cap 3 .i64 (i:Int) (Int.natCast_nonneg _) e1]
 rw[zu eb (by simp[It.cells]) (by simp[It.cells]) hlen]
 rw[VF bh i x sp hi]
 simp[aq,AB.read,zR,Lg.ah,n1,Ne.symm n1,h1,a4,Ne.symm a4,Ne.symm n3,It.cells,Ug,n2,Ne.symm n2,a5,Ne.symm a5,h2,hs]
 refine⟨_,zx.refl _,.sl (some (b,0)) bh.length cap 3,mb,es',?_,ze _ _ _,hM,h4,h5,.inr ⟨b,cap,sp,by simp,?_,by simpa using a3,a4,a5,a6⟩,?_⟩
 ·simp[Lg.ah,Ne.symm h4,Ne.symm a4,n1,h1]
 ·simp[Lg.ah,a5]
 ·intro y d hy hd
  have c1:y≠r:=by rintro rfl;rw[h7 y d hy hd]at hr;cases hr
  have c2:y≠b:=by rintro rfl;rw[a6]at hd;cases hd
  have c3:y≠mb:=by rintro rfl;rw[h5]at hd;cases hd
  simp[Lg.ah,c1,c2,c3,h7 y d hy hd]
theorem xZ (A:List It)(i:Nat)(y x:It):(A.set i y).set i x=A.set i x:=by simp
theorem zb8 {A:List It}{i:Nat}(hi:i<A.length):A.set i (gA A i)=A:=by
 apply List.ext_getElem?
 intro j
 rw[List.getElem?_set]
 by_cases hj:i=j
 ·subst hj;simp[hi,gA]
 ·simp[hj]
theorem zcI (hf:Hl F){A:List It}(ho:xv L h A mp seq K)(i:Nat)(hi:i<A.length)(hn:A.length≤1000000)(hc:W7 A mp i)(he:Exx A i) :
  zd F iM [.p (some (h,0)),.i .i64 i] K fun v K'=>v=.ay []∧∃A' iB,A'.Perm A∧xv L h A' iB seq K'∧WJ A' iB∧(Up A i→vY A')∧∃i',i'<A'.length∧gA A' i'=gA A i∧Dn A' i':=by
 apply zkK hf.code
 generalize hQ:(fun (v:AV) (K':Lg)=>v=.ay []∧∃A' iB,A'.Perm A∧xv L h A' iB seq K'∧WJ A' iB∧(Up A i→vY A')∧∃i',i'<A'.length∧gA A' i'=gA A i∧Dn A' i')=Q
 unfold DH
 have ho':=ho
 obtain⟨sv,mb,es,h1,h2,h3,h4,h5,h6,h7⟩:=ho'
 rcases h6 with⟨rfl,_⟩ | ⟨b,cap,sp,rfl,a2,a3,a4,a5,a6⟩
 ·simp at hi
 have e1:(i:Int)<(A.length:Int):=by omega
 have iD:=wv A i (gA A i) sp (Wb hi)
 have ee:=iD.2
 rw[List.length_append]at ee
 simp[aq,AB.read,zR,h1,yn _ _ _ 3 b 0 A.length cap 3 .i64 (i:Int) (Int.natCast_nonneg _) e1,a2,cut,zp,iD.1,ee]
 intro x4 Bq
 rw[zu (ze _ _ _) (by simp[It.cells]) (by simp[It.cells]) (by simp),zA,show zo [AV.i .i64 0,.i .i64 0,.i .i64 0] 0 (gA A i).cells=(gA A i).cells by simp[zo,It.cells]]
 have hne:=ho.ne Bq
 obtain⟨I,hI⟩:∃I:Nat→Env→Lg→Prop,I=fun n l' K'=>∃A' i' iB y,A'.Perm A∧gA A' i'=gA A i∧i'<A'.length∧n=i'∧W7 A' iB i'∧(Up A' i'∨(A'=A∧i'=i))∧(Up A i→Up A' i') ∧
  xv (L.put x4 (.raw (.cells (gA A i).cells))) h (A'.set i' y) iB seq K'∧l' 0=.p (some (h,0))∧l' 1=.i .i64 i'∧l' 4=.p (some (x4,0)):=⟨_,rfl⟩
 unfold DG
 refine zN I i ?_ ?_
 ·rw[hI]
  refine⟨A,i,mp,gA A i,List.Perm.refl _,rfl,hi,rfl,hc,.inr ⟨rfl,rfl⟩,id,?_,by simp,by simp,by simp⟩
  rw[zb8 hi]
  exact ho.bW Bq _
 ·intro n l' t K' hinv
  rw[hI]at hinv
  obtain⟨A',i',iB,y,p1,p2,p3,rfl,p5,p6,p7,p8,l0,l1,l4⟩:=hinv
  have RE:=p1.length_eq
  unfold DF
  rw[l0,l1,l4]
  have k4:K' x4=some (.raw (.cells (gA A i).cells)):=p8.old hne.1 (ze _ _ _)
  have M6:Exx A' n:=by
   rcases p6 with h8 | ⟨rfl,rfl⟩
   ·exact⟨fun j a b c d=>h8.1 j a b c,h8.2⟩
   ·exact he
  have fin:(n=0∨¬(gA A' n).lt (gA A' (par n)))→∀K2:Lg,K2=K'→nS F Q (.p (some (h,0))) (.i .i64 n) (.p (some (x4,0))) K2:=by
   rintro iQ K2 rfl
   unfold nS
   simp[yc k4 (show 0+3≤(gA A i).cells.length by simp[It.cells])]
   have:AV.agg (List.take 3 (gA A i).cells)=(gA A i).av:=by simp[It.cells,It.av]
   rw[this]
   refine (Zl hf.f26 p8 n (by simpa using p3) (gA A i)).mono ?_
   rintro _ K3 ⟨rfl,u9⟩
   rw[xZ,←p2,zb8 p3]at u9
   simp
   refine⟨K3,zx.refl _,?_⟩
   subst hQ
   refine⟨rfl,A',_,p1,u9.weak hne.2,p5.fill p3,fun hu=>(p7 hu).heap iQ,n,p3,p2,M6.dn iQ⟩
  by_cases h0:n=0
  ·subst h0
   simp
   exact fin (.inl rfl) _ rfl
  ·have hpos:(0:Int)<(n:Int):=by omega
   have GR:0<n:=by omega
   obtain⟨k,hk⟩:∃k,k=n-1:=⟨_,rfl⟩
   have w1:wr .i64 ((n:Int)-1)=(k:Int):=by rw[zT (by omega) (by omega)];omega
   obtain⟨p,hp⟩:∃p,p=par n:=⟨_,rfl⟩
   have hpk:p<n:=by rw[hp];exact vj (by omega)
   have w2:wr .i64 ((k:Int).tdiv 4)=(p:Int):=by
    have e1:(k:Int).tdiv 4=((k / 4:Nat):Int):=by rw[Int.ofNat_tdiv];rfl
    have e2:k / 4=p:=by rw[hp,hk];rfl
    rw[e1,e2]
    exact zT (by omega) (by omega)
   have w3:wr .i64 ((k:Int) / 4)=(p:Int):=by
    have e1:(k:Int) / 4=((k / 4:Nat):Int):=rfl
    have e2:k / 4=p:=by rw[hp,hk];rfl
    rw[e1,e2]
    exact zT (by omega) (by omega)
   have j5:p<A'.length:=by omega
   have h40:(4:Int)≠0:=by omega
   have p8':=p8
   obtain⟨sv,mb,es,h1,h2,h3,h4,h5,h6,h7⟩:=p8'
   rcases h6 with⟨h6,_⟩ | ⟨b,cap,sp,rfl,a2,a3,a4,a5,a6⟩
   ·exfalso;have:=congrArg List.length h6;rw[List.length_set,List.length_nil]at this;omega
   have e2:(p:Int)<((A'.set n y).length:Int):=by simp;omega
   have iD:=wv (A'.set n y) p (gA A' p) sp (by rw[List.getElem?_set_ne (by omega)];exact Wb j5)
   have ee:=iD.2
   rw[List.length_append]at ee
   rw[List.length_set]at h1 e2
   have et:AV.agg (List.take 3 (gA A i).cells)=(gA A i).av:=by simp[It.cells,It.av]
   have et2:AV.agg (gA A' p).cells=(gA A' p).av:=rfl
   have el:3≤(gA A i).cells.length:=by simp[It.cells]
   simp[hpos,GR,aq,AB.read,zR,k4,h1,UK _ _ _ _ _ _ h40,w2,w3,w1,yn _ _ _ 3 b 0 A'.length cap 3 .i64 (p:Int) (Int.natCast_nonneg _) e2,a2,cut,zp,iD.1,ee,et,et2,el]
   refine (YU hf.f30 (gA A i) (gA A' p)).mono ?_
   rintro _ K1 ⟨rfl,rfl⟩
   simp[hpos,GR,YW]
   refine⟨fun hlt=>?_,fun hlt=>?_⟩
   ·simp[aq,AB.read,zR,h1,UK _ _ _ _ _ _ h40,w2,w3,w1,yn _ _ _ 3 b 0 A'.length cap 3 .i64 (p:Int) (Int.natCast_nonneg _) e2,a2,cut,zp,iD.1,ee,et2]
    refine (Zl hf.f26 p8 n (by simpa using p3) (gA A' p)).mono ?_
    rintro _ K3 ⟨rfl,u9⟩
    rw[xZ]at u9
    simp[UK _ _ _ _ _ _ h40,w2,w3,w1]
    refine⟨p,hpk,?_⟩
    rw[hI]
    have zlD:(gA A' n).lt (gA A' (par n)):=by rw[p2,←hp];exact hlt
    have aI:Up A' n:=by
     rcases p6 with h8 | ⟨rfl,rfl⟩
     ·exact h8
     ·exact he.up GR zlD
    have hst:=aI.step GR p3 zlD
    rw[←hp]at hst
    refine⟨swap A' n p,p,_,gA A' p,(UZ p3 j5).trans p1,?_,by rw[yX];exact j5,rfl,p5.step p3 j5 (by omega),.inl hst,fun _=>hst,?_,by simp[l0],by simp,by simp[l4]⟩
    ·rw[xX p3 j5,if_pos rfl,p2]
    ·have:(swap A' n p).set p (gA A' p)=A'.set n (gA A' p):=by
      unfold swap
      rw[xZ]
      apply List.ext_getElem?
      intro j
      rw[List.getElem?_set]
      by_cases hj:p=j
      ·subst hj
       simp[j5,List.getElem?_set,gA]
       rw[List.getElem_set_ne (by omega)]
      ·simp[hj]
     rw[this]
     exact u9
   ·refine fin (.inr ?_) _ rfl
    rw[p2,←hp];exact hlt
theorem zdx (hf:Ls F){A:List It}(ho:xv L h A mp seq K)(i:Nat)(hi:i<A.length)(hn:A.length≤1000000)(hc:WJ A mp)(he:Dn A i) :
  zd F AL [.p (some (h,0)),.i .i64 i] K fun v K'=>v=.ay []∧∃A' iB,A'.Perm A∧xv L h A' iB seq K'∧WJ A' iB∧vY A':=by
 apply zkJ hf.code
 generalize hQ:(fun (v:AV) (K':Lg)=>v=.ay []∧∃A' iB,A'.Perm A∧xv L h A' iB seq K'∧WJ A' iB∧vY A')=Q
 unfold DE
 have ho':=ho
 obtain⟨sv,mb,es,h1,h2,h3,h4,h5,h6,h7⟩:=ho'
 rcases h6 with⟨rfl,_⟩ | ⟨b,cap,sp,rfl,a2,a3,a4,a5,a6⟩
 ·simp at hi
 have e1:(i:Int)<(A.length:Int):=by omega
 have iD:=wv A i (gA A i) sp (Wb hi)
 have ee:=iD.2
 rw[List.length_append]at ee
 simp[aq,AB.read,zR,h1,yn _ _ _ 3 b 0 A.length cap 3 .i64 (i:Int) (Int.natCast_nonneg _) e1,a2,cut,zp,iD.1,ee]
 intro x4 Bq
 rw[zu (ze _ _ _) (by simp[It.cells]) (by simp[It.cells]) (by simp),zA,show zo [AV.i .i64 0,.i .i64 0,.i .i64 0] 0 (gA A i).cells=(gA A i).cells by simp[zo,It.cells]]
 have hne:=ho.ne Bq
 obtain⟨I,hI⟩:∃I:Nat→Env→Lg→Prop,I=fun n l' K'=>∃A' i' iB y,A'.Perm A∧gA A' i'=gA A i∧i'<A'.length∧n=A'.length-i'∧W7 A' iB i'∧Dn A' i' ∧
  xv (L.put x4 (.raw (.cells (gA A i).cells))) h (A'.set i' y) iB seq K'∧l' 0=.p (some (h,0))∧l' 1=.i .i64 i'∧l' 4=.p (some (x4,0)):=⟨_,rfl⟩
 unfold DD
 clear h1 h2 h3 h4 h5 h7 a2 a3 a4 a5 a6 iD ee e1
 refine zN I (A.length-i) ?_ ?_
 ·rw[hI]
  refine⟨A,i,mp,gA A i,List.Perm.refl _,rfl,hi,rfl,hc.hole i,he,?_,by simp,by simp,by simp⟩
  rw[zb8 hi]
  exact ho.bW Bq _
 ·intro n l' t K' hinv
  rw[hI]at hinv
  obtain⟨A',i',iB,y,p1,p2,p3,hn',p5,p6,p8,l0,l1,l4⟩:=hinv
  have RE:=p1.length_eq
  have k4:K' x4=some (.raw (.cells (gA A i).cells)):=p8.old hne.1 (ze _ _ _)
  have fin:(∀j,0<j→j<A'.length→par j=i'→¬(gA A' j).lt (gA A' i'))→ja F Q (.p (some (h,0))) (.i .i64 i') (.p (some (x4,0))) K':=by
   intro iQ
   unfold ja
   simp[yc k4 (show 0+3≤(gA A i).cells.length by simp[It.cells])]
   have:AV.agg (List.take 3 (gA A i).cells)=(gA A i).av:=by simp[It.cells,It.av]
   rw[this]
   refine (Zl hf.f26 p8 i' (by simpa using p3) (gA A i)).mono ?_
   rintro _ K3 ⟨rfl,u9⟩
   rw[xZ,←p2,zb8 p3]at u9
   simp
   refine⟨K3,zx.refl _,?_⟩
   subst hQ
   exact⟨rfl,A',_,p1,u9.weak hne.2,p5.fill p3,p6.heap iQ⟩
  have p8':=p8
  obtain⟨sv,mb,es,h1,h2,h3,h4,h5,h6,h7⟩:=p8'
  rcases h6 with⟨h6,_⟩ | ⟨b,cap,sp,rfl,a2,a3,a4,a5,a6⟩
  ·exfalso;have:=congrArg List.length h6;rw[List.length_set,List.length_nil]at this;omega
  rw[List.length_set]at h1 a3
  obtain⟨fst,zqX⟩:∃fst,fst=4 * i'+1:=⟨_,rfl⟩
  have w1:wr .i64 (4 * (i':Int))=4 * (i':Int):=zT (by omega) (by omega)
  have w2:wr .i64 (4 * (i':Int)+1)=(fst:Int):=by rw[zT (by omega) (by omega)];omega
  have zj9:∀j,j<A'.length→j≠i'→List.take 3 (List.drop (j * 3) (yK (A'.set i' y)++sp))=(gA A' j).cells∧j * 3+3≤(yK (A'.set i' y)).length+sp.length:=by
   intro j hj hji
   have:=wv (A'.set i' y) j (gA A' j) sp (by rw[List.getElem?_set_ne (Ne.symm hji)];exact Wb hj)
   rw[List.length_append]at this
   exact this
  have kids:∀j,0<j→(par j=i'↔fst≤j∧j<fst+4):=by intro j hj;unfold par;omega
  unfold DC DB
  rw[l1]
  simp[w1,w2,l0,l1,l4,aq,AB.read,zR,h1]
  refine⟨fun hge=>?_,fun hlt=>?_⟩
  ·refine fin fun j h0 hj MS=>?_
   have:=(kids j h0).1 MS
   omega
  ·have hlt':fst<A'.length:=by omega
   unfold DA pX
   have w3:wr .i64 ((fst:Int)+1)=((fst+1:Nat):Int):=by rw[zT (by omega) (by omega)];omega
   simp
   rw[w3]
   unfold pW
   obtain⟨J,hJ⟩:∃J:Nat→Env→Lg→Prop,J=fun m l'' K''=>∃ls k:Nat,fst≤ls∧ls<k∧k≤fst+4∧k≤A'.length∧m=fst+4-k∧(∀j,fst≤j→j<k→¬(gA A' j).lt (gA A' ls))∧K''=K' ∧
    l'' 0=.p (some (h,0))∧l'' 1=.i .i64 i'∧l'' 4=.p (some (x4,0))∧l'' 5=.i .i64 fst∧l'' 6=.i .i64 ls∧l'' 7=.i .i64 k:=⟨_,rfl⟩
   refine zN J 3 ?_ ?_
   ·rw[hJ]
    refine⟨fst,fst+1,by omega,by omega,by omega,by omega,by omega,?_,rfl,by simp[l0],by simp[l1],by simp[l4],by simp,by simp,by simp⟩
    intro j h1 h2
    have:j=fst:=by omega
    subst this;exact It.lt_irrefl _
   ·intro m l'' t'' K'' hj
    rw[hJ]at hj
    obtain⟨ls,k,c1,c2,c3,c4,rfl,c6,rfl,d0,d1,d4,d5,d6,d7⟩:=hj
    have w4:wr .i64 ((fst:Int)+4)=(fst:Int)+4:=zT (by omega) (by omega)
    have FL:ls<A'.length:=by omega
    have els:(ls:Int)<(A'.length:Int):=by omega
    have rls:=zj9 ls FL (by omega)
    have etl:AV.agg (gA A' ls).cells=(gA A' ls).av:=rfl
    unfold pV
    rw[d0,d5,d6,d7]
    have w5:wr .i64 ((k:Int)+1)=((k+1:Nat):Int):=by rw[zT (by omega) (by omega)];omega
    by_cases hk:k<fst+4∧k<A'.length
    ·have Ii:(k:Int)<(fst:Int)+4∧(k:Int)<(A'.length:Int):=by omega
     have hk2:(k:Int)<min ((fst:Int)+4) (A'.length:Int):=by omega
     have rk:=zj9 k hk.2 (by omega)
     have etk:AV.agg (gA A' k).cells=(gA A' k).av:=rfl
     simp[w4,aq,AB.read,zR,h1,Ii,hk.2,yn _ _ _ 3 b 0 A'.length cap 3 .i64 (k:Int) (Int.natCast_nonneg _) Ii.2,yn _ _ _ 3 b 0 A'.length cap 3 .i64 (ls:Int) (Int.natCast_nonneg _) els,a2,cut,zp,rk.1,rk.2,rls.1,rls.2,etk,etl]
     refine⟨fun _=>?_,fun hx=>by omega⟩
     refine (YU hf.f30 (gA A' k) (gA A' ls)).mono ?_
     rintro _ K1 ⟨rfl,rfl⟩
     simp[YW]
     refine⟨fun hl=>?_,fun hl=>?_⟩
     ·refine⟨fst+4-(k+1),by omega,?_⟩
      rw[hJ]
      refine⟨k,k+1,by omega,by omega,by omega,by omega,rfl,?_,rfl,by simp[d0],by simp[d1],by simp[d4],by simp[d5],by simp,by simp[w5]⟩
      intro j j1 j2
      by_cases j8:j=k
      ·subst j8;exact It.lt_irrefl _
      ·exact fun h9=>c6 j j1 (by omega) (vc h9 hl)
     ·refine⟨fst+4-(k+1),by omega,?_⟩
      rw[hJ]
      refine⟨ls,k+1,by omega,by omega,by omega,by omega,rfl,?_,rfl,by simp[d0],by simp[d1],by simp[d4],by simp[d5],by simp[d6],by simp[w5]⟩
      intro j j1 j2
      by_cases j8:j=k
      ·subst j8;exact hl
      ·exact c6 j j1 (by omega)
    ·have hk2:¬((k:Int)<min ((fst:Int)+4) (A'.length:Int)):=by omega
     have hmin:∀j,0<j→j<A'.length→par j=i'→¬(gA A' j).lt (gA A' ls):=by
      intro j h0 hj MS
      have:=(kids j h0).1 MS
      exact c6 j this.1 (by omega)
     have etx:AV.agg (List.take 3 (gA A i).cells)=(gA A i).av:=by simp[It.cells,It.av]
     have elx:3≤(gA A i).cells.length:=by simp[It.cells]
     have hk3:(k:Int)<(fst:Int)+4→(A'.length:Int)≤(k:Int):=by omega
     have hk4:¬((k:Int)<(fst:Int)+4∧(k:Int)<(A'.length:Int)):=by omega
     simp[w4,aq,AB.read,zR,h1]
     refine⟨fun hx1=>by omega,fun _=>?_⟩
     unfold pY
     rw[d0,d1,d4,d6]
     simp[aq,AB.read,zR,h1,k4,yn _ _ _ 3 b 0 A'.length cap 3 .i64 (ls:Int) (Int.natCast_nonneg _) els,a2,cut,zp,rls.1,rls.2,etl,etx,elx]
     refine (YU hf.f30 (gA A i) (gA A' ls)).mono ?_
     rintro _ K1 ⟨rfl,rfl⟩
     simp[YW]
     refine⟨fun hl=>?_,fun hl=>?_⟩
     ·refine fin fun j h0 hj MS=>?_
      have:=hmin j h0 hj MS
      rw[p2]
      exact fun h9=>this (vc h9 hl)
     ·simp[aq,AB.read,zR,h1,yn _ _ _ 3 b 0 A'.length cap 3 .i64 (ls:Int) (Int.natCast_nonneg _) els,a2,cut,zp,rls.1,rls.2,etl]
      refine (Zl hf.f26 p8 i' (by simpa using p3) (gA A' ls)).mono ?_
      rintro _ K3 ⟨rfl,u9⟩
      rw[xZ]at u9
      have zlE:0<ls:=by omega
      have zpn:par ls=i':=(kids ls zlE).2 ⟨c1,by omega⟩
      have hst:=p6.step zlE FL zpn hmin (by rw[p2];exact hl)
      refine⟨A'.length-ls,by omega,?_⟩
      rw[hI]
      refine⟨swap A' i' ls,ls,_,gA A' ls,(UZ p3 FL).trans p1,?_,by rw[yX];exact FL,by rw[yX],p5.step p3 FL (by omega),hst,?_,by simp[d0],by simp,by simp[d4]⟩
      ·rw[xX p3 FL,if_pos rfl,p2]
      ·have:(swap A' i' ls).set ls (gA A' ls)=A'.set i' (gA A' ls):=by
        unfold swap
        rw[xZ]
        apply List.ext_getElem?
        intro j
        rw[List.getElem?_set]
        by_cases hj:ls=j
        ·subst hj
         simp[FL,List.getElem?_set,gA]
         rw[List.getElem_set_ne (by omega)]
        ·simp[hj]
       rw[this]
       exact u9
end
end
section
variable {F:Nat→Option aT}
def ins (x:It):List It→List It
 | []=>[x]
 | y::r=>if x.lt y then x::y::r else y::ins x r
theorem vm (x:It):∀l,(ins x l).Perm (x::l)
 | []=>List.Perm.refl _
 | y::r=>by
  unfold ins
  split
  ·exact List.Perm.refl _
  ·exact ((vm x r).cons y).trans (List.Perm.swap x y r)
theorem VE {x:It}:∀{l:List It},l.Pairwise It.lt→(∀y,y∈l→x.s≠y.s)→(ins x l).Pairwise It.lt
 | [],_,_=>by simp[ins]
 | y::r,h,hx=>by
  rw[List.pairwise_cons]at h
  unfold ins
  split
  ·rename_i hlt
   rw[List.pairwise_cons]
   refine⟨fun z hz=>?_,List.pairwise_cons.2 h⟩
   rcases List.mem_cons.1 hz with rfl | hz
   ·exact hlt
   ·exact vc hlt (h.1 z hz)
  ·rename_i hlt
   have hyx:y.lt x:=by
    have:=hx y (by simp)
    unfold It.lt at *
    omega
   rw[List.pairwise_cons]
   refine⟨fun z hz=>?_,VE h.2 (fun z hz=>hx z (by simp[hz]))⟩
   rcases List.mem_cons.1 ((vm x r).mem_iff.1 hz)with rfl | hz
   ·exact hyx
   ·exact h.1 z hz
def yS (id:Int)(l:List It):List It:=l.filter fun y=>!decide (y.id=id)
def yQ (id:Int)(l:List It):Option It:=l.find? fun y=>decide (y.id=id)
theorem YA {α:Type}(y:α):∀(l:List α) (i:Nat) (h:i<l.length),(l[i]::l.set i y).Perm (y::l)
 | [],i,h=>by simp at h
 | a::r,0,h=>by simpa using List.Perm.swap y a r
 | a::r,i+1,h=>by
  have:=YA y r i (by simpa using h)
  simp only[List.set_cons_succ,List.getElem_cons_succ]
  exact (List.Perm.swap a _ _).trans ((this.cons a).trans (List.Perm.swap y a r))
def wj (h:Nat)(l:List It)(seq:Int)(hp:Hp):Prop:=∃bh mp M,xv Lg.nil h bh mp seq M∧WJ bh mp∧vY bh∧bh.Perm l∧Sat M hp
section
variable {L K:Lg} {h:Nat} {bh l:List It} {mp:Int→Option Int} {seq:Int}
theorem xv.shut (ho:xv L h bh mp seq K)(hc:WJ bh mp)(hh:vY bh)(hp:bh.Perm l):zx K (L.put h (.abs (wj h l seq))):=by
 obtain⟨sv,mb,es,h1,h2,h3,h4,h5,h6,h7⟩:=ho
 rcases h6 with⟨rfl,rfl⟩ | ⟨b,cap,sp,rfl,a2,a3,a4,a5,a6⟩
 ·refine yZ (fun r=>r=h∨r=mb) (.inl rfl) ?_ ?_ (.inl ⟨_,h1⟩) ?_
  ·intro r d hr hd;simp only[not_or]at hr;exact h7 r d hr.1 hd
  ·rintro r (rfl | rfl) hr
   ·exact absurd rfl hr
   ·exact h5
  ·intro M hm hM hN hs
   refine⟨[],mp,M,⟨_,mb,es,by rw[hM h (.inl rfl)];exact h1,by rw[hM mb (.inr rfl)];exact h2,h3,h4,rfl,.inl ⟨rfl,rfl⟩,fun r d _ hd=>by cases hd⟩,hc,hh,hp,hs⟩
 ·refine yZ (fun r=>r=h∨r=mb∨r=b) (.inl rfl) ?_ ?_ (.inl ⟨_,h1⟩) ?_
  ·intro r d hr hd;simp only[not_or]at hr;exact h7 r d hr.1 hd
  ·rintro r (rfl | rfl | rfl) hr
   ·exact absurd rfl hr
   ·exact h5
   ·exact a6
  ·intro M hm hM hN hs
   refine⟨bh,mp,M,⟨_,mb,es,by rw[hM h (.inl rfl)];exact h1,by rw[hM mb (.inr (.inl rfl))];exact h2,h3,h4,rfl,.inr ⟨b,cap,sp,rfl,by rw[hM b (.inr (.inr rfl))];exact a2,a3,a4,a5,rfl⟩,fun r d _ hd=>by cases hd⟩,hc,hh,hp,hs⟩
theorem Z8 {f:Nat}{vs:List AV}{Q:AV→Lg→Prop}(e:L h=some (.abs (wj h l seq)))
  (H:∀bh mp K,xv L h bh mp seq K→WJ bh mp→vY bh→bh.Perm l→zd F f vs K Q):zd F f vs L Q:=by
 apply y3 e
 rintro hm ⟨bh,mp,M,ho,hc,hh,hp,hs⟩
 obtain⟨sv,mb,es,h1,h2,h3,h4,h5,h6,h7⟩:=ho
 refine⟨M,hs,by rw[h1];simp,fun hf=>?_⟩
 have cA:∀b d,M b=some d→(M.ak L) b=some d:=fun b d hb=>by simp[Lg.ak,hb]
 refine H bh mp (M.ak L) ⟨sv,mb,es,cA _ _ h1,cA _ _ h2,h3,h4,hf _ _ h2 h4,?_,?_⟩ hc hh hp
 ·rcases h6 with h6 | ⟨b,cap,sp,a1,a2,a3,a4,a5,a6⟩
  ·exact .inl h6
  ·exact .inr ⟨b,cap,sp,a1,cA _ _ a2,a3,a4,a5,hf _ _ a2 a4⟩
 ·intro r d hr hd
  cases hM:M r with
  | none=>simp[Lg.ak,hM,hd]
  | some c=>rw[hf r c hM hr]at hd;cases hd
theorem xv.back (ho:xv L h bh mp seq K)(hc:WJ bh mp)(hh:vY bh)(hp:bh.Perm l)(e:L h=some (.abs (wj h l seq))):zx K L:=by
 have:=ho.shut hc hh hp
 rwa [ye L h _ e]at this
theorem WJ.find {A:List It}{mp:Int→Option Int}(hc:WJ A mp)(hp:A.Perm l)(id:Int):(mp id=none∧yQ id l=none)∨∃j,j<A.length∧mp id=some (j:Int)∧yQ id l=some (gA A j)∧(gA A j).id=id:=by
 have oQ:∀x y,x∈A→y∈A→x.id=y.id→x=y:=by
  intro x y hx hy e
  obtain⟨i,hi,rfl⟩:=List.getElem_of_mem hx
  obtain⟨j,hj,rfl⟩:=List.getElem_of_mem hy
  have e1:gA A i=A[i]:=by simp[gA,hi]
  have e2:gA A j=A[j]:=by simp[gA,hj]
  rw[←e1,←e2]at e
  have:=hc.1 i j hi hj e
  subst this;rfl
 cases hm:mp id with
 | none =>
  refine .inl ⟨rfl,?_⟩
  unfold yQ
  rw[List.find?_eq_none]
  intro x hx
  have hxA:=hp.mem_iff.2 hx
  obtain⟨j,hj,rfl⟩:=List.getElem_of_mem hxA
  have:=hc.2.1 j hj
  have e1:gA A j=A[j]:=by simp[gA,hj]
  rw[e1]at this
  simp
  rintro rfl
  rw[hm]at this;cases this
 | some v =>
  obtain⟨j,hj,rfl,hid⟩:=hc.2.2 id v hm
  refine .inr ⟨j,hj,rfl,?_,hid⟩
  have e1:gA A j=A[j]:=by simp[gA,hj]
  have hmem:gA A j∈l:=hp.mem_iff.1 (by rw[e1];exact List.getElem_mem _)
  cases hf:yQ id l with
  | none =>
   unfold yQ at hf
   rw[List.find?_eq_none]at hf
   have:=hf _ hmem
   simp[hid]at this
  | some z =>
   have LV:=List.mem_of_find?_eq_some hf
   have LU:=List.find?_some hf
   simp at LU
   rw[oQ z (gA A j) (hp.mem_iff.2 LV) (hp.mem_iff.2 hmem) (by rw[LU,hid])]
theorem ze8 (hf:Lq F)(ho:xv L h bh mp seq K):zd F AI [.p (some (h,0))] K fun v K'=>v=.i .i64 bh.length∧K'=K:=by
 obtain⟨sv,mb,es,h1,h2,h3,h4,h5,h6,h7⟩:=ho
 apply zkD hf.code
 rcases h6 with⟨rfl,rfl⟩ | ⟨b,cap,sp,rfl,a2,a3,a4,a5,a6⟩<;>simp[Dj,aq,AB.read,zR,h1]
def wF (o:Option It):AV:=match o with
 | some x=>.ay [x.av,.b true]
 | none=>.ay [It.zero.av,.b false]
theorem zdw (hf:Lv F)(ho:xv L h bh mp seq K)(hc:WJ bh mp)(hp:bh.Perm l)(id:Int):zd F AP [.p (some (h,0)),.i .i64 id] K fun v K'=>v=wF (yQ id l)∧K'=K:=by
 obtain⟨sv,mb,es,h1,h2,h3,h4,h5,h6,h7⟩:=ho
 apply zkQ hf.code
 generalize hQ:(fun (v:AV) (K':Lg)=>v=wF (yQ id l)∧K'=K)=Q
 unfold DS
 simp
 intro r hr
 have nb:∀{y:Nat} {k:LC},K y=some k→y≠r:=fun hx ie=>by rw[ie,hr]at hx;cases hx
 have n1:=nb h1
 have n2:=nb h2
 have hd:∀c:List AV,zx (K.put r (.raw (.cells c))) K:=fun c=>((yu.refl K).put hr _).cj
 rcases hc.find hp id with⟨m1,m2⟩ | ⟨j,hj,m1,m2,m3⟩
 ·simp[aq,AB.read,zR,Lg.ah,n1,h1,vi,n2,h2,h3.find id,m1,zF,zu (ze _ _ _),zo,zX _ _ (ze _ _ _)]
  refine⟨K,hd _,?_⟩
  subst hQ
  exact⟨by rw[m2];rfl,rfl⟩
 ·rcases h6 with⟨rfl,rfl⟩ | ⟨b,cap,sp,rfl,a2,a3,a4,a5,a6⟩
  ·simp at hj
  ·have n3:=nb a2
   have ej:(j:Int)<(bh.length:Int):=by omega
   have iD:=wv bh j (gA bh j) sp (Wb hj)
   have ee:=iD.2
   rw[List.length_append]at ee
   simp[aq,AB.read,zR,Lg.ah,n1,h1,vi,n2,h2,h3.find id,m1,yn _ _ _ 3 b 0 bh.length cap 3 .i64 (j:Int) (Int.natCast_nonneg _) ej,n3,a2,cut,zp,iD.1,ee]
   rw[zu (ze _ _ _) (by simp[It.cells]) (by simp[It.cells]) (by simp)]
   simp
   rw[zX _ _ (ze _ _ _) (by simp[zo,It.cells])]
   simp[zo,It.cells]
   refine⟨K,hd _,?_⟩
   subst hQ
   exact⟨by rw[m2];rfl,rfl⟩
theorem zan (hf:Hg F)(e:L h=some (.abs (wj h l seq)))(hs:l.Pairwise It.lt):zd F oI [.p (some (h,0))] L fun v L'=>v=wF l.head?∧L'=L:=by
 apply Z8 e
 intro bh mp K ho hc hh hp
 have hb:=ho.back hc hh hp e
 apply zkC hf.code
 generalize hQ:(fun (v:AV) (K':Lg)=>v=wF l.head?∧K'=L)=Q
 unfold Di
 simp
 intro r hr
 refine (ze8 hf.f41 (ho.bW hr _)).mono ?_
 rintro _ K1 ⟨rfl,rfl⟩
 obtain⟨sv,mb,es,h1,h2,h3,h4,h5,h6,h7⟩:=ho
 have nb:∀{y:Nat} {k:LC},K y=some k→y≠r:=fun hx ie=>by rw[ie,hr]at hx;cases hx
 have n1:=nb h1
 have hd:∀c:List AV,zx (K.put r (.raw (.cells c))) L:=fun c=>(((yu.refl K).put hr _).cj).trans hb
 rcases h6 with⟨rfl,rfl⟩ | ⟨b,cap,sp,rfl,a2,a3,a4,a5,a6⟩
 ·have hl:l=[]:=hp.symm.eq_nil
  simp[zF,zu (ze _ _ _),zo,zX _ _ (ze _ _ _)]
  refine⟨L,hd _,?_⟩
  subst hQ
  subst hl
  exact⟨rfl,rfl⟩
 ·by_cases h0:bh.length=0
  ·have MZ:=List.length_eq_zero_iff.1 h0
   subst MZ
   have hl:l=[]:=hp.symm.eq_nil
   simp[zF,zu (ze _ _ _),zo,zX _ _ (ze _ _ _)]
   refine⟨L,hd _,?_⟩
   subst hQ
   subst hl
   exact⟨rfl,rfl⟩
  ·have h0':¬((bh.length:Int)=0):=by omega
   have zmU:bh≠[]:=fun e=>h0 (by rw[e];rfl)
   have n3:=nb a2
   have ej:((0:Nat):Int)<(bh.length:Int):=by omega
   have iD:=wv bh 0 (gA bh 0) sp (Wb (by omega))
   have ee:=iD.2
   rw[List.length_append]at ee
   simp at iD ee
   simp[h0,zmU,aq,AB.read,zR,Lg.ah,n1,h1,yn _ _ _ 3 b 0 bh.length cap 3 .i64 (0:Int) (by omega) ej,n3,a2,cut,zp,iD.1,ee]
   rw[zu (ze _ _ _) (by simp[It.cells]) (by simp[It.cells]) (by simp)]
   simp
   rw[zX _ _ (ze _ _ _) (by simp[zo,It.cells])]
   simp[zo,It.cells]
   refine⟨L,hd _,?_⟩
   subst hQ
   have zlM:l.head?=some (gA bh 0):=by
    cases hl:l with
    | nil=>rw[hl]at hp;exact absurd hp.eq_nil zmU
    | cons z rest =>
     simp
     have hz:z∈bh:=hp.mem_iff.2 (by rw[hl];simp)
     obtain⟨j,hj,hzj⟩:=List.getElem_of_mem hz
     have LU:gA bh j=z:=by simp[gA,hj,hzj]
     have cH:=hh.root j hj
     have hmem:gA bh 0∈l:=hp.mem_iff.1 (by
      have TN:0<bh.length:=by omega
      have:gA bh 0=bh[0]:=by simp[gA,TN]
      rw[this];exact List.getElem_mem _)
     rw[hl]at hmem hs
     rcases List.mem_cons.1 hmem with h9 | h9
     ·exact h9.symm
     ·rw[LU]at cH
      exact absurd ((List.pairwise_cons.1 hs).1 _ h9) cH
   exact⟨by rw[zlM];rfl,rfl⟩
theorem zgK {mp:Int→Option Int}{A:List It}(hc:WJ A mp){x:It}(hx:mp x.id=none):W7 (A++[x]) mp A.length:=by
 have g1:∀j,j<A.length→gA (A++[x]) j=gA A j:=by intro j hj;simp[gA,List.getElem?_append,hj]
 have g2:gA (A++[x]) A.length=x:=by simp[gA]
 refine⟨?_,?_,?_⟩
 ·intro j k hj hk e
  simp at hj hk
  by_cases j1:j<A.length<;>by_cases k1:k<A.length
  ·rw[g1 j j1,g1 k k1]at e;exact hc.1 j k j1 k1 e
  ·have:k=A.length:=by omega
   subst this
   rw[g1 j j1,g2]at e
   have:=hc.2.1 j j1
   rw[e,hx]at this;cases this
  ·have:j=A.length:=by omega
   subst this
   rw[g1 k k1,g2]at e
   have:=hc.2.1 k k1
   rw[←e,hx]at this;cases this
  ·omega
 ·intro j hj hjn
  simp at hj
  have:j<A.length:=by omega
  rw[g1 j this]
  exact hc.2.1 j this
 ·intro k v hk
  obtain⟨j,hj,hv,hid⟩:=hc.2.2 k v hk
  exact .inr ⟨j,by simp;omega,by omega,hv,by rw[g1 j hj];exact hid⟩
theorem zi7 {A:List It}(hh:vY A)(x:It):Up (A++[x]) A.length:=by
 have g1:∀j,j<A.length→gA (A++[x]) j=gA A j:=by intro j hj;simp[gA,List.getElem?_append,hj]
 refine⟨fun j h0 hj hjn=>?_,fun j h0 hj hp _=>?_⟩
 ·simp at hj
  have h1:j<A.length:=by omega
  have:=vj h0
  rw[g1 j h1,g1 _ (by omega)]
  exact hh j h0 h1
 ·simp at hj
  have:=vj h0
  omega
theorem zfc (hf:Lr F)(e:L h=some (.abs (wj h l seq)))(hl:l.length<1000000)(hq:0≤seq∧seq<4611686018427387904)(id when:Int) :
  zd F AK [.p (some (h,0)),.i .i64 id,.i .i64 when] L fun v L' =>
   if (yQ id l).isSome=true then v=.i .i64 1∧L'=L else v=.i .i64 0∧L'=L.put h (.abs (wj h (ins ⟨id,when,seq+1⟩ l) (seq+1))):=by
 apply Z8 e
 intro bh mp K ho hc hh hp
 have hb:=ho.back hc hh hp e
 apply zkG hf.code
 generalize hQ:(fun (v:AV) (L':Lg)=>if (yQ id l).isSome=true then v=.i .i64 1∧L'=L else v=.i .i64 0∧L'=L.put h (.abs (wj h (ins ⟨id,when,seq+1⟩ l) (seq+1))))=Q
 unfold Ds Dr Dq
 have ho':=ho
 obtain⟨sv,mb,es,h1,h2,h3,h4,h5,h6,h7⟩:=ho'
 have RE:=hp.length_eq
 rcases hc.find hp id with⟨m1,m2⟩ | ⟨j,hj,m1,m2,m3⟩
 ·simp[aq,AB.read,zR,h1,vi,h2,h3.find id,m1]
  unfold Dp
  have w1:wr .i64 (seq+1)=seq+1:=zT (by omega) (by omega)
  obtain⟨x,hx⟩:∃x:It,x=⟨id,when,seq+1⟩:=⟨_,rfl⟩
  have IZ:x.cells=[.i .i64 id,.i .i64 when,.i .i64 (seq+1)]:=by rw[hx];rfl
  simp[aq,AB.read,zR,h1,w1,zD h1,zF,zo,zp,zq]
  rw[yg (c:=x.cells) _ _ (by rw[IZ];simp[y7,zF,wa,zo,zp,zq]) (by rw[IZ];simp)]
  intro b1 bP
  rw[show [sv,AV.m (some mb),AV.i .i64 seq].set 2 (.i .i64 (seq+1))=[sv,.m (some mb),.i .i64 (seq+1)]from rfl]at *
  have n1:b1≠h:=by rintro rfl;simp at bP
  rw[zb _ _ _ n1]at bP
  have nb:∀{y:Nat} {k:LC},K y=some k→y≠b1:=fun hx ie=>by rw[ie,bP]at hx;cases hx
  have Iy:∀{K2:Lg},xv L h (bh++[x]) mp (seq+1) K2→zd F iM [.p (some (h,0)),.i .i64 bh.length] K2 fun v25 Im=>zm (some (.i .i64 0)) Q Im:=by
   intro K2 hk2
   have R4:mp x.id=none:=by rw[hx];exact m1
   have aI:=zi7 hh x
   refine (zcI hf.f31 hk2 bh.length (by simp) (by simp;omega) (zgK hc R4) ⟨fun j a b c d=>aI.1 j a b c,aI.2⟩).mono ?_
   rintro _ K3 ⟨rfl,A',iB,p1,u9,hc3,hh3,_⟩
   have MT:A'.Perm (ins x l):=p1.trans (((hp.append (List.Perm.refl [x])).trans List.perm_append_comm).trans (vm x l).symm)
   refine⟨_,u9.shut hc3 (hh3 aI) MT,?_⟩
   subst hQ
   simp[m2,hx]
  have hrd:zH ((K.put h (.raw (.cells [sv,.m (some mb),.i .i64 (seq+1)]))).put b1 (.raw (.cells x.cells))) (some (b1,0)) (1 * 3)=some x.cells:=by
   simp[zH,AB.read,cut,IZ,zp]
  have GK:x.cells.all AV.one=true:=by rw[IZ];simp
  have N3:x.cells.length=3:=by rw[IZ];rfl
  have I6:=nb h1
  have zlC:=nb h2
  have wl:∀n:Nat,n≤1000000→wr .i64 (n:Int)=(n:Int):=fun n hn=>zT (by omega) (by omega)
  have tail:∀(b2:Nat) (Kb:Lg) (c:List AV),(∀r,r≠b2→r≠h→r≠b1→K r≠none→L r≠none∨r=mb→Kb r=K r)→Kb h=some (.raw (.cells [sv,.m (some mb),.i .i64 (seq+1)]))→b2≠h→K b2=none→c=yK (bh++[x]) →
    (fun v16 Aj=>za F .aa [.p (some (h,0))] Aj fun Ml ku=>za F (.aj 0) [Ml] ku fun nY iu=>za F (.st 1) [nY,v16] iu fun _ ir =>
     za F .aa [.p (some (h,0))] ir fun v20 ni=>za F (.aj 0) [v20] ni fun v21 F5=>za F (.ld none) [v21] F5 fun LP G6=>za F .ax [LP] G6 fun v23 Nu =>
     za F (.bin .sub) [v23,(.i .i64 1)] Nu fun v24 Mi=>zd F iM [.p (some (h,0)),v24] Mi fun v25 Im=>zm (some (.i .i64 0)) Q Im) (.sl (some (b2,0)) (bh.length+1) (bh.length+1) 3) (Kb.put b2 (.raw (.cells c))):=by
   intro b2 Kb c OA hKh n3 bT Mc
   have HB:∀{y:Nat} {k:LC},K y=some k→y≠b2:=fun hx ie=>by rw[ie,bT]at hx;cases hx
   have Sh:=HB h2
   simp[aq,AB.read,zR,Lg.ah,Ne.symm n3,hKh,jy,mH,xj,wl bh.length (by omega)]
   refine Iy ⟨.sl (some (b2,0)) (bh.length+1) (bh.length+1) 3,mb,es,ze _ _ _,?_,h3,h4,h5,.inr ⟨b2,bh.length+1,[],by simp,?_,by simp,n3,Ne.symm Sh,(ho.ne bT).2⟩,?_⟩
   ·have:=OA mb Sh h4 zlC (by rw[h2];simp) (.inr rfl)
    simp[Lg.ah,h4,Sh,this,h2]
   ·simp[Lg.ah,n3,Mc]
   ·intro r d hr hd
    have hk:=h7 r d hr hd
    have c1:r≠b1:=by rintro rfl;rw[hk]at bP;cases bP
    have c2:r≠b2:=by rintro rfl;rw[hk]at bT;cases bT
    have:=OA r c2 hr c1 (by rw[hk];simp) (.inl (by rw[hd];simp))
    simp[Lg.ah,hr,c2,this,hk]
  rcases h6 with⟨rfl,rfl⟩ | ⟨b,cap,sp,rfl,a2,a3,a4,a5,a6⟩
  ·simp
   refine w9 (m:=1) hrd GK (by omega) (by omega) (old:=[]) (by simp[zH]) (by simp[Zn];rfl) ?_
   intro b2 bT
   have n2:b2≠b1:=by rintro rfl;simp at bT
   have n3:b2≠h:=by rintro rfl;simp[Lg.ah,I6]at bT
   rw[zb _ _ _ n2,zb _ _ _ n3]at bT
   refine tail b2 _ _ ?_ ?_ n3 bT ?_
   ·intro r c1 c2 c3 _ _;simp[Lg.ah,c2,c3]
   ·simp[Lg.ah,I6]
   ·simp[yK]
  ·have n3:=nb a2
   have eb:((K.put h (.raw (.cells [.sl (some (b,0)) bh.length cap 3,.m (some mb),.i .i64 (seq+1)]))).put b1 (.raw (.cells x.cells))) b=some (.raw (.cells (yK bh++sp))):=by
    simp[Lg.ah,n3,a4,a2]
   by_cases hcap:bh.length+1≤cap
   ·have hle:bh.length * 3+x.cells.length≤(yK bh++sp).length:=by rw[List.length_append,xL,N3];omega
    have hsp:zo (yK bh++sp) (bh.length * 3) x.cells=yK (bh++[x])++sp.drop 3:=by
     unfold zo
     rw[←xL bh,List.take_left,←List.drop_drop,List.drop_left,wK,N3]
     simp[yK]
    simp
    refine Wz (m:=1) hrd GK hcap (by omega) (L':=(((K.put h (.raw (.cells [.sl (some (b,0)) bh.length cap 3,.m (some mb),.i .i64 (seq+1)]))).put b1 (.raw (.cells x.cells))).put b (.raw (.cells (yK (bh++[x])++sp.drop 3))))) ?_ ?_
    ·simp only[mH,Nat.zero_add,eb,hle,GK,and_self,if_true,hsp]
    ·simp[aq,AB.read,zR,Lg.ah,I6,Ne.symm a4,jy,mH,xj,wl bh.length (by omega)]
     refine Iy ⟨.sl (some (b,0)) (bh.length+1) cap 3,mb,es,ze _ _ _,?_,h3,h4,h5,.inr ⟨b,cap,sp.drop 3,by simp,?_,?_,a4,a5,a6⟩,?_⟩
     ·simp[Lg.ah,h4,zlC,Ne.symm a5,h2]
     ·simp[Lg.ah,a4]
     ·simp;omega
     ·intro r d hr hd
      have hk:=h7 r d hr hd
      have c1:r≠b1:=by rintro rfl;rw[hk]at bP;cases bP
      have c2:r≠b:=by rintro rfl;rw[a6]at hd;cases hd
      simp[Lg.ah,hr,c1,c2,hk]
   ·have zo7:sp=[]:=List.length_eq_zero_iff.1 (by omega)
    subst zo7
    have Sw:bh.length * 3≤(yK bh).length:=by rw[xL];omega
    have EC:(yK bh).take (bh.length * 3)=yK bh:=List.take_of_length_le (by rw[xL];omega)
    simp
    refine w9 (m:=1) hrd GK hcap (by omega) (old:=yK bh) ?_ (L':=(((K.put h (.raw (.cells [.sl (some (b,0)) bh.length cap 3,.m (some mb),.i .i64 (seq+1)]))).put b1 (.raw (.cells x.cells))).del b)) ?_ ?_
    ·simp only[zH,eb,AB.read,List.append_nil,cut,zp,Nat.zero_add,Sw,decide_true,cond_true,List.drop_zero,EC]
    ·simp only[Zn,eb];simp
    ·intro b2 bT
     have n2:b2≠b1:=by rintro rfl;simp at bT
     have n4:b2≠h:=by rintro rfl;simp[Lg.ah,I6]at bT
     rw[zb _ _ _ n2,zb _ _ _ n4]at bT
     refine tail b2 _ _ ?_ ?_ n4 bT ?_
     ·intro r c1 c2 c3 _ hor
      have c4:r≠b:=by
       rintro rfl
       rcases hor with h9 | h9
       ·exact h9 a6
       ·exact a5 h9
      simp[Lg.ah,yL,c2,c3,c4]
     ·simp[Lg.ah,yL,I6,Ne.symm a4]
     ·rw[wK];simp[yK]
 ·simp[aq,AB.read,zR,h1,vi,h2,h3.find id,m1]
  refine⟨L,hb,?_⟩
  subst hQ
  simp[m2]
end
end
section
variable {F:Nat→Option aT}
theorem zg0 {s r o len cap ex m:Nat}{j:IntKind}(h1:m≤cap)(h2:ex=0∨ex=s):Fm s false true false [.sl (some (r,o)) len cap ex,.i j (m:Int)]=some (.sl (some (r,o)) m cap ex):=by
 show (bif Nat.ble 0 m&&Nat.ble m cap&&Nat.ble cap cap&&(Nat.beq ex 0||Nat.beq ex s)then _ else _)=_
 have:(Nat.beq ex 0||Nat.beq ex s)=true:=by rcases h2 with rfl | rfl<;>simp[zq]
 simp[zp,h1,this]
section
variable {L L0 K:Lg} {h:Nat} {bh l:List It} {mp:Int→Option Int} {seq:Int}
theorem xv.sub (ho:xv L0 h bh mp seq K)(hs:∀r d,r≠h→L r=some d→L0 r=some d):xv L h bh mp seq K:=by
 obtain⟨sv,mb,es,h1,h2,h3,h4,h5,h6,h7⟩:=ho
 have hn:∀r,r≠h→L0 r=none→L r=none:=by
  intro r hr h0
  cases e:L r with
  | none=>rfl
  | some d=>rw[hs r d hr e]at h0;cases h0
 refine⟨sv,mb,es,h1,h2,h3,h4,hn mb h4 h5,?_,fun r d hr hd=>h7 r d hr (hs r d hr hd)⟩
 rcases h6 with h6 | ⟨b,cap,sp,a1,a2,a3,a4,a5,a6⟩
 ·exact .inl h6
 ·exact .inr ⟨b,cap,sp,a1,a2,a3,a4,a5,hn b a4 a6⟩
theorem xv.bY (ho:xv L h bh mp seq K){r:Nat}{d:LC}(hr:r≠h)(hd:L r=some d)(d':LC):xv (L.put r d') h bh mp seq (K.put r d'):=by
 obtain⟨sv,mb,es,h1,h2,h3,h4,h5,h6,h7⟩:=ho
 have n1:mb≠r:=by rintro rfl;rw[hd]at h5;cases h5
 refine⟨sv,mb,es,by rw[zb _ _ _ (Ne.symm hr)];exact h1,by rw[zb _ _ _ n1];exact h2,h3,h4,by rw[zb _ _ _ n1];exact h5,?_,?_⟩
 ·rcases h6 with h6 | ⟨b,cap,sp,a1,a2,a3,a4,a5,a6⟩
  ·exact .inl h6
  ·have n2:b≠r:=by rintro rfl;rw[hd]at a6;cases a6
   exact .inr ⟨b,cap,sp,a1,by rw[zb _ _ _ n2];exact a2,a3,a4,a5,by rw[zb _ _ _ n2];exact a6⟩
 ·intro x k hx hk
  rw[Lg.ah]at hk ⊢
  split
  ·rename_i h9;rw[if_pos h9]at hk;exact hk
  ·rename_i h9;rw[if_neg h9]at hk;exact h7 x k hx hk
theorem Zo {A:List It}{n j:Nat}(hj:j<n):gA (A.take n) j=gA A j:=by
 simp[gA,List.getElem?_take,hj]
theorem zfE {A:List It}{mp:Int→Option Int}(hc:WJ A mp)(hn:0<A.length):WJ (A.take (A.length-1)) (yM mp (gA A (A.length-1)).id none):=by
 have hl:(A.take (A.length-1)).length=A.length-1:=by simp
 refine⟨?_,?_,?_⟩
 ·intro j k hj hk e
  rw[hl]at hj hk
  rw[Zo hj,Zo hk]at e
  exact hc.1 j k (by omega) (by omega) e
 ·intro j hj
  rw[hl]at hj
  rw[Zo hj]
  unfold yM
  have:(gA A (A.length-1)).id≠(gA A j).id:=fun e=>by have:=hc.1 _ _ (by omega) (by omega) e;omega
  rw[if_neg this]
  exact hc.2.1 j (by omega)
 ·intro k v hk
  unfold yM at hk
  split at hk
  ·cases hk
  ·rename_i hne
   obtain⟨j,hj,hv,hid⟩:=hc.2.2 k v hk
   have:j≠A.length-1:=by rintro rfl;exact hne hid
   exact⟨j,by rw[hl];omega,hv,by rw[Zo (by omega)];exact hid⟩
theorem zfb {A:List It}(hh:vY A):vY (A.take (A.length-1)):=by
 intro j h0 hj
 simp at hj
 have:=vj h0
 rw[Zo (by omega),Zo (by omega)]
 exact hh j h0 (by omega)
theorem zfD {A:List It}{mp:Int→Option Int}(hc:WJ A mp){i:Nat}(hi:i<A.length-1) :
  WJ ((A.take (A.length-1)).set i (gA A (A.length-1))) (yM (yM mp (gA A i).id none) (gA A (A.length-1)).id (some (i:Int))):=by
 have hl:(A.take (A.length-1)).length=A.length-1:=by simp
 have hg:∀j,j<A.length-1→gA ((A.take (A.length-1)).set i (gA A (A.length-1))) j=if i=j then gA A (A.length-1)else gA A j:=by
  intro j hj;rw[zat (by rw[hl];exact hi)];split
  ·rfl
  ·exact Zo hj
 have hl':((A.take (A.length-1)).set i (gA A (A.length-1))).length=A.length-1:=by simp
 have oQ:∀j k,j<A.length→k<A.length→(gA A j).id=(gA A k).id→j=k:=hc.1
 refine⟨?_,?_,?_⟩
 ·intro j k hj hk e
  rw[hl']at hj hk
  rw[hg j hj,hg k hk]at e
  by_cases j1:i=j<;>by_cases k1:i=k
  ·omega
  ·simp only[j1,if_true]at e
   rw[if_neg (by omega)]at e
   have:=oQ _ _ (by omega) (by omega) e;omega
  ·simp only[k1,if_true]at e
   rw[if_neg (by omega)]at e
   have:=oQ _ _ (by omega) (by omega) e;omega
  ·simp only[j1,k1,if_false]at e
   exact oQ _ _ (by omega) (by omega) e
 ·intro j hj
  rw[hl']at hj
  rw[hg j hj]
  unfold yM
  by_cases j1:i=j
  ·simp[j1]
  ·simp only[j1,if_false]
   have n1:(gA A (A.length-1)).id≠(gA A j).id:=fun e=>by have:=oQ _ _ (by omega) (by omega) e;omega
   have n2:(gA A i).id≠(gA A j).id:=fun e=>by have:=oQ _ _ (by omega) (by omega) e;omega
   rw[if_neg n1,if_neg n2]
   exact hc.2.1 j (by omega)
 ·intro k v hk
  unfold yM at hk
  split at hk
  ·rename_i h1;cases hk
   exact⟨i,by rw[hl'];exact hi,rfl,by rw[hg i hi,if_pos rfl];exact h1⟩
  ·rename_i h1
   split at hk
   ·cases hk
   ·rename_i h2
    obtain⟨j,hj,hv,hid⟩:=hc.2.2 k v hk
    have a1:j≠A.length-1:=by rintro rfl;exact h1 hid
    have a2:i≠j:=by rintro rfl;exact h2 hid
    exact⟨j,by rw[hl'];omega,hv,by rw[hg j (by omega),if_neg a2];exact hid⟩
theorem zgF {A:List It}(hh:vY A){i:Nat}(hi:i<A.length-1)(y:It):Exx ((A.take (A.length-1)).set i y) i:=by
 have hl:(A.take (A.length-1)).length=A.length-1:=by simp
 have hg:∀j,j<A.length-1→j≠i→gA ((A.take (A.length-1)).set i y) j=gA A j:=by
  intro j hj hji;rw[zat (by rw[hl];exact hi),if_neg (Ne.symm hji)];exact Zo hj
 refine⟨fun j h0 hj hji hp=>?_,fun j h0 hj hp TN=>?_⟩
 ·simp at hj
  have:=vj h0
  rw[hg j (by omega) hji,hg _ (by omega) hp]
  exact hh j h0 (by omega)
 ·simp at hj
  have h1:=vj h0
  have h2:=vj TN
  rw[hg j (by omega) (by omega),hg _ (by omega) (by omega)]
  have a1:=hh j h0 (by omega)
  rw[hp]at a1
  exact Z4 a1 (hh i TN (by omega))
theorem XC {A:List It}(hn:0<A.length):A.take (A.length-1)++[gA A (A.length-1)]=A:=by
 have h1:gA A (A.length-1)=A[A.length-1]:=by simp[gA,show A.length-1<A.length by omega]
 rw[h1]
 have:=List.take_append_getElem (l:=A) (i:=A.length-1) (by omega)
 rw[this]
 exact List.take_of_length_le (by omega)
theorem zes {A:List It}(hc:Mj A){i:Nat}(hi:i<A.length)(hp:A.Perm l):∀B:List It,(gA A i::B).Perm A→B.Perm (yS (gA A i).id l):=by
 intro B hB
 have h1:=(hB.trans hp).filter (fun y=>!decide (y.id=(gA A i).id))
 have h2:(gA A i::B).filter (fun y=>!decide (y.id=(gA A i).id))=B:=by
  rw[List.filter_cons]
  simp
  intro y hy
  -- one and no other has Mo number
  intro hid
  have zqY:(A.filter fun y=>decide (y.id=(gA A i).id)).length≤1:=by
   have:∀(A:List It),Mj A→∀d,(A.filter fun y=>decide (y.id=d)).length≤1:=by
    intro A
    induction A with
    | nil=>intro _ d;simp
    | cons a r ih =>
     intro hA d
     have hr:Mj r:=by
      intro j k hj hk e
      have:=hA (j+1) (k+1) (by simpa using hj) (by simpa using hk) (by simpa[gA]using e)
      omega
     rw[List.filter_cons]
     split
     ·rename_i had
      simp at had
      have:(r.filter fun y=>decide (y.id=d))=[]:=by
       rw[List.filter_eq_nil_iff]
       intro z hz
       simp
       intro hzd
       obtain⟨k,hk,rfl⟩:=List.getElem_of_mem hz
       have:=hA 0 (k+1) (by simp) (by simpa using hk) (by simp[gA,hk,had,hzd])
       omega
      simp[this]
     ·exact ih hr d
   exact this A hc _
  have h3:=(hB.filter (fun y=>decide (y.id=(gA A i).id))).length_eq
  rw[List.filter_cons]at h3
  simp at h3
  have h4:0<(B.filter fun y=>decide (y.id=(gA A i).id)).length:=List.length_pos_iff.2 (by
   intro e9
   have:y∈B.filter fun y=>decide (y.id=(gA A i).id):=by simp[hy,hid]
   rw[e9]at this;cases this)
  omega
 rw[h2]at h1
 exact h1
theorem zfB {A:List It}(hc:Mj A)(hp:A.Perm l)(hn:0<A.length):(A.take (A.length-1)).Perm (yS (gA A (A.length-1)).id l):=by
 refine zes hc (by omega) hp _ ?_
 have h1:=XC hn
 have h2:(gA A (A.length-1)::A.take (A.length-1)).Perm (A.take (A.length-1)++[gA A (A.length-1)]):=List.perm_append_comm (l₁:=[gA A (A.length-1)])
 rw[h1]at h2
 exact h2
theorem zfh {A:List It}(hc:Mj A)(hp:A.Perm l){i:Nat}(hi:i<A.length-1):((A.take (A.length-1)).set i (gA A (A.length-1))).Perm (yS (gA A i).id l):=by
 refine zes hc (by omega) hp _ ?_
 have h1:=YA (gA A (A.length-1)) (A.take (A.length-1)) i (by simp;omega)
 have h2:(A.take (A.length-1))[i]'(by simp;omega)=gA A i:=by
  simp[gA,show i<A.length by omega]
 rw[h2]at h1
 refine h1.trans ?_
 have h4:(gA A (A.length-1)::A.take (A.length-1)).Perm (A.take (A.length-1)++[gA A (A.length-1)]):=List.perm_append_comm (l₁:=[gA A (A.length-1)])
 rw[XC (by omega)]at h4
 exact h4
theorem zbp {A:List It}(sp:List AV)(hn:0<A.length):yK A++sp=yK (A.take (A.length-1))++((gA A (A.length-1)).cells++sp):=by
 have h1:yK A=yK (A.take (A.length-1)++[gA A (A.length-1)]):=by rw[XC hn]
 rw[h1,wK]
 simp[yK]
theorem Y8 (hf:Hj F)(e:L h=some (.abs (wj h l seq)))(hl:l.length≤1000000)(id:Int) :
  zd F oJ [.p (some (h,0)),.i .i64 id] L fun v L'=>v=wF (yQ id l)∧L'=L.put h (.abs (wj h (yS id l) seq)):=by
 apply Z8 e
 intro bh mp K ho hc hh hp
 have RE:=hp.length_eq
 apply zkI hf.code
 generalize hQ:(fun (v:AV) (L':Lg)=>v=wF (yQ id l)∧L'=L.put h (.abs (wj h (yS id l) seq)))=Q
 unfold Dz Dy
 simp
 intro rc hrc
 have z1:=ho.bW hrc (.raw (.cells [.i .i64 0,.i .i64 0,.i .i64 0]))
 have mJ:=ho.ne hrc
 refine (zdw hf.f25 z1 hc hp id).mono ?_
 rintro _ K1 ⟨rfl,rfl⟩
 rcases hc.find hp id with⟨m1,m2⟩ | ⟨j,hj,m1,m2,m3⟩
 ·rw[m2]at hQ ⊢
  simp[wF,It.av]
  intro x6 Ad
  have nx6:=z1.ne Ad
  rw[zu (ze _ _ _) (by simp[It.cells]) (by simp[It.cells]) (by simp),zA]
  have n6:x6≠rc:=by rintro rfl;simp at Ad
  unfold nQ
  have erc:((K.put rc (.raw (.cells [.i .i64 0,.i .i64 0,.i .i64 0]))).put x6 (.raw (.cells (zo [.i .i64 0,.i .i64 0,.i .i64 0] 0 It.zero.cells)))) rc=some (.raw (.cells [.i .i64 0,.i .i64 0,.i .i64 0])):=by
   rw[zb _ _ _ (Ne.symm n6),ze]
  simp[zF]
  rw[zu erc (by simp) (by simp) (by simp)]
  rw[zX _ _ (ze _ _ _) (by simp[zo])]
  refine⟨L,?_,?_⟩
  ·have hb:=ho.back hc hh hp e
   refine zx.trans (zx.drop ?_) hb
   intro r d hr
   have c1:r≠rc:=by rintro rfl;rw[hrc]at hr;cases hr
   have c2:r≠x6:=by
    rintro rfl
    rw[zb _ _ _ n6,hr]at Ad;cases Ad
   simp[Lg.ah,c1,c2,hr]
  ·subst hQ
   refine⟨rfl,?_⟩
   have:yS id l=l:=by
    unfold yS
    rw[List.filter_eq_self]
    intro y hy
    unfold yQ at m2
    rw[List.find?_eq_none]at m2
    have:=m2 y hy
    simpa using this
   rw[this,ye L h _ e]
 ·rw[m2]at hQ ⊢
  obtain⟨x,hx⟩:∃x,x=gA bh j:=⟨_,rfl⟩
  rw[←hx]at hQ m3 ⊢
  simp[wF,It.av]
  intro x6 Ad
  have nx6:=z1.ne Ad
  have z2:=z1.bW Ad (.raw (.cells x.cells))
  rw[zu (ze _ _ _) (by simp[It.cells]) (by simp[It.cells]) (by simp),zA,show zo [AV.i .i64 0,.i .i64 0,.i .i64 0] 0 x.cells=x.cells by simp[zo,It.cells]]
  unfold nQ Dx
  have hpos:0<bh.length:=by omega
  obtain⟨n,hn⟩:∃n,n=bh.length-1:=⟨_,rfl⟩
  have w1:wr .i64 ((bh.length:Int)-1)=(n:Int):=by rw[zT (by omega) (by omega)];omega
  obtain⟨dg,eC⟩:∃y,y=gA bh n:=⟨_,rfl⟩
  have z2':=z2
  obtain⟨sv,mb,es,h1,h2,h3,h4,h5,h6,h7⟩:=z2'
  rcases h6 with⟨rfl,_⟩ | ⟨b,cap,sp,rfl,a2,a3,a4,a5,a6⟩
  ·simp at hpos
  have en:(n:Int)<(bh.length:Int):=by omega
  have iD:=wv bh n dg sp (by rw[eC];exact Wb (by omega))
  have ee:=iD.2
  rw[List.length_append]at ee
  have I5:n≤cap:=by omega
  simp[aq,AB.read,zR,h1,h2,vi,h3.find id,m1,w1]
  unfold Dw
  simp[aq,AB.read,zR,h1,yn _ _ _ 3 b 0 bh.length cap 3 .i64 (n:Int) (Int.natCast_nonneg _) en,a2,cut,zp,iD.1,ee]
  intro dO EB
  have Hz:=z2.ne EB
  have z3:=z2.bW EB (.raw (.cells dg.cells))
  rw[zu (ze _ _ _) (by simp[It.cells]) (by simp[It.cells]) (by simp),zA,show zo [AV.i .i64 0,.i .i64 0,.i .i64 0] 0 dg.cells=dg.cells by simp[zo,It.cells]]
  obtain⟨L0,EO⟩:∃L0,L0=((L.put rc (.raw (.cells [.i .i64 0,.i .i64 0,.i .i64 0]))).put x6 (.raw (.cells x.cells))).put dO (.raw (.cells dg.cells)):=⟨_,rfl⟩
  rw[←EO]at z3
  have n6:x6≠rc:=by rintro rfl;simp at Ad
  have IQ:dO≠x6:=by rintro rfl;simp at EB
  have zlb:dO≠rc:=by rintro rfl;rw[zb _ _ _ IQ,ze]at EB;cases EB
  have RB:L0 dO=some (.raw (.cells dg.cells)):=by rw[EO];exact ze _ _ _
  have r6:L0 x6=some (.raw (.cells x.cells)):=by rw[EO,zb _ _ _ (Ne.symm IQ)];exact ze _ _ _
  have Qk:L0 rc=some (.raw (.cells [.i .i64 0,.i .i64 0,.i .i64 0])):=by rw[EO,zb _ _ _ (Ne.symm zlb),zb _ _ _ (Ne.symm n6)];exact ze _ _ _
  have hsub:∀r d,r≠h→L r=some d→L0 r=some d:=by
   intro r d hr hd
   have c1:r≠rc:=by rintro rfl;rw[mJ.2]at hd;cases hd
   have c2:r≠x6:=by
    rintro rfl
    have:=nx6.2
    rw[zb _ _ _ n6,hd]at this;cases this
   have c3:r≠dO:=by
    rintro rfl
    have:=Hz.2
    rw[zb _ _ _ IQ,zb _ _ _ zlb,hd]at this;cases this
   rw[EO];simp[Lg.ah,c1,c2,c3,hd]
  -- Bh end: what was there is SE out
  have Jy:∀{oP:List It} {iB:Int→Option Int} {K':Lg},xv L0 h oP iB seq K'→WJ oP iB→vY oP→oP.Perm (yS id l) →
    jy 3 K' (fun _ ir=>zm (yz Env.nil Env.nil ir [.cell (.c (.p (some (rc,0)))) (some 3),.tmp (.c (.b true))]) Q ir) [.p (some (rc,0)),.agg x.cells]:=by
   intro oP iB K' ho' hc' hh' hp'
   have HE:=ho'.old mJ.1 Qk
   rw[zu HE (by simp[It.cells]) (by simp[It.cells]) (by simp)]
   rw[zX _ _ (ze _ _ _) (by simp[zo,It.cells])]
   have j6:=(ho'.bY mJ.1 Qk (.raw (.cells (zo [.i .i64 0,.i .i64 0,.i .i64 0] 0 x.cells)))).sub (L:=L) (fun r d hr hd=>by
    have c1:r≠rc:=by rintro rfl;rw[mJ.2]at hd;cases hd
    rw[zb _ _ _ c1];exact hsub r d hr hd)
   refine⟨_,j6.shut hc' hh' hp',?_⟩
   subst hQ
   exact⟨by simp[zo,It.cells,It.av,wF],rfl⟩
  have fin:∀{oP:List It} {iB:Int→Option Int} {K':Lg},xv L0 h oP iB seq K'→WJ oP iB→vY oP→oP.Perm (yS id l) →
    za F (.ld (some 3)) [.p (some (x6,0))] K' fun nY iu=>za F (.st 3) [.p (some (rc,0)),nY] iu fun _ ir =>
     zm (yz Env.nil Env.nil ir [.cell (.c (.p (some (rc,0)))) (some 3),.tmp (.c (.b true))]) Q ir:=by
   intro oP iB K' ho' hc' hh' hp'
   have k6:=ho'.old nx6.1 r6
   simp[yc k6 (show 0+3≤x.cells.length by simp[It.cells])]
   have:AV.agg (List.take 3 x.cells)=.agg x.cells:=by simp[It.cells]
   rw[this]
   exact Jy ho' hc' hh' hp'
  obtain⟨K3,EP⟩:∃K3,K3=((K.put rc (.raw (.cells [.i .i64 0,.i .i64 0,.i .i64 0]))).put x6 (.raw (.cells x.cells))).put dO (.raw (.cells dg.cells)):=⟨_,rfl⟩
  rw[←EP]at z3 ⊢
  clear h1 h2 h3 h4 h5 h7 a2 a3 a4 a5 a6 iD ee I5 EP
  unfold Dv
  have zz:=z3
  obtain⟨sv,mb,es,h1,h2,h3,h4,h5,h6,h7⟩:=z3
  rcases h6 with⟨rfl,_⟩ | ⟨b,cap,sp,rfl,a2,a3,a4,a5,a6⟩
  ·simp at hpos
  have I5:n≤cap:=by omega
  have SD:dO≠h:=Hz.1
  simp[aq,AB.read,zR,h1,zg0 I5 (.inr rfl),zD h1]
  unfold Du
  obtain⟨es',hes,hM⟩:=h3.del id
  have nbm:dO≠mb:=by rintro rfl;rw[h5]at RB;cases RB
  have nb6:x6≠mb:=by rintro rfl;rw[h5]at r6;cases r6
  -- Bh row GF Bh last one
  have hrow:xv L0 h (bh.take n) (yM mp id none) seq ((K3.put h (.raw (.cells ([.sl (some (b,0)) bh.length cap 3,.m (some mb),.i .i64 seq].set 0 (.sl (some (b,0)) n cap 3))))).put mb (.raw (.map es'))) :=
   ⟨.sl (some (b,0)) n cap 3,mb,es',by rw[zb _ _ _ (Ne.symm h4),ze];rfl,ze _ _ _,hM,h4,h5,
    .inr ⟨b,cap,dg.cells++sp,by rw[List.length_take];congr 1;omega,by rw[zb _ _ _ a5,zb _ _ _ a4,a2,eC,hn,zbp sp hpos],by simp[It.cells];omega,a4,a5,a6⟩,
    fun r d hr hd=>by
     have c1:r≠mb:=by rintro rfl;rw[h5]at hd;cases hd
     rw[zb _ _ _ c1,zb _ _ _ hr];exact h7 r d hr hd⟩
  have zoU:=h7 dO _ Hz.1 RB
  have k36:=h7 x6 _ nx6.1 r6
  have el3:3≤dg.cells.length:=by simp[It.cells]
  have ex3:3≤x.cells.length:=by simp[It.cells]
  have el:AV.agg (List.take 3 dg.cells)=dg.av:=by simp[It.cells,It.av]
  have exx:AV.agg (List.take 3 x.cells)=.agg x.cells:=by simp[It.cells]
  by_cases hjn:j<n
  ·have Sn:(j:Int)<(n:Int):=by omega
   have k10:=hrow.old Hz.1 RB
   have Oe:=zfD hc (i:=j) (by omega)
   have M6:=zgF hh (i:=j) (by omega) (gA bh (bh.length-1))
   have u0:=zfh hc.1 hp (i:=j) (by omega)
   rw[←hn,←eC,←hx,m3]at Oe u0
   rw[←hn,←eC]at M6
   simp[aq,AB.read,zR,h4,Ne.symm h4,Uj,Lg.ah,h2,hes,hjn,Sn,nbm,Hz.1,zoU,cut,zp,el3,el]
   refine (Zl hf.f26 hrow j (by rw[List.length_take];omega) dg).mono ?_
   rintro _ K4 ⟨rfl,ho4⟩
   have Ob:((bh.take n).set j dg).length=n:=by simp;omega
   refine (zcI hf.f31 ho4 j (by rw[Ob];omega) (by rw[Ob];omega) (Oe.hole j) M6).mono ?_
   rintro _ K5 ⟨rfl,A',iB,p1,ho5,hc5,_,i',hi',hg,hdn⟩
   have hg2:gA A' i'=dg:=by rw[hg,zat (by simp;omega),if_pos rfl]
   have hlk:iB dg.id=some (i':Int):=by rw[←hg2];exact hc5.2.1 i' hi'
   have hl5:=p1.length_eq
   have zoV:=ho5.old Hz.1 RB
   have zpo:=ho5
   obtain⟨sv5,mb5,es5,g1,g2,g3,g4,g5,g6,g7⟩:=zpo
   simp[aq,AB.read,zR,g1,zoV,It.cells,vi,g2,g3.find dg.id,hlk]
   refine (zdx hf.f32 ho5 i' hi' (by rw[hl5,Ob];omega) hc5 hdn).mono ?_
   rintro _ K6 ⟨rfl,A'',zqR,p2,ho6,hc6,hh6⟩
   exact fin ho6 hc6 hh6 ((p2.trans p1).trans u0)
  ·have zpF:j=n:=by omega
   have Sn:¬(j:Int)<(n:Int):=by omega
   have hxl:x=dg:=by rw[hx,eC,zpF]
   have hcd:=zfE hc hpos
   have hpd:=zfB hc.1 hp hpos
   rw[←hn,←eC,←hxl,m3]at hcd hpd
   have hhd:=zfb hh
   rw[←hn]at hhd
   simp[aq,AB.read,zR,h4,Ne.symm h4,Uj,Lg.ah,h2,hes,hjn,Sn,nb6,nx6.1,k36,cut,zp,ex3,exx]
   exact Jy hrow hcd hhd hpd
theorem ze6 (hf:Lo F)(e:L h=some (.abs (wj h l seq)))(hs:l.Pairwise It.lt)(hl:l.length≤1000000):zd F AG [.p (some (h,0))] L fun v L'=>v=wF l.head? ∧
  L'=match (generalizing:=false) l with
   | []=>L
   | x::r=>L.put h (.abs (wj h (yS x.id (x::r)) seq)):=by
 apply zkA hf.code
 generalize hQ:(fun (v:AV) (L':Lg)=>v=wF l.head?∧L'=match (generalizing:=false) l with
   | []=>L
   | x::r=>L.put h (.abs (wj h (yS x.id (x::r)) seq)))=Q
 unfold Dg
 simp
 intro rc hrc
 have mJ:rc≠h:=by rintro rfl;rw[e]at hrc;cases hrc
 have e1:(L.put rc (.raw (.cells [.i .i64 0,.i .i64 0,.i .i64 0]))) h=some (.abs (wj h l seq)):=by rw[zb _ _ _ (Ne.symm mJ)];exact e
 refine (zan hf.f42 e1 hs).mono ?_
 rintro _ K1 ⟨rfl,rfl⟩
 cases Sk:l with
 | nil =>
  rw[Sk]at hQ
  simp[wF,It.av]
  intro x5 GM
  have n5:x5≠rc:=by rintro rfl;simp at GM
  rw[zu (ze _ _ _) (by simp[It.cells]) (by simp[It.cells]) (by simp),zA]
  have erc:((L.put rc (.raw (.cells [.i .i64 0,.i .i64 0,.i .i64 0]))).put x5 (.raw (.cells (zo [.i .i64 0,.i .i64 0,.i .i64 0] 0 It.zero.cells)))) rc=some (.raw (.cells [.i .i64 0,.i .i64 0,.i .i64 0])):=by
   rw[zb _ _ _ (Ne.symm n5),ze]
  simp
  rw[yc (ze _ _ _) (by simp[zo,It.cells])]
  simp
  rw[zu erc (by simp[zo,It.cells]) (by simp[zo,It.cells]) (by simp)]
  rw[zX _ _ (ze _ _ _) (by simp[zo,It.cells])]
  refine⟨L,zx.drop ?_,?_⟩
  ·intro r d hr
   have c1:r≠rc:=by rintro rfl;rw[hrc]at hr;cases hr
   have c2:r≠x5:=by rintro rfl;rw[zb _ _ _ n5,hr]at GM;cases GM
   simp[Lg.ah,c1,c2,hr]
  ·subst hQ
   exact⟨by simp[zo,It.cells,It.zero,It.av,wF],rfl⟩
 | cons x r =>
  rw[Sk]at hQ
  simp[wF,It.av]
  intro x5 GM
  have n5:x5≠rc:=by rintro rfl;simp at GM
  have n5h:x5≠h:=by rintro rfl;rw[e1]at GM;cases GM
  rw[zu (ze _ _ _) (by simp[It.cells]) (by simp[It.cells]) (by simp),zA,show zo [AV.i .i64 0,.i .i64 0,.i .i64 0] 0 x.cells=x.cells by simp[zo,It.cells]]
  have e2:((L.put rc (.raw (.cells [.i .i64 0,.i .i64 0,.i .i64 0]))).put x5 (.raw (.cells x.cells))) h=some (.abs (wj h (x::r) seq)):=by rw[zb _ _ _ (Ne.symm n5h),e1,Sk]
  simp[aq,AB.read,zR,It.cells]
  rw[Sk]at hl
  refine (Y8 hf.f33 e2 hl x.id).mono ?_
  rintro _ K2 ⟨rfl,rfl⟩
  have k5:(((L.put rc (.raw (.cells [.i .i64 0,.i .i64 0,.i .i64 0]))).put x5 (.raw (.cells x.cells))).put h (.abs (wj h (yS x.id (x::r)) seq))) x5=some (.raw (.cells x.cells)):=by
   rw[zb _ _ _ n5h,ze]
  have HE:(((L.put rc (.raw (.cells [.i .i64 0,.i .i64 0,.i .i64 0]))).put x5 (.raw (.cells x.cells))).put h (.abs (wj h (yS x.id (x::r)) seq))) rc=some (.raw (.cells [.i .i64 0,.i .i64 0,.i .i64 0])):=by
   rw[zb _ _ _ mJ,zb _ _ _ (Ne.symm n5),ze]
  simp[yc k5 (show 0+3≤x.cells.length by simp[It.cells])]
  have:AV.agg (List.take 3 x.cells)=.agg x.cells:=by simp[It.cells]
  rw[this,zu HE (by simp[It.cells]) (by simp[It.cells]) (by simp)]
  rw[zX _ _ (ze _ _ _) (by simp[zo,It.cells])]
  refine⟨L.put h (.abs (wj h (yS x.id (x::r)) seq)),zx.drop ?_,?_⟩
  ·intro y d hr
   rw[Lg.ah]at hr
   have c1:y≠rc:=by
    rintro rfl
    rw[if_neg mJ,hrc]at hr;cases hr
   have c2:y≠x5:=by
    rintro rfl
    rw[if_neg n5h]at hr
    rw[zb _ _ _ n5,hr]at GM;cases GM
   simp[Lg.ah,c1,c2]
   exact hr
  ·subst hQ
   exact⟨by simp[zo,It.cells,It.av,wF],rfl⟩
theorem ze7 (hf:LB F):zd F AW [] L fun v L'=>∃h,L h=none∧v=.p (some (h,0))∧L'=L.put h (.abs (wj h [] 0)):=by
 apply zkV hf.code
 unfold DX
 simp
 intro mb hmb
 simp[zF,zo,zp,zq]
 intro h hh
 have n1:h≠mb:=by rintro rfl;simp at hh
 rw[zb _ _ _ n1]at hh
 have ho:xv L h [] (fun _=>none) 0 ((L.put mb (.raw (.map []))).put h (.raw (.cells [.sl none 0 0 0,.m (some mb),.i .i64 0]))) :=
  ⟨_,mb,[],ze _ _ _,by rw[zb _ _ _ (Ne.symm n1),ze],Uk,Ne.symm n1,hmb,.inl ⟨rfl,rfl⟩,fun r d hr hd=>by
   have c1:r≠mb:=by rintro rfl;rw[hmb]at hd;cases hd
   rw[zb _ _ _ hr,zb _ _ _ c1];exact hd⟩
 exact⟨_,ho.shut ⟨fun j k hj=>by simp at hj,fun j hj=>by simp at hj,fun k v hk=>by cases hk⟩ (fun j _ hj=>by simp at hj) (List.Perm.refl _),h,hh,rfl,rfl⟩
end
end
section
variable {F:Nat→Option aT}
structure Xs where
 l:List It
 seq:Int
 pf:Int→Option Int
def Xs.stop (x:Xs)(id:Int):Xs:={ x with l:=yS id x.l,pf:=yM x.pf id none }
def Xs.aP (x:Xs)(id when period:Int):Xs:={ l:=ins ⟨id,when,x.seq+1⟩ (yS id x.l),seq:=x.seq+1,pf:=yM (yM x.pf id none) id (some period) }
def Iq (a b:Int):Bool:=decide (min a b<0)||decide (4611686018427387904<max a b)
def Xs.arm (x:Xs)(id when period:Int):Xs×Int:=if Iq when period=true then (x,1)else (x.aP id when period,0)
def Xs.next (x:Xs):Int×Bool:=match x.l.head? with
 | some y=>(y.w,true)
 | none=>(0,false)
def Xs.take (x:Xs)(now:Int):Xs×(Int×Int×Int)×Bool:=match x.l.head? with
 | none=>(x,(0,0,0),false)
 | some y=>if now<0∨now<y.w then (x,(0,0,0),false)else
  let p:=(x.pf y.id).getD 0
  let z:Xs:=x.stop y.id
  let c:=zy y.w p now
  (if c.2=0∧now<c.1 then (z.arm y.id c.1 p).1 else z,(y.id,y.w,now),true)
def iS (t:Nat)(x:Xs)(hp:Hp):Prop:=∃(h pm:Nat) (es:List (AV×AV)) (M:Lg),M t=some (.raw (.cells [.p (some (h,0)),.m (some pm)]))∧M h=some (.abs (wj h x.l x.seq))∧M pm=some (.raw (.map es))∧Fb es x.pf∧h≠t∧pm≠t∧pm≠h∧Sat M hp
structure bA (L:Lg)(t:Nat)(x:Xs)(h pm:Nat)(K:Lg):Prop where
 root:K t=some (.raw (.cells [.p (some (h,0)),.m (some pm)]))
 heap:K h=some (.abs (wj h x.l x.seq))
 aK:∃es,K pm=some (.raw (.map es))∧Fb es x.pf
 n1:h≠t
 n2:pm≠t
 n3:pm≠h
 f1:L h=none
 f2:L pm=none
 old:∀r d,r≠t→L r=some d→K r=some d
section
variable {L L0 K:Lg} {t h pm:Nat} {x:Xs}
theorem bA.shut (o:bA L t x h pm K):zx K (L.put t (.abs (iS t x))):=by
 obtain⟨es,e1,e2⟩:=o.aK
 refine yZ (fun r=>r=t∨r=h∨r=pm) (.inl rfl) ?_ ?_ (.inl ⟨_,o.root⟩) ?_
 ·intro r d hr hd;simp only[not_or]at hr;exact o.old r d hr.1 hd
 ·rintro r (rfl | rfl | rfl) hr
  ·exact absurd rfl hr
  ·exact o.f1
  ·exact o.f2
 ·intro M hm hM hN hs
  exact⟨h,pm,es,M,by rw[hM t (.inl rfl)];exact o.root,by rw[hM h (.inr (.inl rfl))];exact o.heap,by rw[hM pm (.inr (.inr rfl))];exact e1,e2,o.n1,o.n2,o.n3,hs⟩
theorem Z5 {f:Nat}{vs:List AV}{Q:AV→Lg→Prop}(e:L t=some (.abs (iS t x)))(H:∀h pm K,bA L t x h pm K→zd F f vs K Q):zd F f vs L Q:=by
 apply y3 e
 rintro hm ⟨h,pm,es,M,m1,m2,m3,m4,n1,n2,n3,hs⟩
 refine⟨M,hs,by rw[m1];simp,fun hf=>?_⟩
 have cA:∀b d,M b=some d→(M.ak L) b=some d:=fun b d hb=>by simp[Lg.ak,hb]
 refine H h pm (M.ak L) ⟨cA _ _ m1,cA _ _ m2,⟨es,cA _ _ m3,m4⟩,n1,n2,n3,hf _ _ m2 n1,hf _ _ m3 n2,?_⟩
 intro r d hr hd
 cases hM:M r with
 | none=>simp[Lg.ak,hM,hd]
 | some c=>rw[hf r c hM hr]at hd;cases hd
theorem bA.ne (o:bA L t x h pm K){r:Nat}(hr:K r=none):r≠t∧L r=none:=by
 have n:r≠t:=by rintro rfl;rw[o.root]at hr;cases hr
 refine⟨n,?_⟩
 cases e:L r with
 | none=>rfl
 | some d=>rw[o.old r d n e]at hr;cases hr
theorem bA.nes (o:bA L t x h pm K){r:Nat}(hr:K r=none):r≠t∧r≠h∧r≠pm:=by
 obtain⟨es,e1,_⟩:=o.aK
 refine⟨?_,?_,?_⟩<;>rintro rfl
 ·rw[o.root]at hr;cases hr
 ·rw[o.heap]at hr;cases hr
 ·rw[e1]at hr;cases hr
theorem bA.bW (o:bA L t x h pm K){r:Nat}(hr:K r=none)(d:LC):bA (L.put r d) t x h pm (K.put r d):=by
 obtain⟨es,e1,e2⟩:=o.aK
 obtain⟨c1,c2,c3⟩:=o.nes hr
 refine⟨by rw[zb _ _ _ (Ne.symm c1)];exact o.root,by rw[zb _ _ _ (Ne.symm c2)];exact o.heap,⟨es,by rw[zb _ _ _ (Ne.symm c3)];exact e1,e2⟩,o.n1,o.n2,o.n3,
  by rw[zb _ _ _ (Ne.symm c2)];exact o.f1,by rw[zb _ _ _ (Ne.symm c3)];exact o.f2,?_⟩
 intro y k hy hk
 rw[Lg.ah]at hk ⊢
 split
 ·rename_i h9;rw[if_pos h9]at hk;exact hk
 ·rename_i h9;rw[if_neg h9]at hk;exact o.old y k hy hk
theorem bA.bY (o:bA L t x h pm K){r:Nat}{d:LC}(hr:r≠t)(hd:L r=some d)(d':LC):bA (L.put r d') t x h pm (K.put r d'):=by
 obtain⟨es,e1,e2⟩:=o.aK
 have c2:r≠h:=by rintro rfl;rw[o.f1]at hd;cases hd
 have c3:r≠pm:=by rintro rfl;rw[o.f2]at hd;cases hd
 refine⟨by rw[zb _ _ _ (Ne.symm hr)];exact o.root,by rw[zb _ _ _ (Ne.symm c2)];exact o.heap,⟨es,by rw[zb _ _ _ (Ne.symm c3)];exact e1,e2⟩,o.n1,o.n2,o.n3,
  by rw[zb _ _ _ (Ne.symm c2)];exact o.f1,by rw[zb _ _ _ (Ne.symm c3)];exact o.f2,?_⟩
 intro y k hy hk
 rw[Lg.ah]at hk ⊢
 split
 ·rename_i h9;rw[if_pos h9]at hk;exact hk
 ·rename_i h9;rw[if_neg h9]at hk;exact o.old y k hy hk
theorem bA.sub (o:bA L0 t x h pm K)(hs:∀r d,r≠t→L r=some d→L0 r=some d):bA L t x h pm K:=by
 have hn:∀r,r≠t→L0 r=none→L r=none:=by
  intro r hr h0
  cases e:L r with
  | none=>rfl
  | some d=>rw[hs r d hr e]at h0;cases h0
 exact⟨o.root,o.heap,o.aK,o.n1,o.n2,o.n3,hn h o.n1 o.f1,hn pm o.n2 o.f2,fun r d hr hd=>o.old r d hr (hs r d hr hd)⟩
theorem bA.Bl (o:bA L t x h pm K)(l:List It)(seq:Int):bA L t { x with l:=l,seq:=seq } h pm (K.put h (.abs (wj h l seq))):=by
 obtain⟨es,e1,e2⟩:=o.aK
 refine⟨by rw[zb _ _ _ (Ne.symm o.n1)];exact o.root,ze _ _ _,⟨es,by rw[zb _ _ _ o.n3];exact e1,e2⟩,o.n1,o.n2,o.n3,o.f1,o.f2,?_⟩
 intro r d hr hd
 have:r≠h:=by rintro rfl;rw[o.f1]at hd;cases hd
 rw[zb _ _ _ this];exact o.old r d hr hd
theorem bA.Bk (o:bA L t x h pm K){es:List (AV×AV)}{f:Int→Option Int}(hm:Fb es f):bA L t { x with pf:=f } h pm (K.put pm (.raw (.map es))):=by
 refine⟨by rw[zb _ _ _ (Ne.symm o.n2)];exact o.root,by rw[zb _ _ _ (Ne.symm o.n3)];exact o.heap,⟨es,ze _ _ _,hm⟩,o.n1,o.n2,o.n3,o.f1,o.f2,?_⟩
 intro r d hr hd
 have:r≠pm:=by rintro rfl;rw[o.f2]at hd;cases hd
 rw[zb _ _ _ this];exact o.old r d hr hd
theorem zd2 (hf:Lz F):zd F AU [] L fun v L'=>∃t,L t=none∧v=.p (some (t,0))∧L'=L.put t (.abs (iS t ⟨[],0,fun _=>none⟩)):=by
 apply zkU hf.code
 unfold DW
 refine (ze7 hf.f19).mono ?_
 rintro _ _ ⟨h,hh,rfl,rfl⟩
 simp
 intro pm u0
 have n1:pm≠h:=by rintro rfl;simp at u0
 rw[zb _ _ _ n1]at u0
 simp[zF,zo,zp,zq]
 intro t ht
 have n2:t≠pm:=by rintro rfl;simp at ht
 have n3:t≠h:=by rintro rfl;simp[Lg.ah,Ne.symm n1]at ht
 rw[zb _ _ _ n2,zb _ _ _ n3]at ht
 have o:bA L t ⟨[],0,fun _=>none⟩ h pm (((L.put h (.abs (wj h [] 0))).put pm (.raw (.map []))).put t (.raw (.cells [.p (some (h,0)),.m (some pm)]))) :=
  ⟨ze _ _ _,by simp[Lg.ah,Ne.symm n3,Ne.symm n1],⟨[],by simp[Lg.ah,Ne.symm n2],Uk⟩,Ne.symm n3,Ne.symm n2,n1,hh,u0,fun r d hr hd=>by
   have c1:r≠h:=by rintro rfl;rw[hh]at hd;cases hd
   have c2:r≠pm:=by rintro rfl;rw[u0]at hd;cases hd
   simp[Lg.ah,hr,c1,c2,hd]⟩
 exact⟨_,o.shut,t,ht,rfl,rfl⟩
theorem W9 (hf:EZ F)(o:bA L t x h pm K)(hl:x.l.length≤1000000)(id:Int) :
  zd F mP [.p (some (t,0)),.i .i64 id] K fun v K'=>v=.b (yQ id x.l).isSome∧bA L t (x.stop id) h pm K':=by
 apply zkH hf.code
 generalize hQ:(fun (v:AV) (K':Lg)=>v=.b (yQ id x.l).isSome∧bA L t (x.stop id) h pm K')=Q
 unfold Dt
 simp[aq,AB.read,zR,o.root]
 refine (Y8 hf.f33 o.heap hl id).mono ?_
 rintro _ _ ⟨rfl,rfl⟩
 have o2:=o.Bl (yS id x.l) x.seq
 obtain⟨es,e1,e2⟩:=o2.aK
 obtain⟨es',hd,hM⟩:=e2.del id
 have o3:=o2.Bk hM
 have key:∀z:It,∀r:Nat,(K.put h (.abs (wj h (yS id x.l) x.seq))) r=none→∀c:LC,
   za F .aa [.p (some (t,0))] ((K.put h (.abs (wj h (yS id x.l) x.seq))).put r c) fun v10 dG=>za F (.aj 1) [v10] dG fun v11 gz=>za F (.ld none) [v11] gz fun v12 iV=>za F .om [v12,.i .i64 id] iV fun _ iU =>
    zm (some (.b (yQ id x.l).isSome)) Q iU:=by
  intro z r hr c
  obtain⟨c1,c2,c3⟩:=o2.nes hr
  have o4:=(o2.bW hr c).Bk hM
  have iC:((K.put h (.abs (wj h (yS id x.l) x.seq))).put r c) t=some (.raw (.cells [.p (some (h,0)),.m (some pm)])):=by rw[zb _ _ _ (Ne.symm c1)];exact o2.root
  have A1:((K.put h (.abs (wj h (yS id x.l) x.seq))).put r c) pm=some (.raw (.map es)):=by rw[zb _ _ _ (Ne.symm c3)];exact e1
  simp[aq,AB.read,zR,iC,Uj,A1,hd]
  refine⟨_,zx.refl _,?_⟩
  subst hQ
  refine⟨rfl,o4.sub fun y d hy hyd=>?_⟩
  have:y≠r:=by rintro rfl;rw[(o2.ne hr).2]at hyd;cases hyd
  rw[zb _ _ _ this];exact hyd
 cases j9:yQ id x.l with
 | none =>
  rw[j9]at key
  simp[wF,It.av]
  intro r hr
  rw[zu (ze _ _ _) (by simp[It.cells]) (by simp[It.cells]) (by simp),zA]
  exact key It.zero r hr _
 | some y =>
  rw[j9]at key
  simp[wF,It.av]
  intro r hr
  rw[zu (ze _ _ _) (by simp[It.cells]) (by simp[It.cells]) (by simp),zA]
  exact key y r hr _
theorem zbs (id:Int)(l:List It):yQ id (yS id l)=none:=by
 unfold yQ yS
 rw[List.find?_eq_none]
 intro y hy
 simp at hy
 simp[hy.2]
theorem vC (id:Int)(l:List It):(yS id l).length≤l.length:=List.length_filter_le _ _
theorem UI (hf:EY F)(o:bA L t x h pm K)(hl:x.l.length<1000000)(hq:0≤x.seq∧x.seq<4611686018427387904)(id when period:Int) :
  zd F mO [.p (some (t,0)),.i .i64 id,.i .i64 when,.i .i64 period] K fun v K'=>v=.i .i64 (x.arm id when period).2∧bA L t (x.arm id when period).1 h pm K':=by
 apply zkF hf.code
 unfold Dm Xs.arm Iq
 generalize hQ:(fun (v:AV) (K':Lg)=>v=.i .i64 (if (decide (min when period<0)||decide (4611686018427387904<max when period))=true then (x,(1:Int))else (x.aP id when period,0)).2 ∧
  bA L t (if (decide (min when period<0)||decide (4611686018427387904<max when period))=true then (x,(1:Int))else (x.aP id when period,0)).1 h pm K')=Q
 by_cases c1:min when period<0
 ·simp[c1]
  refine⟨K,zx.refl _,?_⟩
  subst hQ
  simp[c1,o]
 ·by_cases c2:4611686018427387904<max when period
  ·simp[c1,c2]
   refine⟨K,zx.refl _,?_⟩
   subst hQ
   simp[c1,c2,o]
  ·simp[c1,c2]
   refine (W9 hf.f34 o (by omega) id).mono ?_
   rintro _ K2 ⟨rfl,o2⟩
   obtain⟨es,e1,e2⟩:=o2.aK
   obtain⟨es',hd,hM⟩:=e2.set id period
   have o3:=o2.Bk hM
   have FM:(x.stop id).l.length<1000000:=Nat.lt_of_le_of_lt (vC id x.l) hl
   simp[aq,AB.read,zR,o2.root,Ug,e1,hd,Lg.ah,Ne.symm o2.n2]
   refine (zfc hf.f35 o3.heap FM hq id when).mono ?_
   intro v K4 hv
   have hn:yQ id (x.stop id).l=none:=zbs id x.l
   simp only[hn]at hv
   simp at hv
   obtain⟨rfl,rfl⟩:=hv
   refine⟨_,zx.refl _,?_⟩
   subst hQ
   simp[c1,c2]
   exact o3.Bl _ _
theorem zc1 (hf:Lp F)(o:bA L t x h pm K)(hs:x.l.Pairwise It.lt) :
  zd F AH [.p (some (t,0))] K fun v K'=>v=.ay [.i .i64 x.next.1,.b x.next.2]∧K'=K:=by
 apply zkB hf.code
 generalize hQ:(fun (v:AV) (K':Lg)=>v=.ay [.i .i64 x.next.1,.b x.next.2]∧K'=K)=Q
 unfold Dh
 simp[aq,AB.read,zR,o.root]
 refine (zan hf.f42 o.heap hs).mono ?_
 rintro _ K1 ⟨rfl,rfl⟩
 cases hh:x.l.head? with
 | none =>
  simp[wF,It.av]
  intro r hr
  rw[zu (ze _ _ _) (by simp[It.cells]) (by simp[It.cells]) (by simp),zA]
  simp[aq,AB.read,zR,zo,It.cells,It.zero]
  refine⟨K1,((yu.refl _).put hr _).cj,?_⟩
  subst hQ
  simp[Xs.next,hh]
 | some y =>
  simp[wF,It.av]
  intro r hr
  rw[zu (ze _ _ _) (by simp[It.cells]) (by simp[It.cells]) (by simp),zA]
  simp[aq,AB.read,zR,zo,It.cells]
  refine⟨K1,((yu.refl _).put hr _).cj,?_⟩
  subst hQ
  simp[Xs.next,hh]
def vU (d:Int×Int×Int)(ok:Bool):AV:=.ay [.agg [.i .i64 d.1,.i .i64 d.2.1,.i .i64 d.2.2],.b ok]
theorem zcZ (hf:Hf F)(o:bA L t x h pm K)(hs:x.l.Pairwise It.lt)(hl:x.l.length<1000000)(hq:0≤x.seq∧x.seq<4611686018427387904)(now:Int) :
  zd F oH [.p (some (t,0)),.i .i64 now] K fun v K'=>v=vU (x.take now).2.1 (x.take now).2.2∧bA L t (x.take now).1 h pm K':=by
 apply zkz hf.code
 generalize hQ:(fun (v:AV) (K':Lg)=>v=vU (x.take now).2.1 (x.take now).2.2∧bA L t (x.take now).1 h pm K')=Q
 unfold Df De
 simp
 intro rc hrc
 have o1:=o.bW hrc (.raw (.cells [.i .i64 0,.i .i64 0,.i .i64 0]))
 have mJ:=o.ne hrc
 refine (zc1 hf.f43 o1 hs).mono ?_
 rintro _ _ ⟨rfl,rfl⟩
 unfold Dd
 -- nothing is due
 have idle:∀{K1:Lg},K1=K.put rc (.raw (.cells [.i .i64 0,.i .i64 0,.i .i64 0]))→x.take now=(x,(0,0,0),false) →
   jy 3 K1 (fun _ dG=>zm (yz Env.nil Env.nil dG [.cell (.c (.p (some (rc,0)))) (some 3),.tmp (.c (.b false))]) Q dG) [.p (some (rc,0)),.agg [.i .i64 0,.i .i64 0,.i .i64 0]]:=by
  rintro K1 rfl gu
  rw[zu (ze _ _ _) (by simp) (by simp) (by simp)]
  rw[zX _ _ (ze _ _ _) (by simp[zo])]
  refine⟨K,?_,?_⟩
  ·rw[zA];exact ((yu.refl _).put hrc _).cj
  ·subst hQ
   rw[gu]
   exact⟨by simp[zo,vU],o⟩
 cases hh:x.l.head? with
 | none =>
  have gu:x.take now=(x,(0,0,0),false):=by simp[Xs.take,hh]
  simp[Xs.next,hh,zF]
  exact idle rfl gu
 | some y =>
  by_cases c1:now<0
  ·have gu:x.take now=(x,(0,0,0),false):=by simp[Xs.take,hh,c1]
   simp[Xs.next,hh,zF,c1]
   exact idle rfl gu
  ·by_cases c2:now<y.w
   ·have gu:x.take now=(x,(0,0,0),false):=by simp[Xs.take,hh,c2]
    simp[Xs.next,hh,zF,c1,c2]
    exact idle rfl gu
   ·simp[Xs.next,hh,c1,c2]
    unfold Dc
    simp[aq,AB.read,zR,Lg.ah,o1.root,Ne.symm mJ.1,o.root]
    refine (ze6 hf.f44 o1.heap hs (by omega)).mono ?_
    rintro _ K2 ⟨rfl,gE⟩
    obtain⟨rest,hxl⟩:∃rest,x.l=y::rest:=by
     cases hx:x.l with
     | nil=>rw[hx]at hh;cases hh
     | cons a b=>rw[hx]at hh;simp at hh;subst hh;exact⟨b,rfl⟩
    simp only[hxl]at gE
    rw[←hxl]at gE
    subst gE
    have o2:=o1.Bl (yS y.id x.l) x.seq
    rw[hh]
    simp[wF,It.av]
    intro x7 MM
    rw[zu (ze _ _ _) (by simp[It.cells]) (by simp[It.cells]) (by simp),zA,show zo [AV.i .i64 0,.i .i64 0,.i .i64 0] 0 y.cells=y.cells by simp[zo,It.cells]]
    have n7:=o2.ne MM
    have o3:=o2.bW MM (.raw (.cells y.cells))
    obtain⟨L3,Nf⟩:∃L3,L3=(L.put rc (.raw (.cells [.i .i64 0,.i .i64 0,.i .i64 0]))).put x7 (.raw (.cells y.cells)):=⟨_,rfl⟩
    obtain⟨K3,EP⟩:∃K3,K3=((K.put rc (.raw (.cells [.i .i64 0,.i .i64 0,.i .i64 0]))).put h (.abs (wj h (yS y.id x.l) x.seq))).put x7 (.raw (.cells y.cells)):=⟨_,rfl⟩
    rw[←Nf,←EP]at o3
    rw[←EP]
    have n7r:x7≠rc:=by
     rintro rfl
     have:=n7.2
     rw[ze]at this;cases this
    have r7:L3 x7=some (.raw (.cells y.cells)):=by rw[Nf];exact ze _ _ _
    have Qk:L3 rc=some (.raw (.cells [.i .i64 0,.i .i64 0,.i .i64 0])):=by rw[Nf,zb _ _ _ (Ne.symm n7r)];exact ze _ _ _
    have hsub:∀r d,r≠t→L r=some d→L3 r=some d:=by
     intro r d hr hd
     have c1:r≠rc:=by rintro rfl;rw[mJ.2]at hd;cases hd
     have c2:r≠x7:=by
      rintro rfl
      have:=n7.2
      rw[zb _ _ _ c1,hd]at this;cases this
     rw[Nf];simp[Lg.ah,c1,c2,hd]
    clear EP Nf o2 o1 MM
    obtain⟨es,e1,e2⟩:=o3.aK
    have k7:=o3.old x7 _ n7.1 r7
    unfold Db
    obtain⟨p,hp⟩:∃p,p=(x.pf y.id).getD 0:=⟨_,rfl⟩
    have hlk:vi (.i .i64 0) false K3 [.m (some pm),.i .i64 y.id]=some (.i .i64 p):=by
     simp[vi,e1,e2.find y.id,hp]
     cases x.pf y.id<;>rfl
    simp[aq,AB.read,zR,o3.root,k7,It.cells,hlk]
    unfold Da
    obtain⟨es',hd,hM⟩:=e2.del y.id
    have o4:=o3.Bk hM
    have n7p:x7≠pm:=by rintro rfl;rw[o3.f2]at r7;cases r7
    simp[aq,AB.read,zR,o3.root,k7,It.cells,Uj,e1,hd]
    obtain⟨K4,Ng⟩:∃K4,K4=K3.put pm (.raw (.map es')):=⟨_,rfl⟩
    rw[←Ng]at o4 ⊢
    have k47:=o4.old x7 _ n7.1 r7
    -- Bh end: what is due is SE out
    have fin:∀{z:Xs} {K':Lg},bA L3 t z h pm K'→(x.take now)=(z,(y.id,y.w,now),true) →
      jy 3 K' (fun _ A7=>zm (yz Env.nil Env.nil A7 [.cell (.c (.p (some (rc,0)))) (some 3),.tmp (.c (.b true))]) Q A7) [.p (some (rc,0)),.agg [.i .i64 y.id,.i .i64 y.w,.i .i64 now]]:=by
     intro z K' o' hz
     have HE:=o'.old rc _ mJ.1 Qk
     rw[zu HE (by simp) (by simp) (by simp)]
     rw[zX _ _ (ze _ _ _) (by simp[zo])]
     have o2:=(o'.bY mJ.1 Qk (.raw (.cells (zo [.i .i64 0,.i .i64 0,.i .i64 0] 0 [.i .i64 y.id,.i .i64 y.w,.i .i64 now])))).sub (L:=L) (fun r d hr hd=>by
      have c1:r≠rc:=by rintro rfl;rw[mJ.2]at hd;cases hd
      rw[zb _ _ _ c1];exact hsub r d hr hd)
     refine⟨_,zx.refl _,?_⟩
     subst hQ
     rw[hz]
     exact⟨by simp[zo,vU],o2⟩
    have EC:x.take now=(if (zy y.w p now).2=0∧now<(zy y.w p now).1 then ((x.stop y.id).arm y.id (zy y.w p now).1 p).1 else x.stop y.id,(y.id,y.w,now),true):=by
     simp[Xs.take,hh,c1,c2,←hp]
    unfold C9
    refine (W1 hf.f3 y.w p now K4).mono ?_
    rintro _ K4 ⟨rfl,rfl⟩
    have hst:bA L3 t (x.stop y.id) h pm K4:=o4
    by_cases d1:(zy y.w p now).2=0
    ·by_cases d2:now<(zy y.w p now).1
     ·simp[d1,d2,aq,AB.read,zR,k47,It.cells]
      refine (UI hf.f36 hst (Nat.lt_of_le_of_lt (vC y.id x.l) hl) hq y.id _ p).mono ?_
      rintro _ K5 ⟨rfl,o5⟩
      have k57:=o5.old x7 _ n7.1 r7
      simp[aq,AB.read,zR,k57,It.cells,zF,zo,zp,zq]
      refine fin o5 ?_
      rw[EC,if_pos ⟨d1,d2⟩]
     ·simp[d1,d2,aq,AB.read,zR,k47,It.cells,zF,zo,zp,zq]
      refine fin hst ?_
      rw[EC,if_neg (fun hc=>d2 hc.2)]
    ·simp[d1,aq,AB.read,zR,k47,It.cells,zF,zo,zp,zq]
     refine fin hst ?_
     rw[EC,if_neg (fun hc=>d1 hc.1)]
end
end
section
variable {F:Nat→Option aT}
section
variable {L:Lg} {t:Nat} {x:Xs}
theorem zc0 (hf:EZ F)(e:L t=some (.abs (iS t x)))(hl:x.l.length≤1000000)(id:Int) :
  zd F mP [.p (some (t,0)),.i .i64 id] L fun v L'=>v=.b (yQ id x.l).isSome∧L'=L.put t (.abs (iS t (x.stop id))):=by
 apply Z5 e
 intro h pm K o
 refine (W9 hf o hl id).cj ?_
 rintro _ K' ⟨rfl,o'⟩
 exact⟨_,o'.shut,rfl,rfl⟩
theorem zd3 (hf:EY F)(e:L t=some (.abs (iS t x)))(hl:x.l.length<1000000)(hq:0≤x.seq∧x.seq<4611686018427387904)(id when period:Int) :
  zd F mO [.p (some (t,0)),.i .i64 id,.i .i64 when,.i .i64 period] L fun v L'=>v=.i .i64 (x.arm id when period).2∧L'=L.put t (.abs (iS t (x.arm id when period).1)):=by
 apply Z5 e
 intro h pm K o
 refine (UI hf o hl hq id when period).cj ?_
 rintro _ K' ⟨rfl,o'⟩
 exact⟨_,o'.shut,rfl,rfl⟩
theorem W8 (hf:Hf F)(e:L t=some (.abs (iS t x)))(hs:x.l.Pairwise It.lt)(hl:x.l.length<1000000)(hq:0≤x.seq∧x.seq<4611686018427387904)(now:Int) :
  zd F oH [.p (some (t,0)),.i .i64 now] L fun v L'=>v=vU (x.take now).2.1 (x.take now).2.2∧L'=L.put t (.abs (iS t (x.take now).1)):=by
 apply Z5 e
 intro h pm K o
 refine (zcZ hf o hs hl hq now).cj ?_
 rintro _ K' ⟨rfl,o'⟩
 exact⟨_,o'.shut,rfl,rfl⟩
end
structure On where
 kind:Int
 data:Int
 c:Option Nat
 gen:Int
def On.cells (o:On):List AV:=[.i .i64 o.kind,.i .i64 o.data,ptr o.c,.i .i64 o.gen]
def yT:List On→List AV
 | []=>[]
 | o::r=>o.cells++yT r
theorem Yn:∀(A:List On),(yT A).length=A.length * 4
 | []=>rfl
 | w::A=>by simp[yT,Yn A,On.cells];omega
theorem Yo:∀(A B:List On),yT (A++B)=yT A++yT B
 | [],_=>rfl
 | w::A,B=>by simp[yT,Yo A B]
theorem ZC:∀(ws:List On) (i k:Nat) (w:On),ws[i]?=some w→k<4→(yT ws)[i * 4+k]?=w.cells[k]?
 | [],i,k,w,h,_=>by simp at h
 | a::r,0,k,w,h,hk=>by
  simp at h;subst h
  simp only[yT,Nat.zero_mul,Nat.zero_add]
  rw[List.getElem?_append_left (by simp[On.cells];omega)]
 | a::r,i+1,k,w,h,hk=>by
  have:=ZC r i k w (by simpa using h) hk
  have e:(i+1) * 4+k=a.cells.length+(i * 4+k):=by simp[On.cells];omega
  rw[e]
  simp only[yT]
  rw[List.getElem?_append_right (by omega),Nat.add_sub_cancel_left]
  exact this
theorem XX:∀(ws:List On) (i:Nat) (w:On),ws[i]?=some w→((yT ws).drop (i * 4)).take 4=w.cells∧i * 4+4≤(yT ws).length
 | [],i,w,h=>by simp at h
 | a::r,0,w,h=>by simp at h;subst h;simp[yT,On.cells]
 | a::r,i+1,w,h=>by
  have:=XX r i w (by simpa using h)
  have e:(i+1) * 4=i * 4+1+1+1+1:=by omega
  rw[e]
  simp only[yT,On.cells,List.cons_append,List.nil_append,List.drop_succ_cons,List.length_cons]
  exact⟨this.1,by omega⟩
theorem Vv:∀(ws:List On) (i:Nat) (w:On) (g:Int),ws[i]?=some w→(yT ws).set (i * 4+3) (.i .i64 g)=yT (ws.set i { w with gen:=g })
 | [],i,w,g,h=>by simp at h
 | a::r,0,w,g,h=>by simp at h;subst h;simp[yT,On.cells]
 | a::r,i+1,w,g,h=>by
  have:=Vv r i w g (by simpa using h)
  have e:(i+1) * 4+3=(i * 4+3)+1+1+1+1:=by omega
  rw[e,List.set_cons_succ]
  simp only[yT,On.cells,List.cons_append,List.nil_append,List.set_cons_succ]
  rw[this]
structure bk where
 af:List On
 x:Xs
 named:Int
def SSl (L:Lg)(s t:Nat)(af:List On)(sv:AV)(K:Lg):Prop :=
 (af=[]∧sv=.sl none 0 0 0)∨∃b,sv=.sl (some (b,0)) af.length af.length 4∧K b=some (.raw (.cells (yT af)))∧b≠s∧b≠t∧L b=none∧0<af.length
def xH (L:Lg)(s:Nat)(σ:bk)(t:Nat)(K:Lg):Prop :=
 ∃sv,K s=some (.raw (.cells [sv,.p (some (t,0)),.i .i64 σ.named]))∧K t=some (.abs (iS t σ.x))∧t≠s∧L t=none∧SSl L s t σ.af sv K∧∀r d,r≠s→L r=some d→K r=some d
def Z2 (s:Nat)(σ:bk)(hp:Hp):Prop:=∃t M,xH Lg.nil s σ t M∧Sat M hp
section
variable {L L0 K:Lg} {s t:Nat} {σ:bk}
theorem xH.shut (o:xH L s σ t K):zx K (L.put s (.abs (Z2 s σ))):=by
 obtain⟨sv,h1,h2,h3,h4,h5,h6⟩:=o
 rcases h5 with⟨g1,rfl⟩ | ⟨b,rfl,a2,a3,a4,a5,a6⟩
 ·refine yZ (fun r=>r=s∨r=t) (.inl rfl) ?_ ?_ (.inl ⟨_,h1⟩) ?_
  ·intro r d hr hd;simp only[not_or]at hr;exact h6 r d hr.1 hd
  ·rintro r (rfl | rfl) hr
   ·exact absurd rfl hr
   ·exact h4
  ·intro M hm hM hN hs
   exact⟨t,M,⟨_,by rw[hM s (.inl rfl)];exact h1,by rw[hM t (.inr rfl)];exact h2,h3,rfl,.inl ⟨g1,rfl⟩,fun r d _ hd=>by cases hd⟩,hs⟩
 ·refine yZ (fun r=>r=s∨r=t∨r=b) (.inl rfl) ?_ ?_ (.inl ⟨_,h1⟩) ?_
  ·intro r d hr hd;simp only[not_or]at hr;exact h6 r d hr.1 hd
  ·rintro r (rfl | rfl | rfl) hr
   ·exact absurd rfl hr
   ·exact h4
   ·exact a5
  ·intro M hm hM hN hs
   exact⟨t,M,⟨_,by rw[hM s (.inl rfl)];exact h1,by rw[hM t (.inr (.inl rfl))];exact h2,h3,rfl,.inr ⟨b,rfl,by rw[hM b (.inr (.inr rfl))];exact a2,a3,a4,rfl,a6⟩,fun r d _ hd=>by cases hd⟩,hs⟩
theorem vd {f:Nat}{vs:List AV}{Q:AV→Lg→Prop}(e:L s=some (.abs (Z2 s σ)))(H:∀t K,xH L s σ t K→zd F f vs K Q):zd F f vs L Q:=by
 apply y3 e
 rintro hm ⟨t,M,⟨sv,h1,h2,h3,h4,h5,h6⟩,hs⟩
 refine⟨M,hs,by rw[h1];simp,fun hf=>?_⟩
 have cA:∀b d,M b=some d→(M.ak L) b=some d:=fun b d hb=>by simp[Lg.ak,hb]
 refine H t (M.ak L) ⟨sv,cA _ _ h1,cA _ _ h2,h3,hf _ _ h2 h3,?_,?_⟩
 ·rcases h5 with h5 | ⟨b,a1,a2,a3,a4,a5,a6⟩
  ·exact .inl h5
  ·exact .inr ⟨b,a1,cA _ _ a2,a3,a4,hf _ _ a2 a3,a6⟩
 ·intro r d hr hd
  cases hM:M r with
  | none=>simp[Lg.ak,hM,hd]
  | some c=>rw[hf r c hM hr]at hd;cases hd
theorem xH.back (o:xH L s σ t K)(e:L s=some (.abs (Z2 s σ))):zx K L:=by
 have:=o.shut
 rwa [ye L s _ e]at this
theorem xH.ne (o:xH L s σ t K){r:Nat}(hr:K r=none):r≠s∧L r=none:=by
 obtain⟨sv,h1,h2,h3,h4,h5,h6⟩:=o
 have n:r≠s:=by rintro rfl;rw[h1]at hr;cases hr
 refine⟨n,?_⟩
 cases e:L r with
 | none=>rfl
 | some d=>rw[h6 r d n e]at hr;cases hr
theorem xH.old (o:xH L s σ t K){r:Nat}{d:LC}(hr:r≠s)(hd:L r=some d):K r=some d:=by
 obtain⟨sv,h1,h2,h3,h4,h5,h6⟩:=o
 exact h6 r d hr hd
theorem xH.bW (o:xH L s σ t K){r:Nat}(hr:K r=none)(d:LC):xH (L.put r d) s σ t (K.put r d):=by
 obtain⟨sv,h1,h2,h3,h4,h5,h6⟩:=o
 have nb:∀{y:Nat} {k:LC},K y=some k→y≠r:=fun hx ie=>by rw[ie,hr]at hx;cases hx
 refine⟨sv,by rw[zb _ _ _ (nb h1)];exact h1,by rw[zb _ _ _ (nb h2)];exact h2,h3,by rw[zb _ _ _ (nb h2)];exact h4,?_,?_⟩
 ·rcases h5 with h5 | ⟨b,a1,a2,a3,a4,a5,a6⟩
  ·exact .inl h5
  ·exact .inr ⟨b,a1,by rw[zb _ _ _ (nb a2)];exact a2,a3,a4,by rw[zb _ _ _ (nb a2)];exact a5,a6⟩
 ·intro y k hy hk
  rw[Lg.ah]at hk ⊢
  split
  ·rename_i h9;rw[if_pos h9]at hk;exact hk
  ·rename_i h9;rw[if_neg h9]at hk;exact h6 y k hy hk
theorem xH.bY (o:xH L s σ t K){r:Nat}{d:LC}(hr:r≠s)(hd:L r=some d)(d':LC):xH (L.put r d') s σ t (K.put r d'):=by
 obtain⟨sv,h1,h2,h3,h4,h5,h6⟩:=o
 have c2:t≠r:=by rintro rfl;rw[h4]at hd;cases hd
 refine⟨sv,by rw[zb _ _ _ (Ne.symm hr)];exact h1,by rw[zb _ _ _ c2];exact h2,h3,by rw[zb _ _ _ c2];exact h4,?_,?_⟩
 ·rcases h5 with h5 | ⟨b,a1,a2,a3,a4,a5,a6⟩
  ·exact .inl h5
  ·have c3:b≠r:=by rintro rfl;rw[a5]at hd;cases hd
   exact .inr ⟨b,a1,by rw[zb _ _ _ c3];exact a2,a3,a4,by rw[zb _ _ _ c3];exact a5,a6⟩
 ·intro y k hy hk
  rw[Lg.ah]at hk ⊢
  split
  ·rename_i h9;rw[if_pos h9]at hk;exact hk
  ·rename_i h9;rw[if_neg h9]at hk;exact h6 y k hy hk
theorem xH.sub (o:xH L0 s σ t K)(hs:∀r d,r≠s→L r=some d→L0 r=some d):xH L s σ t K:=by
 obtain⟨sv,h1,h2,h3,h4,h5,h6⟩:=o
 have hn:∀r,r≠s→L0 r=none→L r=none:=by
  intro r hr h0
  cases e:L r with
  | none=>rfl
  | some d=>rw[hs r d hr e]at h0;cases h0
 refine⟨sv,h1,h2,h3,hn t h3 h4,?_,fun r d hr hd=>h6 r d hr (hs r d hr hd)⟩
 rcases h5 with h5 | ⟨b,a1,a2,a3,a4,a5,a6⟩
 ·exact .inl h5
 ·exact .inr ⟨b,a1,a2,a3,a4,hn b a3 a5,a6⟩
theorem xH.Bi (o:xH L s σ t K)(x:Xs):xH L s { σ with x:=x } t (K.put t (.abs (iS t x))):=by
 obtain⟨sv,h1,h2,h3,h4,h5,h6⟩:=o
 refine⟨sv,by rw[zb _ _ _ (Ne.symm h3)];exact h1,ze _ _ _,h3,h4,?_,?_⟩
 ·rcases h5 with h5 | ⟨b,a1,a2,a3,a4,a5,a6⟩
  ·exact .inl h5
  ·exact .inr ⟨b,a1,by rw[zb _ _ _ a4];exact a2,a3,a4,a5,a6⟩
 ·intro r d hr hd
  have:r≠t:=by rintro rfl;rw[h4]at hd;cases hd
  rw[zb _ _ _ this];exact h6 r d hr hd
def bk.has (σ:bk)(id:Int):Bool:=decide (0≤id)&&decide (id<σ.af.length)
theorem zcJ (hf:Ll F)(o:xH L s σ t K)(id:Int):zd F oG [.p (some (s,0)),.i .i64 id] K fun v K'=>v=.b (σ.has id)∧K'=K:=by
 obtain⟨sv,h1,h2,h3,h4,h5,h6⟩:=o
 apply NU hf.code
 unfold nI bk.has
 by_cases c1:0≤id
 ·rcases h5 with⟨g1,rfl⟩ | ⟨b,rfl,a2,a3,a4,a5,a6⟩
  ·have:¬id<0:=by omega
   simp[c1,aq,AB.read,zR,h1,g1]
  ·simp[c1,aq,AB.read,zR,h1]
 ·simp[c1]
theorem zcS (hf:Lw F)(n:Int):zd F AQ [.i .i64 n] L fun v L'=>v=.b (decide (n<0)||decide (4611686018427387904<n))∧L'=L:=by
 apply zkR hf.code
 unfold DT
 by_cases c1:n<0<;>simp[c1]
theorem zec (hf:Ly F):zd F AT [] L fun v L'=>∃s,L s=none∧v=.p (some (s,0))∧L'=L.put s (.abs (Z2 s ⟨[],⟨[],0,fun _=>none⟩,0⟩)):=by
 apply zkT hf.code
 unfold DV
 refine (zd2 hf.f20).mono ?_
 rintro _ _ ⟨t,ht,rfl,rfl⟩
 simp[zF,zo,zp,zq]
 intro s hs
 have n1:s≠t:=by rintro rfl;simp at hs
 rw[zb _ _ _ n1]at hs
 have o:xH L s ⟨[],⟨[],0,fun _=>none⟩,0⟩ t ((L.put t (.abs (iS t ⟨[],0,fun _=>none⟩))).put s (.raw (.cells [.sl none 0 0 0,.p (some (t,0)),.i .i64 0]))) :=
  ⟨_,ze _ _ _,by rw[zb _ _ _ (Ne.symm n1),ze],Ne.symm n1,ht,.inl ⟨rfl,rfl⟩,fun r d hr hd=>by
   have c1:r≠t:=by rintro rfl;rw[ht]at hd;cases hd
   rw[zb _ _ _ hr,zb _ _ _ c1];exact hd⟩
 exact⟨_,o.shut,s,hs,rfl,rfl⟩
theorem bk.dU {σ:bk}{id:Int}(h:σ.has id=true):∃i:Nat,id=(i:Int)∧i<σ.af.length:=by
 simp[bk.has]at h
 obtain⟨i,rfl⟩:=Int.eq_ofNat_of_zero_le h.1
 exact⟨i,rfl,by omega⟩
def bk.one (σ:bk)(id:Int):Option On:=if σ.has id=true then σ.af[id.toNat]? else none
end
end
section
variable {F:Nat→Option aT}
def bk.aP (σ:bk)(i:Nat)(w:On)(now d:Int):bk :=
 { σ with af:=σ.af.set i { w with gen:=w.gen+1 },x:=(σ.x.arm i (zB now (max d 0)) (if w.kind=2 then min d 4611686018427387904 else 0)).1 }
structure bk.Ni (σ:bk)(n:Nat)(q:Int):Prop where
 len:σ.x.l.length<n
 pos:0≤σ.x.seq
 seq:σ.x.seq<q
 named:0≤σ.named∧σ.named≤64
 af:σ.af.length<n
section
variable {L K:Lg} {s t:Nat} {σ:bk}
theorem zgO (hf:Hi F)(o:xH L s σ t K){i:Nat}{w:On}(hw:σ.af[i]?=some w)(hx:σ.x.l.length<1000000)(hq:0≤σ.x.seq∧σ.x.seq<4611686018427387904)(hg:0≤w.gen∧w.gen<4611686018427387904)(now d:Int) :
  zd F AJ [.p (some (s,0)),.i .i64 i,.i .i64 now,.i .i64 d] K fun v K'=>v=.ay []∧xH L s (σ.aP i w now d) t K':=by
 have hi:i<σ.af.length:=by
  rcases Nat.lt_or_ge i σ.af.length with h | h
  ·exact h
  ·rw[List.getElem?_eq_none h]at hw;cases hw
 apply zkE hf.code
 generalize hQ:(fun (v:AV) (K':Lg)=>v=.ay []∧xH L s (σ.aP i w now d) t K')=Q
 unfold Dl Dk
 have o':=o
 obtain⟨sv,h1,h2,h3,h4,h5,h6⟩:=o'
 rcases h5 with⟨g1,rfl⟩ | ⟨b,rfl,a2,a3,a4,a5,a6⟩
 ·rw[g1]at hi;simp at hi
 have ei:(i:Int)<(σ.af.length:Int):=by omega
 have g0:=ZC σ.af i 0 w hw (by omega)
 have g3:=ZC σ.af i 3 w hw (by omega)
 have gat:=XX σ.af i w hw
 have hle:i * 4+3+1≤(yT σ.af).length:=by have:=gat.2;omega
 have hlt:i * 4+3<(yT σ.af).length:=by omega
 simp[On.cells]at g0 g3
 have w1:wr .i64 (w.gen+1)=w.gen+1:=zT (by omega) (by omega)
 have key:∀p:Int,p=(if w.kind=2 then min d 4611686018427387904 else 0)→∀K0:Lg,K0=K→iZ F Q (.p (some (s,0))) (.i .i64 i) (.i .i64 now) (.i .i64 d) (.i .i64 p) K0:=by
  rintro p hp K0 rfl
  unfold iZ
  simp[aq,AB.read,zR,h1]
  refine (vL hf.f2 now (max d 0) _).mono ?_
  rintro _ K1 ⟨rfl,rfl⟩
  refine (zd3 hf.f36 h2 hx hq i (zB now (max d 0)) p).mono ?_
  rintro _ K2 ⟨rfl,rfl⟩
  have o2:=o.Bi (σ.x.arm i (zB now (max d 0)) p).1
  refine⟨⟨?_,trivial⟩,?_⟩
  ·simp[yb,yC,XT,aq,AB.read,zR,h1]
  ·have gv:(K1.put t (.abs (iS t (σ.x.arm i (zB now (max d 0)) p).1))) s=some (.raw (.cells [.sl (some (b,0)) σ.af.length σ.af.length 4,.p (some (t,0)),.i .i64 σ.named])):=by rw[zb _ _ _ (Ne.symm h3)];exact h1
   have bT:(K1.put t (.abs (iS t (σ.x.arm i (zB now (max d 0)) p).1))) b=some (.raw (.cells (yT σ.af))):=by rw[zb _ _ _ a4];exact a2
   simp[aq,AB.read,zR,gv,yn _ _ _ 4 b 0 σ.af.length σ.af.length 4 .i64 (i:Int) (Int.natCast_nonneg _) ei,bT,g3,w1]
   rw[zD bT hlt rfl,Vv σ.af i w (w.gen+1) hw]
   refine⟨_,zx.refl _,?_⟩
   subst hQ
   refine⟨rfl,.sl (some (b,0)) σ.af.length σ.af.length 4,?_,?_,h3,h4,.inr ⟨b,by simp[bk.aP],by simp[bk.aP],a3,a4,a5,by simpa[bk.aP]using a6⟩,?_⟩
   ·rw[zb _ _ _ (Ne.symm a3)];exact gv
   ·rw[zb _ _ _ (Ne.symm a4),ze];simp[bk.aP,hp]
   ·intro r e hr he
    have c1:r≠b:=by rintro rfl;rw[a5]at he;cases he
    have c2:r≠t:=by rintro rfl;rw[h4]at he;cases he
    rw[zb _ _ _ c1,zb _ _ _ c2];exact h6 r e hr he
 simp[aq,AB.read,zR,h1,yn _ _ _ 4 b 0 σ.af.length σ.af.length 4 .i64 (i:Int) (Int.natCast_nonneg _) ei,a2,g0]
 refine⟨fun hk=>?_,fun hk=>?_⟩
 ·exact key _ (by rw[if_pos hk]) _ rfl
 ·exact key 0 (by rw[if_neg hk]) _ rfl
theorem On.fS (w:On):w.cells.all AV.one=true:=by simp[On.cells,ptr]
theorem zji (hf:Hi F)(o:xH L s σ t K){w:On}(hw0:w.gen=0)(hx:σ.x.l.length<1000000)(hq:0≤σ.x.seq∧σ.x.seq<4611686018427387904)(ho:σ.af.length<1000000)(now d:Int){x5:Nat}(h5s:x5≠s)(r5:K x5=some (.raw (.cells w.cells))){Q:AV→Lg→Prop}
  (hQ:∀K',xH L s ({ σ with af:=σ.af++[w] }.aP σ.af.length w now d) t K'→Q (.ay [.i .i64 σ.af.length,.i .i64 0]) K') :
  iX F Q (.p (some (s,0))) (.i .i64 now) (.i .i64 d) (.p (some (x5,0))) K:=by
 have o':=o
 obtain⟨sv,h1,h2,h3,h4,h5,h6⟩:=o'
 unfold iX
 have rc:cut w.cells 0 4=some w.cells:=by simp[cut,On.cells,zp]
 have wl:wr .i64 ((σ.af.length:Int))=(σ.af.length:Int):=zT (by omega) (by omega)
 have hsv:ZM K sv (yT σ.af) σ.af.length 4:=by
  rcases h5 with⟨g1,rfl⟩ | ⟨b,rfl,a2,a3,a4,a5,a6⟩
  ·exact .inl ⟨by simp[g1],by simp[g1,yT],rfl⟩
  ·exact .inr ⟨b,a6,rfl,a2,Yn _⟩
 have Sd:∀b,au sv=some b→b≠s∧b≠t∧L b=none∧K b≠none:=by
  intro b hb
  rcases h5 with⟨g1,rfl⟩ | ⟨b',rfl,a2,a3,a4,a5,a6⟩
  ·simp[au]at hb
  ·simp[au]at hb;subst hb;exact⟨a3,a4,a5,by rw[a2];simp⟩
 have Jd:∀(M:Lg) r,au sv≠some r→(M.ij (au sv)) r=M r:=by
  intro M r hr
  cases hh:au sv with
  | none=>rfl
  | some b=>rw[hh]at hr;simp only[Lg.ij];rw[yL,if_neg];intro h;exact hr (by rw[h])
 simp[aq,AB.read,zR,h1,XT,zH,r5,rc]
 rw[yg (c:=w.cells) _ _ (by simp[On.cells,y7,zF,wa,zo,zp,zq,ptr]) w.fS]
 intro b1 bP
 have nb:∀{y:Nat} {k:LC},K y=some k→y≠b1:=fun hx ie=>by rw[ie,bP]at hx;cases hx
 have Sb:ZM (K.put b1 (.raw (.cells w.cells))) sv (yT σ.af) σ.af.length 4:=by
  rcases hsv with h | ⟨b,c0,c1,c2,c3⟩
  ·exact .inl h
  ·exact .inr ⟨b,c0,c1,by rw[zb _ _ _ (nb c2)];exact c2,c3⟩
 simp
 refine Sb.app (m:=1) (by omega) rfl (by omega) (new:=w.cells) (by simp[zH,AB.read,rc]) (by simp[On.cells]) w.fS (by omega) ?_
 intro b2 bT
 rw[Lg.ah]at bT
 have n12:b2≠b1:=by rintro rfl;simp at bT
 rw[if_neg n12]at bT
 have HB:∀{y:Nat} {k:LC},K y=some k→y≠b2:=fun hx ie=>by rw[ie,bT]at hx;cases hx
 have RM:yT σ.af++w.cells=yT (σ.af++[w]):=by rw[Yo];simp[yT]
 rw[RM]
 have hds:au sv≠some s:=fun h=>(Sd _ h).1 rfl
 have hdt:au sv≠some t:=fun h=>(Sd _ h).2.1 rfl
 obtain⟨M,hM⟩:∃M,M=((K.put b1 (.raw (.cells w.cells))).ij (au sv)).put b2 (.raw (.cells (yT (σ.af++[w])))):=⟨_,rfl⟩
 have Ox:M s=some (.raw (.cells [sv,.p (some (t,0)),.i .i64 σ.named])):=by rw[hM,zb _ _ _ (HB h1),Jd _ _ hds,zb _ _ _ (nb h1)];exact h1
 have hMt:M t=some (.abs (iS t σ.x)):=by rw[hM,zb _ _ _ (HB h2),Jd _ _ hdt,zb _ _ _ (nb h2)];exact h2
 have hMb:M b2=some (.raw (.cells (yT (σ.af++[w])))):=by rw[hM,ze]
 have hMo:∀r d,r≠s→L r=some d→M r=some d:=by
  intro r d hr hd
  have hk:=h6 r d hr hd
  have Ma:au sv≠some r:=fun h=>by rw[(Sd _ h).2.2.1]at hd;cases hd
  rw[hM,zb _ _ _ (HB hk),Jd _ _ Ma,zb _ _ _ (nb hk)];exact hk
 rw[←hM]
 have zlT:b2≠s:=Ne.symm (HB h1)
 have zpP:b2≠t:=Ne.symm (HB h2)
 have zpQ:L b2=none:=(o.ne bT).2
 have oN:xH L s { σ with af:=σ.af++[w] } t (M.put s (.raw (.cells [.sl (some (b2,0)) (σ.af.length+1) (σ.af.length+1) 4,.p (some (t,0)),.i .i64 σ.named]))) :=
  ⟨.sl (some (b2,0)) (σ.af.length+1) (σ.af.length+1) 4,ze _ _ _,by rw[zb _ _ _ h3];exact hMt,h3,h4,.inr ⟨b2,by simp,by rw[zb _ _ _ zlT];exact hMb,zlT,zpP,zpQ,by simp⟩,fun r d hr hd=>by rw[zb _ _ _ hr];exact hMo r d hr hd⟩
 simp[aq,AB.read,zR,Ox,zD Ox,wl]
 refine (zgO hf oN (i:=σ.af.length) (w:=w) (by simp) hx hq (by omega) now d).mono ?_
 rintro _ K' ⟨rfl,oR⟩
 have oR':=oR
 obtain⟨ey,k1,k2,k3,k4,k5,k6⟩:=oR'
 have:=hQ K' oR
 rcases k5 with⟨g1,rfl⟩ | ⟨b',rfl,e2,e3,e4,e5,e6⟩
 ·simp[bk.aP]at g1
 ·simp[aq,AB.read,zR,k1,wl,bk.aP]
  exact⟨_,zx.refl _,by simpa[bk.aP]using this⟩
def GB (now:Int):Bool:=decide (now<0)||decide (4611686018427387904<now)
def bk.make (σ:bk)(w:On)(now d:Int):bk×Int×Int :=
 if GB now=true∨w.data<0∨(w.kind=2∧d<1)then (σ,0,1)
 else if w.kind≠4∧64≤σ.named then (σ,0,3)
 else ({ σ with named:=if w.kind=4 then σ.named else σ.named+1,af:=σ.af++[w] }.aP σ.af.length w now d,σ.af.length,0)
theorem zeW (hf:Hh F)(o:xH L s σ t K){w:On}(hw0:w.gen=0)(j9:σ.Ni 1000000 4611686018427387904)(now d:Int) :
  zd F mN [.p (some (s,0)),.agg w.cells,.i .i64 now,.i .i64 d] K fun v K'=>v=.ay [.i .i64 (σ.make w now d).2.1,.i .i64 (σ.make w now d).2.2]∧xH L s (σ.make w now d).1 t K':=by
 apply NX hf.code
 generalize hQ:(fun (v:AV) (K':Lg)=>v=.ay [.i .i64 (σ.make w now d).2.1,.i .i64 (σ.make w now d).2.2]∧xH L s (σ.make w now d).1 t K')=Q
 unfold nP
 simp
 rw[zL _ _ _ (by simp[On.cells])]
 intro x5 GM
 have n5:=o.ne GM
 have o1:=o.bW GM (.raw (.cells w.cells))
 have r5:(K.put x5 (.raw (.cells w.cells))) x5=some (.raw (.cells w.cells)):=ze _ _ _
 have hsub:∀r d,r≠s→L r=some d→(L.put x5 (.raw (.cells w.cells))) r=some d:=by
  intro r d hr hd
  have:r≠x5:=by rintro rfl;rw[n5.2]at hd;cases hd
  rw[zb _ _ _ this];exact hd
 have Jx:∀k:Int,σ.make w now d=(σ,0,k)→zm (some (.ay [.i .i64 0,.i .i64 k])) Q (K.put x5 (.raw (.cells w.cells))):=by
  intro k hk
  refine⟨_,zx.refl _,?_⟩
  subst hQ
  rw[hk]
  exact⟨rfl,o1.sub hsub⟩
 unfold nO
 refine (zcS hf.f24 now).mono ?_
 rintro _ K1 ⟨rfl,ki⟩
 rw[←ki]at Jx o1 r5
 clear ki
 rw[show (decide (now<0)||decide (4611686018427387904<now))=GB now from rfl]
 cases zlR:GB now
 case true =>
  have:=Jx 1 (by simp[bk.make,zlR])
  simpa using this
 case false =>
  have rd:∀k:Nat,aq K1 (x5,k) none=w.cells[k]?:=fun k=>zj r5
  by_cases c2:w.data<0
  ·have:=Jx 1 (by simp[bk.make,c2])
   simpa[rd,On.cells,c2]using this
  ·have nos:x5≠s:=n5.1
   by_cases c3:w.kind=2∧d<1
   ·have:=Jx 1 (by simp[bk.make,c3])
    simpa[rd,On.cells,c2,c3]using this
   ·have c4:¬(GB now=true∨w.data<0∨(w.kind=2∧d<1)):=by simp[zlR,c2,c3]
    have o2:=o1.sub hsub
    have RP:=o2
    obtain⟨sv,h1,h2,h3,h4,h5,h6⟩:=RP
    have m3:¬(w.kind≠4∧64≤σ.named)→iY F Q (.p (some (s,0))) (.i .i64 now) (.i .i64 d) (.p (some (x5,0))) K1:=by
     intro c5
     unfold iY
     by_cases c6:w.kind=4
     ·simp[rd,On.cells,c6]
      refine zji hf.f37 o2 hw0 j9.len ⟨j9.pos,j9.seq⟩ j9.af now d nos r5 ?_
      intro K' oR
      subst hQ
      simp only[bk.make,if_neg c4,if_neg c5,if_pos c6]
      exact⟨by trivial,oR⟩
     ·have w1:wr .i64 (σ.named+1)=σ.named+1:=zT (by have:=j9.named;omega) (by have:=j9.named;omega)
      simp[r5,On.cells,c6,aq,AB.read,zR,h1,w1,zD h1]
      have oN:xH L s { σ with named:=σ.named+1 } t (K1.put s (.raw (.cells [sv,.p (some (t,0)),.i .i64 (σ.named+1)]))):=by
       refine⟨sv,ze _ _ _,by rw[zb _ _ _ h3];exact h2,h3,h4,?_,fun r d hr hd=>by rw[zb _ _ _ hr];exact h6 r d hr hd⟩
       rcases h5 with h5 | ⟨b,a1,a2,a3,a4,a5,a6⟩
       ·exact .inl h5
       ·exact .inr ⟨b,a1,by rw[zb _ _ _ a3];exact a2,a3,a4,a5,a6⟩
      refine zji hf.f37 oN hw0 j9.len ⟨j9.pos,j9.seq⟩ j9.af now d nos (by rw[zb _ _ _ nos];exact r5) ?_
      intro K' oR
      subst hQ
      simp only[bk.make,if_neg c4,if_neg c5,if_neg c6]
      exact⟨by trivial,oR⟩
    have zp7:=fun h:w.kind≠4∧64≤σ.named=>Jx 3 (by simp only[bk.make,if_neg c4,if_pos h])
    by_cases c6:w.kind=4
    ·have:=m3 (by simp[c6])
     simpa[rd,On.cells,c2,c6]using this
    ·by_cases c7:64≤σ.named
     ·have:=zp7 ⟨c6,c7⟩
      by_cases c8:w.kind=2
      ·have c9:¬d<1:=fun h=>c3 ⟨c8,h⟩
       simpa[r5,On.cells,c2,c6,c8,c9,aq,AB.read,zR,h1,c7]using this
      ·simpa[r5,On.cells,c2,c6,c8,aq,AB.read,zR,h1,c7]using this
     ·have:=m3 (by simp[c7])
      by_cases c8:w.kind=2
      ·have c9:¬d<1:=fun h=>c3 ⟨c8,h⟩
       simpa[r5,On.cells,c2,c6,c8,c9,aq,AB.read,zR,h1,c7]using this
      ·simpa[r5,On.cells,c2,c6,c8,aq,AB.read,zR,h1,c7]using this
end
end
section
variable {F:Nat→Option aT}
theorem zr {f:Nat}{vs:List AV}{L:Lg}{Q0:AV→Lg→Prop}(h:∀Q:AV→Lg→Prop,(∀v L,Q0 v L→Q v L)→zd F f vs L Q):zd F f vs L Q0:=h Q0 fun _ _ h=>h
def Ch.tm:Ch:=⟨[],1,[],[],true,false,false⟩
def Lg.dF (L:Lg)(c:Option Nat)(x:Ch):Lg:=match c with
 | none=>L
 | some c=>L.put c (.abs (yy c x))
def Lg.Af (L:Lg)(s:Nat)(c:Option Nat)(x:Ch):Prop:=∀a,c=some a→a≠s∧L a=some (.abs (yy a x))
section
variable {L K:Lg} {s t:Nat} {σ:bk}
theorem zeV (hf:Hh F)(e:L s=some (.abs (Z2 s σ))){w:On}(hw0:w.gen=0)(j9:σ.Ni 1000000 4611686018427387904)(now d:Int) :
  zd F mN [.p (some (s,0)),.agg w.cells,.i .i64 now,.i .i64 d] L fun v L'=>v=.ay [.i .i64 (σ.make w now d).2.1,.i .i64 (σ.make w now d).2.2]∧L'=L.put s (.abs (Z2 s (σ.make w now d).1)):=by
 apply vd e
 intro t K o
 refine (zeW hf o hw0 j9 now d).cj ?_
 rintro _ K' ⟨rfl,o'⟩
 exact⟨_,o'.shut,rfl,rfl⟩
theorem zcB {w:On}{now d:Int}(h:(σ.make w now d).2.2≠0):(σ.make w now d).1=σ∧(σ.make w now d).2.1=0:=by
 unfold bk.make at *
 split
 ·exact⟨rfl,rfl⟩
 ·split
  ·exact⟨rfl,rfl⟩
  ·simp_all
theorem za3 (hf:EV F)(e:L s=some (.abs (Z2 s σ)))(j9:σ.Ni 1000000 4611686018427387904)(when ctx:Int) :
  zd F oF [.p (some (s,0)),.i .i64 when,.i .i64 ctx] L fun v L'=>v=.ay [.i .i64 (σ.make ⟨4,ctx,none,0⟩ 0 when).2.1,.i .i64 (σ.make ⟨4,ctx,none,0⟩ 0 when).2.2]∧L'=L.put s (.abs (Z2 s (σ.make ⟨4,ctx,none,0⟩ 0 when).1)):=by
 refine zr ?_
 intro Q hQ
 apply NS hf.code
 unfold nG
 simp[zF,zo,zp,zq]
 refine (zeV hf.f38 e (w:=⟨4,ctx,none,0⟩) rfl j9 0 when).mono ?_
 rintro _ L2 ⟨rfl,rfl⟩
 simp
 exact⟨_,zx.refl _,hQ _ _ ⟨rfl,rfl⟩⟩
theorem zcw {id:Int}{o:On}(h:σ.one id=some o):∃i:Nat,id=(i:Int)∧i<σ.af.length∧σ.af[i]?=some o∧σ.has id=true:=by
 unfold bk.one at h
 split at h
 ·rename_i hh
  obtain⟨i,rfl,hi⟩:=bk.dU hh
  exact⟨i,rfl,hi,by simpa using h,hh⟩
 ·cases h
theorem zcv {id:Int}(h:σ.one id=none):σ.has id=false:=by
 unfold bk.one at h
 cases hh:σ.has id
 ·rfl
 ·obtain⟨i,rfl,hi⟩:=bk.dU hh
  simp[hh]at h;omega
def Ch.left (x:Ch):Bool:=decide (0<x.vals.length)
def Ch.dropped (x:Ch):Ch:={ x with vals:=[] }
def ZR (c:Option Nat)(x:Ch):Bool:=c.isSome&&x.left
theorem zdH (hf:EW F){c:Option Nat}{x:Ch}(hx:x.bH=true)(h:L.Af s c x):zd F mL [ptr c] L fun v L'=>v=.b (ZR c x)∧L'=L.dF c x.dropped:=by
 cases c with
 | none=>exact zax hf
 | some c =>
  refine (zfA hf (h c rfl).2).mono ?_
  intro v L' h
  rw[if_pos hx]at h
  obtain⟨rfl,rfl⟩:=h
  exact⟨by simp[ZR,Ch.left],rfl⟩
theorem zen (hf:Bb F)(e:L s=some (.abs (Z2 s σ)))(hl:σ.x.l.length≤1000000)(id:Int){o:On}(ho:σ.one id=some o){x:Ch}(hx:x.bH=true)(hc:L.Af s o.c x) :
  zd F iK [.p (some (s,0)),.i .i64 id] L fun v L'=>v=.ay [.b (ZR o.c x||(yQ id σ.x.l).isSome),.i .i64 0]∧L'=(L.put s (.abs (Z2 s { σ with x:=σ.x.stop id }))).dF o.c x.dropped:=by
 refine zr ?_
 intro Q hQ
 obtain⟨i,rfl,hi,hg,hh⟩:=zcw ho
 apply vd e
 intro t K op
 apply II hf.code
 unfold iW
 refine (zcJ hf.f49 op i).mono ?_
 rintro _ K0 ⟨rfl,rfl⟩
 have op':=op
 obtain⟨sv,h1,h2,h3,h4,h5,h6⟩:=op'
 simp[hh,aq,AB.read,zR,h1]
 refine (zc0 hf.f34 h2 hl i).mono ?_
 rintro _ K1 ⟨rfl,rfl⟩
 have o2:=op.Bi (σ.x.stop i)
 rcases h5 with⟨g1,rfl⟩ | ⟨b,rfl,a2,a3,a4,a5,a6⟩
 ·rw[g1]at hi;simp at hi
 have ei:(i:Int)<(σ.af.length:Int):=by omega
 have h9:=ZC σ.af i 2 _ hg (by omega)
 simp[On.cells]at h9
 have gv:(K0.put t (.abs (iS t (σ.x.stop i)))) s=some (.raw (.cells [.sl (some (b,0)) σ.af.length σ.af.length 4,.p (some (t,0)),.i .i64 σ.named])):=by rw[zb _ _ _ (Ne.symm h3)];exact h1
 have bT:(K0.put t (.abs (iS t (σ.x.stop i)))) b=some (.raw (.cells (yT σ.af))):=by rw[zb _ _ _ a4];exact a2
 simp[aq,AB.read,zR,gv,yn _ _ _ 4 b 0 σ.af.length σ.af.length 4 .i64 (i:Int) (Int.natCast_nonneg _) ei,bT,h9]
 have zlo:∀y,zx ((K0.put t (.abs (iS t (σ.x.stop i)))).dF o.c y) ((L.put s (.abs (Z2 s { σ with x:=σ.x.stop i }))).dF o.c y):=by
  intro y
  cases jw:o.c with
  | none=>exact o2.shut
  | some c =>
   have h8:=hc c jw
   simp only[Lg.dF]
   rw[yJ _ (Ne.symm h8.1)]
   exact (o2.bY h8.1 h8.2 _).shut
 have Mc:(K0.put t (.abs (iS t (σ.x.stop i)))).Af s o.c x:=by
  intro c jw
  have h8:=hc c jw
  exact⟨h8.1,o2.old h8.1 h8.2⟩
 refine (zdH hf.f50 hx Mc).mono ?_
 rintro _ K2 ⟨rfl,rfl⟩
 cases hd:ZR o.c x
 ·simp
  exact⟨_,zlo _,hQ _ _ ⟨by simp[hd],rfl⟩⟩
 ·simp
  exact⟨_,zlo _,hQ _ _ ⟨by simp[hd],rfl⟩⟩
theorem zeo (hf:Bb F)(e:L s=some (.abs (Z2 s σ)))(id:Int)(ho:σ.one id=none) :
  zd F iK [.p (some (s,0)),.i .i64 id] L fun v L'=>v=.ay [.b false,.i .i64 4]∧L'=L:=by
 refine zr ?_
 intro Q hQ
 apply vd e
 intro t K op
 apply II hf.code
 unfold iW
 refine (zcJ hf.f49 op id).mono ?_
 rintro _ K0 ⟨rfl,rfl⟩
 simp[zcv ho]
 exact⟨_,op.back e,hQ _ _ ⟨rfl,rfl⟩⟩
end
end
section
variable {F:Nat→Option aT}
theorem VH (h:Lh F)(t:Int)(L:Lg):zd F oC [.i .i64 t] L fun v L'=>v=.i .i64 (yx t)∧L'=L:=by
 apply zkt h.code
 simp[C3]
 unfold yx;omega
theorem zfT (h:G8 F)(t d:Int)(L:Lg):zd F AD [.i .i64 t,.i .i64 d] L fun v L'=>v=.i .i64 (zB t d)∧L'=L:=by
 apply zks h.code
 unfold C2
 refine (VH h.f64 _ _).mono ?_
 rintro _ _ ⟨rfl,rfl⟩
 refine (VH h.f64 _ _).mono ?_
 rintro _ _ ⟨rfl,rfl⟩
 have h1:=vH t
 have h2:=vH d
 have e4:zB t d=min (max (yx t+yx d) (-4611686018427387904)) 4611686018427387904:=rfl
 by_cases c1:0<yx d
 ·have e2:wr .i64 (4611686018427387904-yx d)=4611686018427387904-yx d:=zT (by omega) (by omega)
  have c2:¬yx d<0:=by omega
  by_cases c3:4611686018427387904-yx d<yx t
  ·simp[c1,e2,c3,e4];omega
  ·have e1:wr .i64 (yx t+yx d)=yx t+yx d:=zT (by omega) (by omega)
   simp[c1,e2,c3,c2,e1,e4];omega
 ·by_cases c2:yx d<0
  ·have e3:wr .i64 (-4611686018427387904-yx d)=-4611686018427387904-yx d:=zT (by omega) (by omega)
   by_cases c3:yx t < -4611686018427387904-yx d
   ·simp[c1,e3,c3,c2,e4];omega
   ·have e1:wr .i64 (yx t+yx d)=yx t+yx d:=zT (by omega) (by omega)
    simp[c1,e3,c3,c2,e1,e4];omega
  ·have e1:wr .i64 (yx t+yx d)=yx t+yx d:=zT (by omega) (by omega)
   simp[c1,c2,e1,e4];omega
theorem VB (h:G9 F)(d:Int)(L:Lg):zd F oD [.i .i64 d] L fun v L'=>v=.i .i64 (max (zB d 0) 0)∧L'=L:=by
 apply zku h.code
 simp[C4]
 unfold zB yx;omega
theorem zdp (h:KS F)(w p n:Int)(L:Lg):zd F As [.i .i64 w,.i .i64 p,.i .i64 n] L fun v L'=>v=.ay [.i .i64 (zy w p n).1,.i .i64 (zy w p n).2]∧L'=L:=by
 refine zr ?_
 intro Q hQ
 have fin:∀a b:Int,(a,b)=zy w p n→zm (some (.ay [.i .i64 a,.i .i64 b])) Q L:=fun a b hab=>⟨L,zx.refl _,hQ _ _ ⟨by rw[←hab],rfl⟩⟩
 apply zkj h.code
 unfold Cx Cw
 have bad:(p<1∨min w n<0∨4611686018427387904<max w (max p n))→zm (some (.ay [.i .i64 0,.i .i64 1])) Q L:=fun hb=>fin 0 1 (by unfold zy;rw[if_pos hb])
 by_cases c1:p<1
 ·simp[c1];exact bad (by omega)
 by_cases c2:w<0
 ·simp[c1,c2];exact bad (by omega)
 by_cases c3:n<0
 ·simp[c1,c2,c3];exact bad (by omega)
 by_cases c4:4611686018427387904<p
 ·simp[c1,c2,c3,c4];exact bad (by omega)
 by_cases c5:4611686018427387904<w
 ·simp[c1,c2,c3,c4,c5];exact bad (by omega)
 by_cases c6:4611686018427387904<n
 ·simp[c1,c2,c3,c4,c5,c6];exact bad (by omega)
 simp[c1,c2,c3,c4,c5,c6]
 unfold Cv
 have Od:¬(p<1∨min w n<0∨4611686018427387904<max w (max p n)):=by omega
 by_cases c7:n<w
 ·simp[c7]
  exact fin w 0 (by unfold zy;rw[if_neg Od,if_pos c7])
 have hp:p≠0:=by omega
 have N9:0<p:=by omega
 obtain⟨q,hq⟩:∃q,q=(n-w) / p:=⟨_,rfl⟩
 obtain⟨r,hr⟩:∃r,r=(n-w) % p:=⟨_,rfl⟩
 have hdm:p * q+r=n-w:=by rw[hq,hr];exact Int.mul_ediv_add_emod (n-w) p
 have ju:0≤r∧r<p:=by rw[hr];exact⟨Int.emod_nonneg _ hp,Int.emod_lt_of_pos _ N9⟩
 have Ff:0≤q:=by rw[hq];exact Int.ediv_nonneg (by omega) (by omega)
 have hqn:q≤n-w:=by rw[hq];exact Int.ediv_le_self _ (by omega)
 have t1:(n-w).tdiv p=q:=by rw[Int.tdiv_eq_ediv_of_nonneg (by omega),hq]
 have t2:(n-w).tmod p=r:=by rw[Int.tmod_eq_emod_of_nonneg (by omega),hr]
 have hk:q+1≠0:=by omega
 have t3:(4611686018427387904-w).tdiv (q+1)=(4611686018427387904-w) / (q+1):=Int.tdiv_eq_ediv_of_nonneg (by omega)
 have e1:wr .i64 (n-w)=n-w:=zT (by omega) (by omega)
 have e2:wr .i64 q=q:=zT (by omega) (by omega)
 have e3:wr .i64 (q+1)=q+1:=zT (by omega) (by omega)
 have e4:wr .i64 (4611686018427387904-w)=4611686018427387904-w:=zT (by omega) (by omega)
 have hz:0≤(4611686018427387904-w) / (q+1):=Int.ediv_nonneg (by omega) (by omega)
 have LU:(4611686018427387904-w) / (q+1)≤4611686018427387904-w:=Int.ediv_le_self _ (by omega)
 have e5:wr .i64 ((4611686018427387904-w) / (q+1))=(4611686018427387904-w) / (q+1):=zT (by omega) (by omega)
 have hle:p≤(4611686018427387904-w) / (q+1)↔p * (q+1)≤4611686018427387904-w:=Int.le_ediv_iff_mul_le (by omega)
 have hmul:p * (q+1)=p * q+p:=by rw[Int.mul_add,Int.mul_one]
 have hval:zy w p n=(zB n (p-r),0):=by unfold zy;rw[if_neg Od,if_neg c7,t2]
 have hca:zB n (p-r)=min (w+p * (q+1)) 4611686018427387904:=by
  rw[hmul]
  unfold zB yx
  omega
 simp[c7,e1,UK _ _ _ _ _ _ hp,t1,e2,e3,e4,UK _ _ _ _ _ _ hk,t3,e5]
 by_cases c8:(4611686018427387904-w) / (q+1)<p
 ·have:¬p * (q+1)≤4611686018427387904-w:=fun h9=>by have:=hle.2 h9;omega
  refine⟨fun _=>fin _ _ ?_,fun h9=>absurd c8 (by omega)⟩
  rw[hval,hca]
  congr 1
  omega
 ·have h9:p * (q+1)≤4611686018427387904-w:=hle.1 (by omega)
  have hpos:0≤p * (q+1):=Int.mul_nonneg (by omega) (by omega)
  have e6:wr .i64 ((q+1) * p)=p * (q+1):=by rw[Int.mul_comm,zT (by omega) (by omega)]
  have e7:wr .i64 (w+p * (q+1))=w+p * (q+1):=zT (by omega) (by omega)
  refine⟨fun Mf=>absurd Mf c8,fun _=>?_⟩
  simp[e6,e7]
  refine fin _ _ ?_
  rw[hval,hca]
  congr 1
  omega
end
section
variable {F:Nat→Option aT}
section
variable {L K:Lg} {s t:Nat} {σ:bk}
theorem yu.both {A B:Lg}(h:yu A B)(r:Nat)(d:LC):yu (A.put r d) (B.put r d):=by
 intro b c e
 rw[Lg.ah]at e ⊢
 split
 ·rename_i h9;rw[if_pos h9]at e;exact e
 ·rename_i h9;rw[if_neg h9]at e;exact h b c e
theorem yu.znu {A B:Lg}(h:yu A B)(c:Option Nat)(y:Ch):yu (A.dF c y) (B.dF c y):=by
 cases c with
 | none=>exact h
 | some c=>exact h.both c _
theorem zgD {A B:Lg}(h:yu A B){c:Option Nat}{x:Ch}(hc:A.Af s c x):B.Af s c x:=fun a ha=>⟨(hc a ha).1,h _ _ (hc a ha).2⟩
theorem zac {A:Lg}{c:Option Nat}{x y:Ch}{r:Nat}(hc:A.Af s c x)(hr:A r=none):(A.dF c y) r=none:=by
 cases c with
 | none=>exact hr
 | some c =>
  simp only[Lg.dF]
  rw[zb]
  ·exact hr
  ·rintro rfl;rw[(hc r rfl).2]at hr;cases hr
def yF (c:Option Nat)(x:Ch)(now:Int):Ch×List Wk×Bool:=match c with
 | none=>(x,[],false)
 | some _=>x.put now
theorem zeM (hf:EX F){c:Option Nat}{x:Ch}(h:L.Af s c x)(now:Int):zd F mM [ptr c,.i .i64 now] L fun v L'=>∃sl,v=.ay [sl,.b (yF c x now).2.2] ∧
  xC (L.dF c (yF c x now).1) sl (yr (yF c x now).2.1) (yF c x now).2.1.length 5 L':=by
 cases c with
 | none =>
  refine (za8 hf now).mono ?_
  rintro _ _ ⟨rfl,rfl⟩
  exact⟨_,rfl,.inl ⟨rfl,rfl,rfl,rfl⟩⟩
 | some c=>exact zgn hf (h c rfl).2 now
def Wd (id kind when now data:Int)(sl:AV)(kept:Bool):AV:=.agg [.i .i64 id,.i .i64 kind,.i .i64 when,.i .i64 now,.i .i64 data,sl,.b kept]
theorem zfg (hf:Bc F)(e:L s=some (.abs (Z2 s σ)))(hs:σ.x.l.Pairwise It.lt)(hl:σ.x.l.length<1000000)(hq:0≤σ.x.seq∧σ.x.seq<4611686018427387904)(now:Int)(hk:(σ.x.take now).2.2=false) :
  zd F iL [.p (some (s,0)),.i .i64 now] L fun v L'=>v=.ay [Wd 0 0 0 0 0 (.sl none 0 0 0) false,.b false]∧L'=L:=by
 refine zr ?_
 intro Q hQ
 apply vd e
 intro t K op
 have hb:=op.back e
 have tk:σ.x.take now=(σ.x,(0,0,0),false):=by
  unfold Xs.take at hk ⊢
  split
  ·rfl
  ·rename_i h;simp only[h]at hk
   split
   ·rfl
   ·rename_i h2;rw[if_neg h2]at hk;simp at hk
 apply NV hf.code
 unfold nM nL nK
 simp
 intro a4 h4
 have e1:yu K (K.put a4 (.raw (.cells [.i .i64 0,.i .i64 0,.i .i64 0,.i .i64 0,.i .i64 0,.sl none 0 0 0,.b false]))):=(yu.refl K).put h4 _
 obtain⟨sv,h1,h2,h3,h5,h6,h7⟩:=op
 simp[aq,AB.read,zR,e1 _ _ h1]
 refine (W8 hf.f45 (e1 _ _ h2) hs hl hq now).mono ?_
 rintro _ K2 ⟨rfl,rfl⟩
 rw[tk]
 simp only[vU]
 rw[ye _ t _ (e1 _ _ h2)]
 simp
 intro a6 h6'
 rw[zu (ze _ _ _) (by simp) (by simp) (by simp)]
 simp[zo]
 unfold nJ
 have n64:a6≠a4:=by rintro rfl;simp at h6'
 simp[zF,zo,zp,zq]
 rw[zu (c:=[.i .i64 0,.i .i64 0,.i .i64 0,.i .i64 0,.i .i64 0,.sl none 0 0 0,.b false]) (by rw[zb _ _ _ (Ne.symm n64),ze]) (by simp) (by simp) (by simp)]
 rw[zX _ _ (ze _ _ _) (by simp[zo])]
 simp[zo]
 refine⟨L,zx.trans (yu.cj ?_) hb,hQ _ _ ⟨rfl,rfl⟩⟩
 have h6k:K a6=none:=by rw[zb _ _ _ n64]at h6';exact h6'
 exact ((((yu.refl K).put h4 _).put h6k _).put h4 _)
theorem zge (z1 z2 z3 a b c:AV):zo [z1,z2,z3] 0 [a,b,c]=[a,b,c]:=rfl
theorem Xu (z1 z2 z3 z4 z5 z6 z7 a b c d e f g:AV):zo [z1,z2,z3,z4,z5,z6,z7] 0 [a,b,c,d,e,f,g]=[a,b,c,d,e,f,g]:=rfl
theorem zff (hf:Bc F)(e:L s=some (.abs (Z2 s σ)))(hs:σ.x.l.Pairwise It.lt)(hl:σ.x.l.length<1000000)(hq:0≤σ.x.seq∧σ.x.seq<4611686018427387904)(now:Int){x':Xs}{id when:Int}(tk:σ.x.take now=(x',(id,when,now),true))
  {o:On} (ho:σ.one id=some o) {x:Ch} (hc:L.Af s o.c x) :
  zd F iL [.p (some (s,0)),.i .i64 now] L fun v L'=>∃sl,v=.ay [Wd id o.kind when now o.data sl (yF o.c x now).2.2,.b true] ∧
   xC ((L.put s (.abs (Z2 s { σ with x:=x' }))).dF o.c (yF o.c x now).1) sl (yr (yF o.c x now).2.1) (yF o.c x now).2.1.length 5 L':=by
 refine zr ?_
 intro Q hQ
 obtain⟨i,rfl,hi,hg0,hh⟩:=zcw ho
 apply vd e
 intro t K op
 apply NV hf.code
 unfold nM nL nK
 simp
 intro a4 h4
 have e1:yu K (K.put a4 (.raw (.cells [.i .i64 0,.i .i64 0,.i .i64 0,.i .i64 0,.i .i64 0,.sl none 0 0 0,.b false]))):=(yu.refl K).put h4 _
 have oX:=op.Bi x'
 have op':=op
 obtain⟨sv,h1,h2,h3,h5,h6,h7⟩:=op'
 simp[aq,AB.read,zR,e1 _ _ h1]
 refine (W8 hf.f45 (e1 _ _ h2) hs hl hq now).mono ?_
 rintro _ K2 ⟨rfl,rfl⟩
 rw[tk]
 simp only[vU]
 have nt4:t≠a4:=by rintro rfl;rw[h2]at h4;cases h4
 obtain⟨K2,gE⟩:∃K2,K2=(K.put a4 (.raw (.cells [.i .i64 0,.i .i64 0,.i .i64 0,.i .i64 0,.i .i64 0,.sl none 0 0 0,.b false]))).put t (.abs (iS t x')):=⟨_,rfl⟩
 rw[←gE]
 have E2:yu (K.put t (.abs (iS t x'))) K2:=by rw[gE];exact e1.both _ _
 have r4:K2 a4=some (.raw (.cells [.i .i64 0,.i .i64 0,.i .i64 0,.i .i64 0,.i .i64 0,.sl none 0 0 0,.b false])):=by rw[gE,zb _ _ _ (Ne.symm nt4),ze]
 have b4:(K.put t (.abs (iS t x'))) a4=none:=by rw[zb _ _ _ (Ne.symm nt4)];exact h4
 simp
 intro a6 h6'
 rw[zu (ze _ _ _) (by simp) (by simp) (by simp),zA,zge]
 obtain⟨K3,EP⟩:∃K3,K3=K2.put a6 (.raw (.cells [.i .i64 i,.i .i64 when,.i .i64 now])):=⟨_,rfl⟩
 rw[←EP]
 have E3:yu K2 K3:=by rw[EP];exact (yu.refl _).put h6' _
 have r6:K3 a6=some (.raw (.cells [.i .i64 i,.i .i64 when,.i .i64 now])):=by rw[EP,ze]
 unfold nJ
 simp
 unfold C7
 obtain⟨ey,g1,g2,g3,g4,g5,g6⟩:=oX
 rcases g5 with⟨q1,rfl⟩ | ⟨b,rfl,a2,a3,aa4,a5,aa6⟩
 ·rw[show ({ σ with x:=x' }:bk).af=σ.af from rfl]at q1;rw[q1]at hi;simp at hi
 have ei:(i:Int)<(σ.af.length:Int):=by omega
 have k3s:=E3 _ _ (E2 _ _ g1)
 have k3b:=E3 _ _ (E2 _ _ a2)
 have gat:=XX σ.af i o hg0
 have f1:aq K3 (b,i * 4) (some 4)=some (.agg o.cells):=by rw[yc k3b (by exact gat.2)];rw[show (yT ({ σ with x:=x' }:bk).af)=yT σ.af from rfl,gat.1]
 have f2:aq K3 (s,0) none=some (.sl (some (b,0)) σ.af.length σ.af.length 4):=by rw[zj k3s];rfl
 have f3:aq K3 (a6,0) none=some (.i .i64 i):=by rw[zj r6];rfl
 simp[f1,f2,f3,yn _ _ _ 4 b 0 σ.af.length σ.af.length 4 .i64 (i:Int) (Int.natCast_nonneg _) ei]
 intro a8 h8
 rw[zu (ze _ _ _) o.fS (by simp[On.cells]) (by simp)]
 have n68:a6≠a8:=by rintro rfl;rw[r6]at h8;cases h8
 obtain⟨K4,Ng⟩:∃K4,K4=K3.put a8 (.raw (.cells o.cells)):=⟨_,rfl⟩
 have E4:yu K3 K4:=by rw[Ng];exact (yu.refl _).put h8 _
 have r8:K4 a8=some (.raw (.cells o.cells)):=by rw[Ng,ze]
 have r64:=E4 _ _ r6
 have spl:zo [AV.i .i64 0,.i .i64 0,.p none,.i .i64 0] 0 o.cells=o.cells:=by simp[zo,On.cells]
 rw[spl,zA,←Ng]
 simp[aq,AB.read,zR,r64,r8,On.cells,zF,zo,zp,zq]
 intro HZ h21
 rw[zu (ze _ _ _) (by simp) (by simp) (by simp),zA,Xu]
 obtain⟨K5,hK5⟩:∃K5,K5=K4.put HZ (.raw (.cells [.i .i64 i,.i .i64 o.kind,.i .i64 when,.i .i64 now,.i .i64 o.data,.sl none 0 0 0,.b false])):=⟨_,rfl⟩
 rw[←hK5]
 have E5:yu K4 K5:=by rw[hK5];exact (yu.refl _).put h21 _
 have r21:K5 HZ=some (.raw (.cells [.i .i64 i,.i .i64 o.kind,.i .i64 when,.i .i64 now,.i .i64 o.data,.sl none 0 0 0,.b false])):=by rw[hK5,ze]
 have r85:=E5 _ _ r8
 simp[aq,AB.read,zR,r85,On.cells]
 have E25:yu (K.put t (.abs (iS t x'))) K5:=((E2.trans E3).trans E4).trans E5
 have Sz:(K.put t (.abs (iS t x'))).Af s o.c x:=fun c jw=>⟨(hc c jw).1,g6 _ _ (hc c jw).1 (hc c jw).2⟩
 have hc5:K5.Af s o.c x:=zgD E25 Sz
 have n21:(K.put t (.abs (iS t x'))) HZ=none:=((E2.trans E3).trans E4).none h21
 refine (zeM hf.f47 hc5 now).mono ?_
 rintro _ K6 ⟨sl,rfl,hfr⟩
 obtain⟨y,hy⟩:∃y,y=(yF o.c x now):=⟨_,rfl⟩
 rw[←hy]at hfr
 rw[←hy]
 rw[←hy]at hQ
 have oX2:xH (L.dF o.c y.1) s { σ with x:=x' } t ((K.put t (.abs (iS t x'))).dF o.c y.1):=by
  cases jw:o.c with
  | none=>exact op.Bi x'
  | some c=>exact (op.Bi x').bY (hc c jw).1 (hc c jw).2 _
 have comm:∀d,(L.dF o.c y.1).put s d=(L.put s d).dF o.c y.1:=by
  intro d
  cases jw:o.c with
  | none=>rfl
  | some c=>simp only[Lg.dF];rw[yJ _ (hc c jw).1]
 have E6:yu ((K.put t (.abs (iS t x'))).dF o.c y.1) (K5.dF o.c y.1):=E25.znu _ _
 have c4:((K.put t (.abs (iS t x'))).dF o.c y.1) a4=none:=zac Sz b4
 have c21:((K.put t (.abs (iS t x'))).dF o.c y.1) HZ=none:=zac Sz n21
 have r4K:K5 a4=some (.raw (.cells [.i .i64 0,.i .i64 0,.i .i64 0,.i .i64 0,.i .i64 0,.sl none 0 0 0,.b false])):=E5 _ _ (E4 _ _ (E3 _ _ r4))
 have n4c:∀c,o.c=some c→a4≠c:=fun c jw h=>by rw[←h]at jw;have:=(Sz a4 jw).2;rw[b4]at this;cases this
 have zoL:∀c,o.c=some c→HZ≠c:=fun c jw h=>by rw[←h]at jw;have:=(Sz HZ jw).2;rw[n21]at this;cases this
 have zmX:∀r d,(∀c,o.c=some c→r≠c)→K5 r=some d→(K5.dF o.c y.1) r=some d:=by
  intro r d h1 h2
  cases jw:o.c with
  | none=>exact h2
  | some c=>simp only[Lg.dF];rw[zb _ _ _ (h1 c jw)];exact h2
 have q4:=zmX _ _ n4c r4K
 have q21:=zmX _ _ zoL r21
 have zoK:a4≠HZ:=by rintro rfl;rw[E4 _ _ (E3 _ _ r4)]at h21;cases h21
 have fin:∀(B:Lg),yu B K6→B a4=none→B HZ=none→K6 a4=some (.raw (.cells [.i .i64 0,.i .i64 0,.i .i64 0,.i .i64 0,.i .i64 0,.sl none 0 0 0,.b false]))→K6 HZ=some (.raw (.cells [.i .i64 i,.i .i64 o.kind,.i .i64 when,.i .i64 now,.i .i64 o.data,.sl none 0 0 0,.b false]))→sl.one=true→sl.cellsOf=some [sl]→(∀K7,yu B K7→∃L',zx K7 L'∧xC ((L.dF o.c y.1).put s (.abs (Z2 s { σ with x:=x' }))) sl (yr y.2.1) y.2.1.length 5 L') →
   za F (.ext 0) [.ay [sl,.b y.2.2]] K6 fun v26 Nt=>za F (.ext 1) [.ay [sl,.b y.2.2]] Nt fun v27 KK=>za F (.aj 5) [.p (some (HZ,0))] KK fun v28 L28=>za F (.st 1) [v28,v26] L28 fun _ L29 =>
    za F (.aj 6) [.p (some (HZ,0))] L29 fun v30 L30=>za F (.st 1) [v30,v27] L30 fun _ L31=>za F (.ld (some 7)) [.p (some (HZ,0))] L31 fun v32 L32=>za F (.st 7) [.p (some (a4,0)),v32] L32 fun _ L33 =>
    zm (yz Env.nil Env.nil L33 [.cell (.c (.p (some (a4,0)))) (some 7),.tmp (.c (.b true))]) Q L33:=by
  intro B hB b4 b21 k4 k21 hone hco zpH
  simp
  rw[zD k21 (by simp) hco]
  simp
  rw[zD (ze _ _ _) (by simp) rfl,zA]
  simp
  rw[yc (ze _ _ _) (by simp)]
  simp
  rw[zu (c:=[.i .i64 0,.i .i64 0,.i .i64 0,.i .i64 0,.i .i64 0,.sl none 0 0 0,.b false]) (by rw[zb _ _ _ zoK];exact k4) (by simp[hone]) (by simp) (by simp),Xu]
  rw[zX _ _ (ze _ _ _) (by simp)]
  simp
  obtain⟨L',g1,g2⟩:=zpH _ ((hB.put b21 _).put b4 _)
  refine⟨_,g1,hQ _ _ ⟨sl,rfl,?_⟩⟩
  rw[←comm]
  exact g2
 rcases hfr with⟨z1,z2,rfl,rfl⟩ | ⟨bs,ex,z1,z2,rfl,z3,rfl⟩
 ·refine fin _ E6 c4 c21 q4 q21 rfl rfl ?_
  intro K7 hK7
  exact⟨_,(yu.cj hK7).trans oX2.shut,.inl ⟨z1,z2,rfl,rfl⟩⟩
 ·have nb4:a4≠bs:=by rintro rfl;rw[q4]at z1;cases z1
  have zk8:HZ≠bs:=by rintro rfl;rw[q21]at z1;cases z1
  have zz:=E6.none z1
  refine fin _ (E6.both bs _) (by rw[zb _ _ _ nb4];exact c4) (by rw[zb _ _ _ zk8];exact c21) (by rw[zb _ _ _ nb4];exact q4) (by rw[zb _ _ _ zk8];exact q21) rfl rfl ?_
  intro K7 hK7
  have o9:=oX2.bW zz (.raw (.cells (yr y.2.1)))
  have ne:=oX2.ne zz
  refine⟨_,(yu.cj hK7).trans o9.shut,.inr ⟨bs,ex,?_,z2,rfl,z3,?_⟩⟩
  ·rw[zb _ _ _ ne.1];exact ne.2
  ·rw[yJ _ ne.1]
end
end
section
theorem zfL {a b:Int}(h1:0≤a)(h2:0≤b)(h3:a≤4611686018427387904)(h4:b≤4611686018427387904):Iq a b=false:=by
 simp[Iq];omega
section
variable {σ:bk} {k dat g due q p:Int} {c:Option Nat}
end
end
section
structure XG (x:Xs)(K:Int):Prop where
 sorted:x.l.Pairwise It.lt
 nd:(x.l.map It.id).Nodup
 below:∀y∈x.l,y.s≤x.seq
 pos:0≤x.seq
 seq:x.seq≤K
 len:(x.l.length:Int)≤K
 aK:∀y∈x.l,∃p,x.pf y.id=some p∧0≤p∧p≤4611686018427387904
 time:∀y∈x.l,0≤y.w∧y.w≤4611686018427387904
theorem xS {id:Int}{l:List It}{y:It}:y∈yS id l↔y∈l∧y.id≠id:=by simp[yS]
theorem XG.mono {x:Xs}{K K':Int}(h:XG x K)(hk:K≤K'):XG x K':=⟨h.sorted,h.nd,h.below,h.pos,Int.le_trans h.seq hk,Int.le_trans h.len hk,h.aK,h.time⟩
theorem XG.stop {x:Xs}{K:Int}(h:XG x K)(id:Int):XG (x.stop id) K:=by
 have sub:(yS id x.l).Sublist x.l:=List.filter_sublist
 refine⟨h.sorted.sublist sub,h.nd.sublist (sub.map _),?_,h.pos,h.seq,?_,?_,?_⟩
 ·intro y hy;exact h.below y (xS.1 hy).1
 ·have h1:=sub.length_le
  have h2:=h.len
  have h3:((yS id x.l).length:Int)≤(x.l.length:Int):=by omega
  exact Int.le_trans h3 h2
 ·intro y hy
  have hy':=xS.1 hy
  obtain⟨p,h1,h2⟩:=h.aK y hy'.1
  have hn:¬id=y.id:=fun h9=>hy'.2 h9.symm
  exact⟨p,by simp[Xs.stop,yM,hn,hy'.2,h1],h2⟩
 ·intro y hy;exact h.time y (xS.1 hy).1
theorem V0 {x:Xs}{id:Int}{y:It}:y∈(x.stop id).l↔y∈x.l∧y.id≠id:=xS
theorem zbl {x y:It}{l:List It}:y∈ins x l↔y=x∨y∈l:=by rw[(vm x l).mem_iff];simp
theorem XG.arm {x:Xs}{K:Int}(h:XG x K)(id when p:Int)(h1:0≤when)(h2:0≤p)(h3:when≤4611686018427387904)(h4:p≤4611686018427387904) :
  XG (x.arm id when p).1 (K+1)∧(∀y,y∈(x.arm id when p).1.l↔y=⟨id,when,x.seq+1⟩∨(y∈x.l∧y.id≠id))∧(x.arm id when p).1.pf id=some p∧(∀j,j≠id→(x.arm id when p).1.pf j=x.pf j)∧(x.arm id when p).1.seq=x.seq+1:=by
 have hb:=zfL h1 h2 h3 h4
 have e:(x.arm id when p).1=x.aP id when p:=by simp[Xs.arm,hb]
 rw[e]
 have mem:∀y,y∈(x.aP id when p).l↔y=⟨id,when,x.seq+1⟩∨(y∈x.l∧y.id≠id):=by
  intro y
  simp only[Xs.aP]
  rw[zbl,xS]
 have hs:=h.stop id
 refine⟨⟨?_,?_,?_,?_,?_,?_,?_,?_⟩,mem,by simp[Xs.aP,yM],?_,rfl⟩
 ·refine VE hs.sorted ?_
  intro y hy
  have:=h.below y (xS.1 hy).1
  simp;omega
 ·simp only[Xs.aP]
  rw[((vm _ _).map It.id).nodup_iff]
  simp only[List.map_cons,List.nodup_cons]
  refine⟨?_,hs.nd⟩
  intro h9
  obtain⟨y,hy,hyi⟩:=List.mem_map.1 h9
  exact (xS.1 hy).2 hyi
 ·intro y hy
  rcases (mem y).1 hy with rfl | ⟨h5,_⟩
  ·simp[Xs.aP]
  ·have:=h.below y h5;simp[Xs.aP];omega
 ·have:=h.pos;simp[Xs.aP];omega
 ·have:=h.seq;simp[Xs.aP];omega
 ·have h5:=hs.len
  simp only[Xs.aP,(vm _ _).length_eq,List.length_cons]
  simp only[Xs.stop]at h5
  omega
 ·intro y hy
  rcases (mem y).1 hy with rfl | ⟨h5,h6⟩
  ·exact⟨p,by simp[Xs.aP,yM],h2,h4⟩
  ·obtain⟨q,h7,h8⟩:=h.aK y h5
   have hn:¬id=y.id:=fun h9=>h6 h9.symm
   exact⟨q,by simp[Xs.aP,yM,hn,h6,h7],h8⟩
 ·intro y hy
  rcases (mem y).1 hy with rfl | ⟨h5,h6⟩
  ·exact⟨h1,h3⟩
  ·exact h.time y h5
 ·intro j hj
  have hn:¬id=j:=fun h9=>hj h9.symm
  simp[Xs.aP,yM,hn,hj]
end
section
variable {F:Nat→Option aT}
def Ak (v:AV)(l:List Int)(bo:Option Nat)(K:Lg):Prop:=match bo with
 | none=>v=.sl none 0 0 0∧l=[]
 | some b=>∃cap sp ex,v=.sl (some (b,0)) l.length cap ex∧K b=some (.raw (.cells (eB l++sp)))∧l.length+sp.length=cap∧(ex=0∨ex=1)
theorem wO (l:List Int):(eB l).length=l.length:=by simp[eB]
theorem zh8 (l:List Int)(sp:List AV){i:Nat}(h:i<l.length):(eB l++sp)[i]?=some (.i .i64 l[i]):=by
 rw[List.getElem?_append_left (by simpa[eB]using h)]
 simp[eB,h]
def Fj:List Int→Int→Nat→Int
 | [],_,_=>-1
 | y::r,x,k=>if x=y then k else Fj r x (k+1)
theorem ze5 (l:List Int)(x:Int){i:Nat}(h:i<l.length):Fj (l.drop i) x i=if x=l[i]then (i:Int)else Fj (l.drop (i+1)) x (i+1):=by
 rw[List.drop_eq_getElem_cons h]
 rfl
theorem Ak.len {v:AV}{l:List Int}{bo:Option Nat}{L:Lg}(h:Ak v l bo L)(M:Lg)(k:AV→Lg→Prop):za F .ax [v] M k=k (.i .i64 l.length) M:=by
 cases bo with
 | none=>obtain⟨rfl,rfl⟩:=h;simp
 | some b=>obtain⟨cap,sp,ex,rfl,_⟩:=h;simp
theorem zdv (hf:BT F){L:Lg}{v:AV}{l:List Int}{bo:Option Nat}(h:Ak v l bo L)(hl:l.length≤1000000)(x:Int):zd F jP [v,.i .i64 x] L fun r L'=>r=.i .i64 (Fj l x 0)∧L'=L:=by
 refine zr ?_
 intro Q hQ
 apply Q9 hf.code
 unfold ug ue ud
 simp[zI,h.len]
 obtain⟨I,hI⟩:∃I:Nat→Env→Lg→Prop,I=fun m E K=>∃i:Nat,m+i=l.length∧K=L∧Fj (l.drop i) x i=Fj l x 0∧E 0=v∧E 1=.i .i64 x∧E 7=.i .i64 l.length∧E 8=.i .i64 i:=⟨_,rfl⟩
 refine zN I l.length ?_ ?_
 ·rw[hI]
  exact⟨0,by omega,rfl,by simp,by simp,by simp,by simp,by simp⟩
 intro m E t K hi
 rw[hI]at hi
 obtain⟨i,hm,hK,hx,l0,l1,l7,l8⟩:=hi
 subst hK
 unfold uc
 rw[l0,l1,l7,l8]
 by_cases hin:i<l.length
 ·cases bo with
  | none=>obtain⟨rfl,rfl⟩:=h;simp at hin
  | some b =>
   obtain⟨cap,sp,ex,rfl,hb,_,_⟩:=h
   have ei:(i:Int)<(l.length:Int):=by omega
   have rd:aq K (b,i) none=some (.i .i64 l[i]):=by rw[zj hb];exact zh8 l sp hin
   have w1:wr .i64 ((i:Int)+1)=((i+1:Nat):Int):=by rw[zT (by omega) (by omega)];omega
   rw[ze5 l x hin]at hx
   by_cases hq:x=l[i]
   ·rw[if_pos hq]at hx
    simp[hin,rd,yn _ _ _ 1 b 0 l.length cap ex .i64 (i:Int) (Int.natCast_nonneg _) ei]
    refine⟨fun _=>⟨K,zx.refl _,hQ _ _ ⟨by rw[hx],rfl⟩⟩,fun h9=>absurd hq h9⟩
   ·rw[if_neg hq]at hx
    simp[hin,rd,yn _ _ _ 1 b 0 l.length cap ex .i64 (i:Int) (Int.natCast_nonneg _) ei,w1]
    refine⟨fun h9=>absurd h9 hq,fun _=>?_⟩
    rw[hI]
    exact⟨m-1,by omega,i+1,by omega,rfl,hx,by simp[l0],by simp[l1],by simp[l7],by simp⟩
 ·have bK:i=l.length:=by omega
  subst bK
  simp at hx
  simp
  unfold uf
  exact⟨K,zx.refl _,hQ _ _ ⟨by rw[←hx];rfl,rfl⟩⟩
theorem Ul (l:List Int):(eB l).all AV.one=true:=by
 rw[List.all_eq_true]
 intro x hx
 simp only[eB,List.mem_map]at hx
 obtain⟨n,_,rfl⟩:=hx
 rfl
theorem Ak.cells {b cap:Nat}{l:List Int}{sp:List AV}{K:Lg}(hb:K b=some (.raw (.cells (eB l++sp)))):zH K (some (b,0)) (l.length * 1)=some (eB l):=by
 have:l.length≤(eB l++sp).length:=by rw[List.length_append,wO];omega
 simp only[zH,hb,AB.read,cut,zp,Nat.zero_add,Nat.mul_one,this,decide_true,cond_true,List.drop_zero]
 rw[←wO l,List.take_left]
theorem zdL (hf:Gf F){L:Lg}{v:AV}{l:List Int}{bo:Option Nat}(h:Ak v l bo L)(hl:l.length≤1000000):zd F jR [v] L fun r L'=>(l=[]∧r=.sl none 0 0 0∧L'=L)∨∃b ex,L b=none∧r=.sl (some (b,0)) l.length l.length ex∧L'=L.put b (.raw (.cells (eB l))):=by
 refine zr ?_
 intro Q hQ
 apply Rb hf.code
 unfold uj
 cases bo with
 | none =>
  obtain⟨rfl,rfl⟩:=h
  simp
  exact⟨L,zx.refl _,hQ _ _ (.inl ⟨rfl,rfl,rfl⟩)⟩
 | some b =>
  obtain⟨cap,sp,ex,rfl,hb,_,_⟩:=h
  simp
  rw[yg (c:=[]) _ _ (by simp[y7,zF]) (by simp)]
  intro b1 bP
  have nb:b≠b1:=by rintro rfl;rw[hb]at bP;cases bP
  have hb':(L.put b1 (.raw (.cells []))) b=some (.raw (.cells (eB l++sp))):=by rw[zb _ _ _ nb];exact hb
  have hr:=Ak.cells (cap:=cap) hb'
  simp
  by_cases h0:l.length=0
  ·have hn:l=[]:=List.length_eq_zero_iff.1 h0
   subst hn
   simp only[Xp,Ia,hr,Ul,true_and]
   simp
   exact⟨_,zx.refl _,hQ _ _ (.inr ⟨b1,0,bP,rfl,rfl⟩)⟩
  ·refine w9 (m:=l.length) hr (Ul l) (by omega) (by omega) (old:=[]) (by simp[zH,AB.read,cut,zp]) (by simp[Zn];rfl) ?_
   intro b2 bT
   have n2:b2≠b1:=by rintro rfl;simp at bT
   rw[zb _ _ _ n2]at bT
   simp
   refine⟨L.put b2 (.raw (.cells (eB l))),?_,hQ _ _ (.inr ⟨b2,1,bT,rfl,rfl⟩)⟩
   rw[yJ _ (Ne.symm n2)]
   refine yu.cj ((yu.refl _).put ?_ _)
   rw[zb _ _ _ (Ne.symm n2)];exact bP
theorem zof {s r o len cap ex l h m:Nat}(h1:l≤h)(h2:h≤m)(h3:m≤cap)(h4:ex=0∨ex=s):Fm s true true true [.sl (some (r,o)) len cap ex,.i .i64 (l:Int),.i .i64 (h:Int),.i .i64 (m:Int)]=some (.sl (some (r,o+l * s)) (h-l) (m-l) 0):=by
 show (bif Nat.ble l h&&Nat.ble h m&&Nat.ble m cap&&(Nat.beq ex 0||Nat.beq ex s)then _ else _)=_
 have:(Nat.beq ex 0||Nat.beq ex s)=true:=by rcases h4 with rfl | rfl<;>simp[zq]
 simp[zp,h1,h2,h3,this]
theorem zog {s r o len cap ex l h:Nat}(h1:l≤h)(h2:h≤cap)(h4:ex=0∨ex=s):Fm s true true false [.sl (some (r,o)) len cap ex,.i .i64 (l:Int),.i .i64 (h:Int)]=some (.sl (some (r,o+l * s)) (h-l) (cap-l) ex):=by
 show (bif Nat.ble l h&&Nat.ble h cap&&Nat.ble cap cap&&(Nat.beq ex 0||Nat.beq ex s)then _ else _)=_
 have:(Nat.beq ex 0||Nat.beq ex s)=true:=by rcases h4 with rfl | rfl<;>simp[zq]
 simp[zp,h1,h2,this]
theorem zoe {s r o len cap ex l:Nat}(h1:l≤len)(h2:len≤cap)(h4:ex=0∨ex=s):Fm s true false false [.sl (some (r,o)) len cap ex,.i .i64 (l:Int)]=some (.sl (some (r,o+l * s)) (len-l) (cap-l) ex):=by
 show (bif Nat.ble l len&&Nat.ble len cap&&Nat.ble cap cap&&(Nat.beq ex 0||Nat.beq ex s)then _ else _)=_
 have:(Nat.beq ex 0||Nat.beq ex s)=true:=by rcases h4 with rfl | rfl<;>simp[zq]
 simp[zp,h1,h2,this]
theorem zfP {L:Lg}{size bytes len cap ex c e r o:Nat}{b:Option (Nat×Nat)}{new:List AV}{k:AV→Lg→Prop}(hr:zH L b (0 * size)=some new)(h1:new.all AV.one=true)(hle:len≤cap)
  (hk:k (.sl (some (r,o)) len cap ex) L):Xp size bytes L k [.sl (some (r,o)) len cap ex,.sl b 0 c e]:=by
 simp only[Xp,hr,Ia,h1,true_and,Nat.add_zero,hle,if_true]
 exact hk
theorem YK (A X vs:List AV):zo (A++X) A.length vs=A++vs++X.drop vs.length:=by
 unfold zo
 rw[List.take_left,←List.drop_drop,List.drop_left]
theorem zby (hf:BS F){L:Lg}{v:AV}{l:List Int}{b:Nat}(h:Ak v l (some b) L)(hl:l.length≤1000000){i:Nat}(hi:i<l.length):zd F jO [v,.i .i64 i,.i .i64 ((i:Int)+1)] L fun r L'=>∃sp',Ak r (l.eraseIdx i) (some b) L'∧L'=L.put b (.raw (.cells (eB (l.eraseIdx i)++sp'))):=by
 refine zr ?_
 intro Q hQ
 apply Q8 hf.code
 unfold tZ
 have hlen:=h.len (F:=F)
 obtain⟨cap,sp,ex,rfl,hb,hc,he⟩:=h
 have e1:((i:Int)+1)=((i+1:Nat):Int):=by omega
 rw[e1]
 have s1:=zof (s:=1) (r:=b) (o:=0) (len:=l.length) (cap:=cap) (ex:=ex) (l:=i) (h:=i+1) (m:=l.length) (by omega) (by omega) (by omega) he
 have s2:=zg0 (s:=1) (r:=b) (o:=0) (len:=l.length) (cap:=cap) (ex:=ex) (m:=i) (j:=.i64) (by omega) he
 have s3:=zoe (s:=1) (r:=b) (o:=0) (len:=l.length) (cap:=cap) (ex:=ex) (l:=i+1) (by omega) (by omega) he
 have ne:¬((i:Int)=((i+1:Nat):Int)):=by omega
 simp only[YX,hlen,s1,s2,s3]
 simp[s1,s2,s3]
 refine⟨fun h9=>absurd h9 (by omega),fun _=>?_⟩
 obtain⟨A,hA⟩:∃A,A=eB (l.take i):=⟨_,rfl⟩
 obtain⟨B,hB⟩:∃B,B=eB (l.drop (i+1)):=⟨_,rfl⟩
 have lA:A.length=i:=by rw[hA,wO];simp;omega
 have lB:B.length=l.length-(i+1):=by rw[hB,wO];simp
 have hcell:eB l++sp=A++([AV.i .i64 l[i]]++B++sp):=by
  have h1:l=l.take i++l[i]::l.drop (i+1):=by rw[←List.drop_eq_getElem_cons hi,List.take_append_drop]
  have h2:eB l=eB (l.take i)++([AV.i .i64 l[i]]++eB (l.drop (i+1))):=by
   have:=congrArg eB h1
   rw[this]
   simp only[eB,List.map_append,List.map_cons]
   rfl
  rw[h2,hA,hB]
  simp only[List.append_assoc]
 have her:eB (l.eraseIdx i)=A++B:=by
  rw[hA,hB,List.eraseIdx_eq_take_drop_succ]
  simp[eB]
 have hel:(l.eraseIdx i).length=l.length-1:=List.length_eraseIdx_of_lt hi
 rw[hcell]at hb
 have hr:zH L (some (b,i+1)) ((l.length-(i+1)) * 1)=some B:=by
  have h1:(i+1)+(l.length-(i+1))≤(A++([AV.i .i64 l[i]]++B++sp)).length:=by simp[lA,lB];omega
  simp only[zH,hb,AB.read,cut,zp,Nat.mul_one,h1,decide_true,cond_true]
  rw[show i+1=A.length+1 by omega,←List.drop_drop,List.drop_left]
  rw[show l.length-(A.length+1)=B.length by rw[lA,lB]]
  have h3:A.length+1+B.length≤A.length+(B.length+sp.length+1):=by omega
  simp[h3]
 have fin:∀M:Lg,M=L.put b (.raw (.cells (A++B++([.i .i64 0]++sp))))→zm (some (.sl (some (b,0)) (l.length-1) cap ex)) Q M:=by
  intro M hM
  refine⟨_,zx.refl _,hQ _ _ ⟨[.i .i64 0]++sp,⟨cap,[.i .i64 0]++sp,ex,by rw[hel],by rw[hM,ze,her],by rw[hel];simp;omega,he⟩,by rw[hM,her]⟩⟩
 have rest:∀(M:Lg) (y:AV),M b=some (.raw (.cells (A++B++([y]++sp))))→(∀z,M.put b z=L.put b z) →
   za F .ax [.sl (some (b,0)) (l.length-1) cap ex] M fun v8 L8=>WN (Fm 1 true true false [.sl (some (b,0)) (l.length-1) cap ex,v8,.i .i64 l.length]) L8 fun v9 L9=>za F (.Nn [.i .i64 0]) [v9] L9 fun x dG=>zm (some (.sl (some (b,0)) (l.length-1) cap ex)) Q dG:=by
  intro M y hM hput
  have s4:=zog (s:=1) (r:=b) (o:=0) (len:=l.length-1) (cap:=cap) (ex:=ex) (l:=l.length-1) (h:=l.length) (by omega) (by omega) he
  have e5:l.length-(l.length-1)=1:=by omega
  simp[s4,e5,ziT,y7]
  have lAB:(A++B).length=l.length-1:=by simp[lA,lB];omega
  have hw:mH M (b,l.length-1) [.i .i64 0]=some (M.put b (.raw (.cells (A++B++([.i .i64 0]++sp))))):=by
   have h1:(l.length-1) + [AV.i .i64 0].length≤(A++B++([y]++sp)).length:=by simp[lA,lB];omega
   simp only[mH,hM,h1]
   have h2:=YK (A++B) ([y]++sp) [.i .i64 0]
   rw[lAB]at h2
   rw[h2]
   simp
  rw[hw]
  exact fin _ (hput _)
 by_cases hn:l.length-(i+1)=0
 ·have hBn:B=[]:=List.length_eq_zero_iff.1 (by omega)
  have hi1:i=l.length-1:=by omega
  rw[hn]at hr ⊢
  refine zfP hr (by simp[hBn]) (by omega) ?_
  have:=rest L (.i .i64 l[i]) (by rw[hb,hBn];simp) (fun z=>rfl)
  rw[←hi1]at this
  exact this
 ·have hwr:mH L (b,0+i * 1) B=some (L.put b (.raw (.cells (A++B++([AV.i .i64 l[i]]++B++sp).drop B.length)))):=by
   have h1:i+B.length≤(A++([AV.i .i64 l[i]]++B++sp)).length:=by simp[lA,lB];omega
   have h2:=YK A ([AV.i .i64 l[i]]++B++sp) B
   rw[lA]at h2
   have h3:B.all AV.one=true:=by rw[hB];exact Ul _
   simp only[mH,hb,Nat.zero_add,Nat.mul_one,h1,h3,and_self,if_true,h2]
  have eC:∃y,([AV.i .i64 l[i]]++B++sp).drop B.length=[y]++sp:=by
   have h1:([AV.i .i64 l[i]]++B).length=B.length+1:=by simp
   rw[List.drop_append_of_le_length (by omega)]
   have h2:(([AV.i .i64 l[i]]++B).drop B.length).length=1:=by rw[List.length_drop];omega
   obtain⟨y,hy⟩:=List.length_eq_one_iff.1 h2
   exact⟨y,by rw[hy]⟩
  obtain⟨y,hy⟩:=eC
  rw[hy]at hwr
  refine Wz (m:=l.length-(i+1)) hr (by rw[hB];exact Ul _) (by omega) (by omega) hwr ?_
  have hi1:i+(l.length-(i+1))=l.length-1:=by omega
  rw[hi1]
  exact rest _ y (ze _ _ _) (fun z=>zA _ _ _ _)
theorem zcH (l:List Int)(x:Int):eB (l++[x])=eB l++[AV.i .i64 x]:=by simp[eB]
theorem Ak.push {K:Lg}{v:AV}{l:List Int}{bo:Option Nat}(h:Ak v l bo K)(hl:l.length≤1000000){x:Int}{src:Option (Nat×Nat)}{c e:Nat}(hr:zH K src (1 * 1)=some [.i .i64 x]){k:AV→Lg→Prop}
  (hk:∀w q K',Ak w (l++[x]) (some q) K'→(bo=some q∨K q=none)→(∀r,r≠q→bo≠some r→K' r=K r)→k w K'):Xp 1 8 K k [v,.sl src 1 c e]:=by
 cases bo with
 | none =>
  obtain⟨rfl,rfl⟩:=h
  refine w9 (m:=1) hr (by simp) (by omega) (by omega) (old:=[]) (by simp[zH]) (by simp[Zn];rfl) ?_
  intro b hb
  refine hk _ b _ ⟨1,[],1,by simp,by simp[Lg.ah,eB],by simp,.inr rfl⟩ (.inr hb) ?_
  intro r hr _
  rw[zb _ _ _ hr]
 | some b =>
  obtain⟨cap,sp,ex,rfl,hb,hc,he⟩:=h
  by_cases hcap:l.length+1≤cap
  ·have hsp:∃y r,sp=y::r:=by
    cases sp with
    | nil=>simp at hc;omega
    | cons y r=>exact⟨y,r,rfl⟩
   obtain⟨y,r,rfl⟩:=hsp
   have hw:mH K (b,0+l.length * 1) [.i .i64 x]=some (K.put b (.raw (.cells (eB (l++[x])++r)))):=by
    have h1:l.length + [AV.i .i64 x].length≤(eB l++y::r).length:=by simp[wO]
    have h2:=YK (eB l) (y::r) [.i .i64 x]
    rw[wO]at h2
    simp only[mH,hb,Nat.zero_add,Nat.mul_one,h1,h2,zcH]
    simp
   refine Wz (m:=1) hr (by simp) hcap (by omega) hw ?_
   refine hk _ b _ ⟨cap,r,ex,by simp,ze _ _ _,by simp at hc ⊢;omega,he⟩ (.inl rfl) ?_
   intro q hq _
   rw[zb _ _ _ hq]
  ·have hsp:sp=[]:=List.length_eq_zero_iff.1 (by omega)
   subst hsp
   have hg:∃M,Zn K (some (b,0)) ex 1=some M∧(∀r,r≠b→M r=K r):=by
    rcases he with rfl | rfl
    ·exact⟨K,by simp[Zn],fun _ _=>rfl⟩
    ·exact⟨K.del b,by simp[Zn,hb],fun r hr=>by rw[yL,if_neg hr]⟩
   obtain⟨M,hM,hMr⟩:=hg
   refine w9 (m:=1) hr (by simp) hcap (by omega) (Ak.cells (cap:=cap) hb) hM ?_
   intro q hq
   refine hk _ q _ ⟨l.length+1,[],1,by simp,by simp[Lg.ah,zcH],by simp,.inr rfl⟩ (.inr hq) ?_
   intro r hr Ae
   rw[zb _ _ _ hr]
   exact hMr r (fun h9=>Ae (by rw[h9]))
end
section
variable {F:Nat→Option aT} {L:Lg}
def Ch.sg:Ch:=⟨[],0,[],[],false,true,false⟩
theorem XH (hf:BU F):zd F hU [] L fun r L'=>∃c,L c=none∧r=.p (some (c,0))∧L'=L.put c (.abs (yy c .sg)):=by
 apply Rg hf.code
 unfold uB
 refine (zaF hf.f22 0 (by omega)).mono ?_
 rintro _ L1 ⟨c,rg,q1,q2,hc,rfl,h⟩
 have h2:=h.GG false true false
 simp[zD h.root]
 exact⟨_,h2.shut,c,hc,rfl,rfl⟩
theorem Va:∀(ws:List Wk) (i:Nat) (w:Wk),ws[i]?=some w→((yr ws).drop (i * 5)).take 5=w.cells∧i * 5+5≤(yr ws).length
 | [],i,w,h=>by simp at h
 | a::r,0,w,h=>by simp at h;subst h;simp[yr,Wk.cells]
 | a::r,i+1,w,h=>by
  have:=Va r i w (by simpa using h)
  have e:(i+1) * 5=i * 5+1+1+1+1+1:=by omega
  rw[e]
  simp only[yr,Wk.cells,List.cons_append,List.nil_append,List.drop_succ_cons,List.length_cons]
  exact⟨this.1,by omega⟩
def Il (L:Lg)(s:AV)(ws:List Wk):Prop:=(ws=[]∧s=.sl none 0 0 0)∨∃b ex,s=.sl (some (b,0)) ws.length ws.length ex∧L b=some (.raw (.cells (yr ws)))
theorem W0 (hf:Gg F){s:AV}{ws:List Wk}(hs:Il L s ws)(hl:ws.length≤1000000){f:Nat}{fst cap:List AV}{p:Wk→Bool}
  (hso:∀w:Wk,zd F f (fst++(.agg w.cells)::cap) L fun v L'=>v=.b (p w)∧L'=L):zd F jT [s,.fn f fst cap] L fun v L'=>v=.b (ws.any p)∧L'=L:=by
 apply Rd hf.code
 unfold uu
 have key:zd F jU [s,.fn f fst cap] L fun v L'=>(∃i:Int,v=.i .i64 i∧(decide (0≤i)=ws.any p))∧L'=L:=by
  apply Re hf.f131.code
  unfold uz ux
  obtain⟨a,cp,ex,En⟩:∃a cp ex,s=.sl a ws.length cp ex:=by
   rcases hs with⟨rfl,rfl⟩ | ⟨b,ex,rfl,_⟩
   ·exact⟨none,0,0,rfl⟩
   ·exact⟨_,_,_,rfl⟩
  simp[En,uw]
  refine zN (fun n l' L'=>∃i:Nat,i≤ws.length∧n=ws.length-i∧(∀x,x∈ws.take i→p x=false)∧L'=L∧l' 0=s∧l' 1=.fn f fst cap∧l' 7=.i .i64 ws.length∧l' 8=.i .i64 i)
   ws.length ⟨0,by omega,by omega,by simp,rfl,by simp[En],by simp,by simp,by simp⟩ ?_
  rintro n l' t L' ⟨i,hi,hn,hA,rfl,l0,l1,l7,l8⟩
  unfold uv
  rw[l0,l1,l7,l8]
  by_cases hlt:i<ws.length
  ·have hne:ws≠[]:=by rintro rfl;simp at hlt
   rcases hs with⟨h1,_⟩ | ⟨b,ex,rfl,hL⟩
   ·exact absurd h1 hne
   have hw:ws[i]?=some ws[i]:=List.getElem?_eq_getElem hlt
   have iD:=Va ws i _ hw
   have e1:((i:Int)<(ws.length:Int)):=by omega
   simp[hlt,yn _ _ _ 5 b 0 ws.length ws.length ex .i64 (i:Int) (Int.natCast_nonneg _) e1,aq,AB.read,zR,hL,cut,zp,iD.2,iD.1]
   refine (hso ws[i]).mono ?_
   rintro _ L2 ⟨rfl,rfl⟩
   rw[xM]
   refine⟨fun hp=>?_,fun hp=>?_⟩
   ·simp
    have:ws.any p=true:=List.any_eq_true.2 ⟨ws[i],List.getElem_mem _,hp⟩
    simpa using this
   ·have e2:wr .i64 ((i:Int)+1)=((i+1:Nat):Int):=by rw[zT (by omega) (by omega)];omega
    simp
    refine⟨ws.length-(i+1),by omega,i+1,by omega,rfl,?_,l0,l1,l7,e2⟩
    intro x hx
    rw[List.take_add_one,hw]at hx
    rcases List.mem_append.1 hx with hx | hx
    ·exact hA x hx
    ·simp at hx;rw[hx];exact hp
  ·have e1:¬((i:Int)<(ws.length:Int)):=by omega
   have e2:i=ws.length:=by omega
   simp[hlt,uy]
   rw[e2,List.take_length]at hA
   simpa using hA
 refine key.mono ?_
 rintro _ _ ⟨⟨i,rfl,hi⟩,rfl⟩
 simp[←hi]
theorem ZN:∀(a b:List Wk),yr (a++b)=yr a++yr b
 | [],_=>rfl
 | w::r,b=>by simp[yr,ZN r b]
theorem aV.keep {c rg q1 q2:Nat}{x:Ch}{K K':Lg}(h:aV L c x rg q1 q2 K)(e:∀r,(r=c∨r=rg∨r=q1∨r=q2∨L r≠(Option.none:Option LC))→K' r=K r):aV L c x rg q1 q2 K' :=
 ⟨h.n1,h.n2,h.n3,h.n4,h.n5,h.n6,by rw[e c (.inl rfl)];exact h.root,by rw[e rg (.inr (.inl rfl))];exact h.ring,by rw[e q1 (.inr (.inr (.inl rfl)))];exact h.Am,by rw[e q2 (.inr (.inr (.inr (.inl rfl))))];exact h.snd,
  fun b d h1 h2 h3 h4 hd=>by rw[e b (.inr (.inr (.inr (.inr (by rw[hd];simp)))))];exact h.old b d h1 h2 h3 h4 hd,h.f1,h.f2,h.f3⟩
theorem ZM.slK {v:AV}{acc:List Wk}{K:Lg}(h:ZM K v (yr acc) acc.length 5):Il K v acc:=by
 rcases h with⟨h1,h2,h3⟩ | ⟨b,h1,h2,h3,h4⟩
 ·exact .inl ⟨List.length_eq_zero_iff.1 h1,h3⟩
 ·exact .inr ⟨b,5,h2,h3⟩
section
variable {c rg q1 q2:Nat} {x:Ch} {K:Lg} {Q:AV→Lg→Prop}
structure EI (L:Lg)(c rg q1 q2:Nat)(x:Ch)(acc:List Wk)(v:AV)(K:Lg):Prop where
 op:aV L c x rg q1 q2 K
 own:ZM K v (yr acc) acc.length 5
 ap:∀b,au v=some b→b≠c∧b≠rg∧b≠q1∧b≠q2∧L b=Option.none
theorem EI.Ey {acc:List Wk}{v:AV}(h:EI L c rg q1 q2 x acc v K){a:Nat}(ha:K a=Option.none)(z:LC):EI L c rg q1 q2 x acc v (K.put a z):=by
 refine⟨h.op.ext ((yu.refl _).put ha _),?_,h.ap⟩
 rcases h.own with h1 | ⟨b,h1,h2,h3,h4⟩
 ·exact .inl h1
 ·have hn:b≠a:=by
   rintro rfl
   rw[ha]at h3;cases h3
  exact .inr ⟨b,h1,h2,by rw[zb _ _ _ hn];exact h3,h4⟩
theorem EI.ob {acc:List Wk}{v:AV}(h:EI L c rg q1 q2 x acc v K)(ws:List Wt):EI L c rg q1 q2 { x with recvs:=ws } acc v (K.put q1 (.abs (xg q1 ws))):=by
 refine⟨h.op.ob ws,?_,h.ap⟩
 rcases h.own with h1 | ⟨b,h1,h2,h3,h4⟩
 ·exact .inl h1
 ·exact .inr ⟨b,h1,h2,by rw[zb _ _ _ (h.ap b (by rw[h2];rfl)).2.2.1];exact h3,h4⟩
theorem EI.push {acc:List Wk}{v:AV}(h:EI L c rg q1 q2 x acc v K){w:Wk}{src:AV}{b1:Nat}{ex cp:Nat}(hs:src=.sl (some (b1,0)) 1 cp ex)(hb:K b1=some (.raw (.cells w.cells)))(hn:acc.length≤1000000){k:AV→Lg→Prop}
  (hk:∀v' K',EI L c rg q1 q2 x (acc++[w]) v' K'→(∀r d,K r=some d→au v≠some r→K' r=some d)→(∀b,au v'=some b→K b=none)→k v' K'):Xp 5 32 K k [v,src]:=by
 have h1:w.cells.all AV.one=true:=by simp[Wk.cells]
 refine h.own.app (m:=1) (by omega) hs (by omega) (new:=w.cells) (by simp[zH,hb,AB.read,cut,zp,Wk.cells]) (by simp[Wk.cells]) h1 (by omega) ?_
 intro b2 bT
 have hd:∀r d,K r=some d→au v≠some r→((K.ij (au v)).put b2 (.raw (.cells (yr acc++w.cells)))) r=some d:=by
  intro r d hr hne
  have n2:r≠b2:=by rintro rfl;rw[bT]at hr;cases hr
  rw[zb _ _ _ n2]
  cases hh:au v with
  | none=>exact hr
  | some b=>rw[hh]at hne;simp only[Lg.ij];rw[yL,if_neg];exact hr;intro h9;exact hne (by rw[h9])
 have hkeep:∀r,(r=c∨r=rg∨r=q1∨r=q2∨L r≠(Option.none:Option LC))→((K.ij (au v)).put b2 (.raw (.cells (yr acc++w.cells)))) r=K r:=by
  intro r hr
  have hne:au v≠some r:=by
   intro h9
   have:=h.ap r h9
   rcases hr with h8 | h8 | h8 | h8 | h8
   ·exact this.1 h8
   ·exact this.2.1 h8
   ·exact this.2.2.1 h8
   ·exact this.2.2.2.1 h8
   ·exact h8 this.2.2.2.2
  have hex:∃d,K r=some d:=by
   rcases hr with rfl | rfl | rfl | rfl | h8
   ·exact⟨_,h.op.root⟩
   ·exact⟨_,h.op.ring⟩
   ·exact⟨_,h.op.Am⟩
   ·exact⟨_,h.op.snd⟩
   ·cases hL:L r with
    | none=>exact absurd hL h8
    | some d =>
     by_cases e1:r=c
     ·subst e1;exact⟨_,h.op.root⟩
     by_cases e2:r=rg
     ·subst e2;exact⟨_,h.op.ring⟩
     by_cases e3:r=q1
     ·subst e3;exact⟨_,h.op.Am⟩
     by_cases e4:r=q2
     ·subst e4;exact⟨_,h.op.snd⟩
     exact⟨d,h.op.old r d e1 e2 e3 e4 hL⟩
  obtain⟨d,hd1⟩:=hex
  rw[hd1];exact hd r d hd1 hne
 have hw:yr acc++w.cells=yr (acc++[w]):=by rw[ZN];simp[yr]
 refine hk _ _ ⟨h.op.keep hkeep,?_,?_⟩ hd (fun b h9=>by simp[au]at h9;subst h9;exact bT)
 ·have:=h.own.IP (m:=1) (b:=b2) (new:=w.cells) (by omega) (by simp[Wk.cells])
  rw[hw]at this
  rw[hw]
  simpa using this
 ·intro b hb'
  simp[au]at hb'
  subst hb'
  have nk:∀{y:Nat} {k:LC},K y=some k→b2≠y:=fun hx ie=>by rw[←ie,bT]at hx;cases hx
  exact⟨nk h.op.root,nk h.op.ring,nk h.op.Am,nk h.op.snd,(h.op.none bT).2⟩
end
end
section
variable {F:Nat→Option aT}
def yv (p:Bool)(acc:List Wk)(w:Wt):List Wk:=if (acc.any fun y=>decide (y.t=w.t))=true then acc else acc++[⟨w.t,w.c,0,false,p⟩]
def Ch.bG (x:Ch):List Wk:=x.aF.foldl (yv true) (x.recvs.foldl (yv false) [])
def Ch.ended (x:Ch):Ch:={ x with recvs:=[],aF:=[],closed:=true }
section
variable {L K:Lg} {c rg q1 q2:Nat} {x:Ch} {Q:AV→Lg→Prop}
theorem zfv (hf:Gh F){K:Lg}{b5:Nat}{w:Wt}(hb:K b5=some (.raw (.cells w.cells)))(y:Wk) :
  zd F jV ([]++(.agg y.cells)::[.p (some (b5,0))]) K fun v L'=>v=.b (decide (y.t=w.t))∧L'=K:=by
 refine zr ?_
 intro Q hQ
 apply Rf hf.code
 unfold uA
 simp
 rw[zL _ _ _ (by simp[Wk.cells])]
 intro b bP
 have hn:b5≠b:=by rintro rfl;rw[hb]at bP;cases bP
 have h1:aq (K.put b (.raw (.cells y.cells))) (b,0) none=some (.i .i64 y.t):=by rw[zj (ze _ _ _)];rfl
 have h2:aq (K.put b (.raw (.cells y.cells))) (b5,0) none=some (.i .i64 w.t):=by rw[zj (by rw[zb _ _ _ hn];exact hb)];rfl
 simp[h1,h2]
 exact⟨_,(((yu.refl K).put bP _).cj),hQ _ _ ⟨rfl,rfl⟩⟩
theorem EI.keep {acc:List Wk}{v:AV}(h:EI L c rg q1 q2 x acc v K){K':Lg}(e:∀r,(r=c∨r=rg∨r=q1∨r=q2∨L r≠(Option.none:Option LC)∨au v=some r)→K' r=K r):EI L c rg q1 q2 x acc v K':=by
 refine⟨h.op.keep fun r hr=>e r (by rcases hr with h | h | h | h | h<;>simp[h]),?_,h.ap⟩
 rcases h.own with h1 | ⟨b,h1,h2,h3,h4⟩
 ·exact .inl h1
 ·exact .inr ⟨b,h1,h2,by rw[e b (by simp[h2,au])];exact h3,h4⟩
theorem EI.Bj {acc:List Wk}{v:AV}(h:EI L c rg q1 q2 x acc v K)(ws:List Wt):EI L c rg q1 q2 { x with aF:=ws } acc v (K.put q2 (.abs (xg q2 ws))):=by
 refine⟨h.op.Bj ws,?_,h.ap⟩
 rcases h.own with h1 | ⟨b,h1,h2,h3,h4⟩
 ·exact .inl h1
 ·exact .inr ⟨b,h1,h2,by rw[zb _ _ _ (h.ap b (by rw[h2];rfl)).2.2.2.1];exact h3,h4⟩
def Ch.rest (x:Ch)(p:Bool)(ws:List Wt):Ch:=if p=true then { x with aF:=ws }else { x with recvs:=ws }
def Ab (q1 q2:Nat)(p:Bool):Nat:=if p=true then q2 else q1
theorem EI.zj7 {acc:List Wk}{v:AV}{p:Bool}{ws0:List Wt}(h:EI L c rg q1 q2 (x.rest p ws0) acc v K)(ws:List Wt):EI L c rg q1 q2 (x.rest p ws) acc v (K.put (Ab q1 q2 p) (.abs (xg (Ab q1 q2 p) ws))):=by
 cases p
 ·exact h.ob ws
 ·exact h.Bj ws
theorem EI.zmW {acc:List Wk}{v:AV}{p:Bool}{ws:List Wt}(h:EI L c rg q1 q2 (x.rest p ws) acc v K):K (Ab q1 q2 p)=some (.abs (xg (Ab q1 q2 p) ws)):=by
 cases p
 ·exact h.op.Am
 ·exact h.op.snd
structure EL (L:Lg)(c rg q1 q2:Nat)(x:Ch)(p:Bool)(bq:Nat)(cq:LC)(todo:List Wt)(acc:List Wk)(E:Env)(K:Lg):Prop where
 ei:EI L c rg q1 q2 (x.rest p todo.tail) acc (E 2) K
 l0:E 0=.p (some (c,0))
 l4:E 4=.p (some (Ab q1 q2 p,0))
 l6:E 6=.b (!todo.isEmpty)
 l5:∃b5,E 5=.p (some (b5,0))∧au (E 2)≠some b5∧(∀w r,todo=w::r→K b5=some (.raw (.cells w.cells)))
 bq0:K bq=some cq
 TY:bq≠c∧bq≠rg∧bq≠q1∧bq≠q2∧au (E 2)≠some bq
theorem zgo (hf:E9 F){p:Bool}{bq:Nat}{cq:LC}{ws:List Wt}{acc:List Wk}{E:Env}(ei:EI L c rg q1 q2 (x.rest p ws) acc (E 2) K)(l0:E 0=.p (some (c,0)))(l4:E 4=.p (some (Ab q1 q2 p,0)))
  (b0:K bq=some cq) (b1:bq≠c∧bq≠rg∧bq≠q1∧bq≠q2∧au (E 2)≠some bq) {b5:Nat} (k5:∃cs,K b5=some (.raw (.cells cs))∧cs.length=3) (Eo:au (E 2)≠some b5∧b5≠c∧b5≠rg∧b5≠q1∧b5≠q2∧L b5=Option.none∧b5≠bq) (h5:E 5=.p (some (b5,0))) {k:AV→Lg→Prop}
  (hk:∀(w:Wt) (K':Lg),K' b5=K b5→(∀E',E' 0=E 0→E' 2=E 2→E' 4=E 4→E' 5=E 5→E' 6=.b (!ws.isEmpty)→EL L c rg q1 q2 x p bq cq ws acc E' (K'.put b5 (.raw (.cells w.cells))))→k (.ay [w.av,.b (!ws.isEmpty)]) K'):zd F fq [.p (some (Ab q1 q2 p,0))] K k:=by
 refine (vE hf ei.zmW).mono ?_
 intro v K' hv
 have q5:b5≠Ab q1 q2 p:=by cases p<;>simp[Ab,Eo]
 cases ws with
 | nil =>
  obtain⟨rfl,rfl⟩:=hv
  refine hk Wt.zero K' rfl ?_
  intro E' e0 e2 e4 e5 e6
  refine⟨?_,by rw[e0,l0],by rw[e4,l4],e6,⟨b5,by rw[e5,h5],by rw[e2];exact Eo.1,fun w r h=>by cases h⟩,?_,?_⟩
  ·rw[e2]
   refine ei.keep fun r hr=>zb _ _ _ ?_
   rintro rfl
   rcases hr with h | h | h | h | h | h
   ·exact Eo.2.1 h
   ·exact Eo.2.2.1 h
   ·exact Eo.2.2.2.1 h
   ·exact Eo.2.2.2.2.1 h
   ·exact h Eo.2.2.2.2.2.1
   ·exact Eo.1 h
  ·rw[zb _ _ _ (Ne.symm Eo.2.2.2.2.2.2)];exact b0
  ·rw[e2];exact b1
 | cons w r =>
  obtain⟨rfl,rfl⟩:=hv
  refine hk w _ (zb _ _ _ q5) ?_
  intro E' e0 e2 e4 e5 e6
  refine⟨?_,by rw[e0,l0],by rw[e4,l4],e6,⟨b5,by rw[e5,h5],by rw[e2];exact Eo.1,fun w' r' h=>by cases h;exact ze _ _ _⟩,?_,?_⟩
  ·rw[e2]
   refine (ei.zj7 r).keep fun r hr=>zb _ _ _ ?_
   rintro rfl
   rcases hr with h | h | h | h | h | h
   ·exact Eo.2.1 h
   ·exact Eo.2.2.1 h
   ·exact Eo.2.2.2.1 h
   ·exact Eo.2.2.2.2.1 h
   ·exact h Eo.2.2.2.2.2.1
   ·exact Eo.1 h
  ·have hq:bq≠Ab q1 q2 p:=by cases p<;>simp[Ab,b1]
   rw[zb _ _ _ (Ne.symm Eo.2.2.2.2.2.2),zb _ _ _ hq];exact b0
  ·rw[e2];exact b1
end
end
section
variable {F:Nat→Option aT}
section
variable {L K:Lg} {c rg q1 q2:Nat} {x:Ch} {Q:AV→Lg→Prop}
theorem EI.fresh {acc:List Wk}{v:AV}(h:EI L c rg q1 q2 x acc v K){b:Nat}(hb:K b=Option.none):au v≠some b∧b≠c∧b≠rg∧b≠q1∧b≠q2∧L b=Option.none:=by
 refine⟨?_,?_,?_,?_,?_,(h.op.none hb).2⟩
 ·intro h9
  rcases h.own with⟨_,_,h1⟩ | ⟨b',h1,h2,h3,h4⟩
  ·rw[h1]at h9;cases h9
  ·rw[h2]at h9;simp[au]at h9;subst h9;rw[hb]at h3;cases h3
 ·rintro rfl;have:=h.op.root;rw[hb]at this;cases this
 ·rintro rfl;have:=h.op.ring;rw[hb]at this;cases this
 ·rintro rfl;have:=h.op.Am;rw[hb]at this;cases this
 ·rintro rfl;have:=h.op.snd;rw[hb]at this;cases this
theorem eqQ (h:aV L c x rg q1 q2 K)(p:Bool):P3 K (some (Ab q1 q2 p,0)) (some (q2,0))=some p:=by
 cases p
 ·simp[P3,Ab,h.n6,zeY,h.Am,h.snd]
 ·simp[P3,Ab]
theorem zjE (hf:pQ F){p:Bool}{bq:Nat}{cq:LC}{todo:List Wt}{acc:List Wk}{E:Env}{k1 k2:Env→Lg→Prop}(h:EL L c rg q1 q2 x p bq cq todo acc E K)(hlen:acc.length+todo.length≤1000000)
  (h0:todo=[]→nW F Q k1 E K)
  (hs:∀w r,todo=w::r→∀E' K',EL L c rg q1 q2 x p bq cq r (yv p acc w) E' K'→E' 18=E 18→E' 19=E 19→E' 20=E 20→k2 E' K'):nU F Q k1 k2 E K:=by
 unfold nU
 rw[h.l6,xM]
 cases todo with
 | nil=>exact⟨fun h9=>by simp at h9,fun _=>h0 rfl⟩
 | cons w r =>
  refine⟨fun _=>?_,fun h9=>by simp at h9⟩
  obtain⟨b5,e5,n5,c5⟩:=h.l5
  have k5:=c5 w r rfl
  have ei:=h.ei
  simp at ei hlen
  rw[h.l0,h.l4,e5]
  simp
  refine (W0 hf.f132 ei.own.slK (by omega) (p:=fun y=>decide (y.t=w.t)) (zfv hf.f130 k5)).mono ?_
  rintro _ K' ⟨rfl,bU⟩
  rw[bU]
  clear bU K'
  have r5:aq K (b5,0) (some 3)=some (.agg w.cells):=by
   rw[yc k5 (by simp[Wt.cells])];simp[Wt.cells]
  have tail:∀(r':List Wt) (v:AV) (K2:Lg) (acc':List Wk),r'=r→EI L c rg q1 q2 (x.rest p r') acc' v K2→K2 bq=some cq→au v≠some bq→acc'=yv p acc w→∀E0:Env,E0 0=.p (some (c,0))→E0 4=.p (some (Ab q1 q2 p,0))→E0 2=v→E0 18=E 18→E0 19=E 19→E0 20=E 20 →
    ∀b,K2 b=Option.none→jy 3 (K2.put b (.raw (.cells [.i .i64 0,.i .i64 0,.i .i64 0]))) (fun _ ku=>zd F fq [.p (some (Ab q1 q2 p,0))] ku fun nY iu=>za F (.ext 0) [nY] iu fun Ib ir=>za F (.ext 1) [nY] ir fun v20 ni=>za F (.st 3) [.p (some (b,0)),Ib] ni fun _ F5 =>
     k2 (Env.put (Env.put (Env.put E0 53 (.agg w.cells)) 5 (.p (some (b,0)))) 6 v20) F5) [.p (some (b,0)),.agg w.cells]:=by
   rintro r' v K2 acc' rfl e2 kq sq rfl E0 a0 a4 a2 a18 a19 a20 b6 Jg
   have kj:=e2.fresh Jg
   have nq6:bq≠b6:=by rintro rfl;rw[kq]at Jg;cases Jg
   rw[zu (n:=3) (ze _ _ _) (by simp[Wt.cells]) (by simp[Wt.cells]) (by simp)]
   have e3:=e2.Ey Jg (.raw (.cells (zo [.i .i64 0,.i .i64 0,.i .i64 0] 0 w.cells)))
   simp
   have spw:∀(a b c:AV) (w:Wt),zo [a,b,c] 0 w.cells=w.cells:=fun _ _ _ _=>rfl
   rw[zA,spw]
   rw[spw]at e3
   refine zgo (cq:=cq) (E:=Env.put (Env.put E0 53 (.agg w.cells)) 5 (.p (some (b6,0)))) (b5:=b6) (acc:=yv p acc w) (ws:=r') hf.f14 (by simpa[a2]using e3) (by simp[a0]) (by simp[a4]) (by rw[zb _ _ _ nq6];exact kq) ⟨h.TY.1,h.TY.2.1,h.TY.2.2.1,h.TY.2.2.2.1,by simpa[a2]using sq⟩ ⟨_,ze _ _ _,by simp[Wt.cells]⟩ ⟨by simpa[a2]using kj.1,kj.2.1,kj.2.2.1,kj.2.2.2.1,kj.2.2.2.2.1,kj.2.2.2.2.2,Ne.symm nq6⟩ (by simp) ?_
   intro w2 K3 EP hE
   simp
   rw[ze]at EP
   have hw3:zo w.cells 0 w2.cells=w2.cells:=rfl
   rw[Wt.av,zu (n:=3) EP (by simp[Wt.cells]) (by simp[Wt.cells]) (by simp[Wt.cells]),hw3]
   refine hs w r' rfl _ _ (hE _ ?_ ?_ ?_ ?_ ?_) ?_ ?_ ?_<;>simp[a18,a19,a20]
  cases hc:acc.any fun y=>decide (y.t=w.t)
  ·have hw:yv p acc w=acc++[⟨w.t,w.c,0,false,p⟩]:=by simp[yv,hc]
   have f0:aq K (b5,0) none=some (.i .i64 w.t):=by rw[zj k5];rfl
   have f1:aq K (b5,1) none=some (.i .i64 w.c):=by rw[zj k5];rfl
   have f2:aq K (c,2) none=some (.p (some (q2,0))):=by rw[zj ei.op.root];rfl
   simp[f0,f1,f2,zi4,eqQ ei.op p,zF,zo,zp,zq,AV.cellsOf]
   rw[yg (c:=[.i .i64 w.t,.i .i64 w.c,.i .i64 0,.b false,.b p]) _ _ (by simp[y7,zF,zo,zp,zq,AV.cellsOf]) (by simp)]
   intro b1 bP
   have A6:=ei.fresh bP
   have ei1:=ei.Ey bP (.raw (.cells [.i .i64 w.t,.i .i64 w.c,.i .i64 0,.b false,.b p]))
   simp
   refine ei1.push (w:=⟨w.t,w.c,0,false,p⟩) rfl (by simp[Wk.cells]) (by omega) ?_
   intro v' K2 ei2 gE hfr
   have n51:b5≠b1:=by rintro rfl;rw[k5]at bP;cases bP
   have nq1:bq≠b1:=by rintro rfl;rw[h.bq0]at bP;cases bP
   have k51:(K.put b1 (.raw (.cells [.i .i64 w.t,.i .i64 w.c,.i .i64 0,.b false,.b p]))) b5=some (.raw (.cells w.cells)):=by rw[zb _ _ _ n51];exact k5
   have kq1:(K.put b1 (.raw (.cells [.i .i64 w.t,.i .i64 w.c,.i .i64 0,.b false,.b p]))) bq=some cq:=by rw[zb _ _ _ nq1];exact h.bq0
   have k52:K2 b5=some (.raw (.cells w.cells)):=gE b5 _ k51 n5
   have kq2:K2 bq=some cq:=gE bq _ kq1 h.TY.2.2.2.2
   have sq2:au v'≠some bq:=by intro h9;have:=hfr _ h9;rw[kq1]at this;cases this
   have r52:aq K2 (b5,0) (some 3)=some (.agg w.cells):=by
    rw[yc k52 (by simp[Wt.cells])];simp[Wt.cells]
   simp[r52]
   have GU:(acc++[⟨w.t,w.c,0,false,p⟩]:List Wk).length+r.length≤1000000:=by simp;omega
   rw[←hw]at ei2 GU
   refine tail r v' K2 (yv p acc w) rfl ei2 kq2 sq2 rfl (Env.put E 2 v') ?_ ?_ ?_ ?_ ?_ ?_<;>simp[h.l0,h.l4]
  ·have hw:yv p acc w=acc:=by simp[yv,hc]
   simp[r5]
   exact tail r (E 2) K (yv p acc w) rfl (by rw[hw];exact ei) h.bq0 h.TY.2.2.2.2 rfl E h.l0 h.l4 rfl rfl rfl rfl
end
end
section
variable {F:Nat→Option aT}
section
variable {L K:Lg} {c rg q1 q2:Nat} {x:Ch} {Q:AV→Lg→Prop}
theorem zaw (hf:pQ F){p:Bool}{bq:Nat}{ws:List Wt}{acc:List Wk}{E:Env}{k1:Env→Lg→Prop}(ei:EI L c rg q1 q2 (x.rest p ws) acc (E 2) K)(hlen:acc.length+ws.length≤1000000)
  (l0:E 0=.p (some (c,0))) (l18:E 18=.sl (some (bq,0)) 2 2 0) (l19:E 19=.i .i64 2) (MG:E 20=.i .i64 (if p=true then 1 else 0)) (b0:K bq=some (.raw (.cells [.p (some (q1,0)),.p (some (q2,0))]))) (b1:bq≠c∧bq≠rg∧bq≠q1∧bq≠q2∧au (E 2)≠some bq)
  (hk:∀(E':Env) (K':Lg),EI L c rg q1 q2 (x.rest p []) (ws.foldl (yv p) acc) (E' 2) K'→K' bq=some (.raw (.cells [.p (some (q1,0)),.p (some (q2,0))]))→au (E' 2)≠some bq→E' 0=.p (some (c,0))→E' 18=.sl (some (bq,0)) 2 2 0→E' 19=.i .i64 2→E' 20=.i .i64 (if p=true then 2 else 1)→k1 E' K') :
  fL F Q k1 E K:=by
 unfold fL
 rw[l19,MG]
 have hlt:(if p=true then (1:Int)else 0)<2:=by cases p<;>simp
 simp[hlt]
 unfold jl
 simp
 unfold Eb
 rw[l18,MG]
 have e1:(if p=true then (1:Int)else 0)<((2:Nat):Int):=by cases p<;>simp
 have e0:(0:Int)≤(if p=true then (1:Int)else 0):=by cases p<;>simp
 rw[yn F _ _ 1 bq 0 2 2 0 .i64 _ e0 e1]
 have r1:aq K (bq,0+(if p=true then (1:Int)else 0).toNat * 1) none=some (.p (some (Ab q1 q2 p,0))):=by
  rw[zj b0];cases p<;>rfl
 simp only[zt,r1,zg]
 unfold Ea
 simp only[Env.ah,if_true]
 generalize TI:Env.put E 4 (.p (some (Ab q1 q2 p,0)))=E1
 have a0:E1 0=.p (some (c,0)):=by rw[←TI];simpa using l0
 have a2:E1 2=E 2:=by rw[←TI];simp
 have a4:E1 4=.p (some (Ab q1 q2 p,0)):=by rw[←TI];simp
 have a18:E1 18=.sl (some (bq,0)) 2 2 0:=by rw[←TI];simpa using l18
 have a19:E1 19=.i .i64 2:=by rw[←TI];simpa using l19
 have a20:E1 20=.i .i64 (if p=true then 1 else 0):=by rw[←TI];simpa using MG
 -- Bh first pop has no box yet
 refine (vE hf.f14 ei.zmW).mono ?_
 intro v K' hv
 have go:∀(w:Wt) (tl:List Wt) (K':Lg),tl=ws.tail→v=.ay [w.av,.b (!ws.isEmpty)]→(∀w' r,ws=w'::r→w=w')→EI L c rg q1 q2 (x.rest p tl) acc (E 2) K'→K' bq=some (.raw (.cells [.p (some (q1,0)),.p (some (q2,0))])) →
   za F (.ext 0) [v] K' fun v2 L2=>za F (.ext 1) [v] L2 fun v3 L3=>za F (.alloc [.i .i64 0,.i .i64 0,.i .i64 0]) [] L3 fun v4 L4=>za F (.st 3) [v4,v2] L4 fun _ L5=>nV F Q k1 (Env.put (Env.put E1 5 v4) 6 v3) L5:=by
  rintro w tl K' rfl rfl hw e2 kq
  simp
  intro b6 Jg
  have kj:=e2.fresh Jg
  have nq6:bq≠b6:=by rintro rfl;rw[kq]at Jg;cases Jg
  have hw3:∀(a b c:AV) (w:Wt),zo [a,b,c] 0 w.cells=w.cells:=fun _ _ _ _=>rfl
  rw[Wt.av,zu (n:=3) (ze _ _ _) (by simp[Wt.cells]) (by simp[Wt.cells]) (by simp[Wt.cells]),zA,hw3]
  have e3:=e2.Ey Jg (.raw (.cells w.cells))
  unfold nV
  obtain⟨I,hI⟩:∃I:Nat→Env→Lg→Prop,I=fun m E' K'=>∃todo acc',m=todo.length∧acc'.length+todo.length≤1000000∧todo.foldl (yv p) acc'=ws.foldl (yv p) acc∧EL L c rg q1 q2 x p bq (.raw (.cells [.p (some (q1,0)),.p (some (q2,0))])) todo acc' E' K'∧E' 18=E1 18∧E' 19=E1 19∧E' 20=E1 20:=⟨_,rfl⟩
  refine zN I ws.length ?_ ?_
  ·rw[hI]
   refine⟨ws,acc,rfl,hlen,rfl,⟨by simpa[a2]using e3,by simp[a0],by simp[a4],by simp,⟨b6,by simp,by simpa[a2]using kj.1,?_⟩,?_,?_⟩,by simp,by simp,by simp⟩
   ·intro w' r h;rw[hw w' r h,ze]
   ·rw[zb _ _ _ nq6];exact kq
   ·simpa[a2]using b1
  ·intro m E' t K2 hi
   rw[hI]at hi
   obtain⟨todo,acc',hm,FM,A4,hel,h18,h19,h20⟩:=hi
   refine zjE hf hel FM ?_ ?_
   ·rintro rfl
    unfold nW
    rw[h20,a20]
    have w1:wr .i64 ((if p=true then (1:Int)else 0)+1)=if p=true then 2 else 1:=by cases p<;>rfl
    simp only[y6,w1]
    have hei:=hel.ei
    simp only[List.tail_nil]at hei
    simp only[List.foldl_nil]at A4
    rw[A4]at hei
    refine hk _ _ ?_ hel.bq0 ?_ ?_ ?_ ?_ ?_
    ·simpa using hei
    ·simpa using hel.TY.2.2.2.2
    ·simpa using hel.l0
    ·simpa[a18]using h18
    ·simpa[a19]using h19
    ·simp
   ·intro w' r hr E2 K3 zpI g18 g19 g20
    rw[hI]
    subst hr
    refine⟨r.length,by rw[hm];simp,r,yv p acc' w',rfl,?_,?_,zpI,by rw[g18,h18],by rw[g19,h19],by rw[g20,h20]⟩
    ·simp at FM
     have:(yv p acc' w').length≤acc'.length+1:=by unfold yv;split<;>simp
     omega
    ·simpa using A4
 subst TI
 cases FG:ws with
 | nil =>
  rw[FG]at hv
  obtain⟨rfl,rfl⟩:=hv
  exact go Wt.zero [] K' (by rw[FG];rfl) (by rw[FG];rfl) (fun w' r h=>by rw[FG]at h;cases h) (by rw[←FG];exact ei) b0
 | cons w r =>
  rw[FG]at hv
  obtain⟨rfl,rfl⟩:=hv
  have hq:bq≠Ab q1 q2 p:=by cases p<;>simp[Ab,b1]
  exact go w r _ (by rw[FG];rfl) (by rw[FG];rfl) (fun w' r' h=>by rw[FG]at h;cases h;rfl) (ei.zj7 r) (by rw[zb _ _ _ hq];exact b0)
theorem UP (p:Bool):∀(ws:List Wt) (acc:List Wk),(ws.foldl (yv p) acc).length≤acc.length+ws.length
 | [],acc=>by simp
 | w::r,acc=>by
  have h1:=UP p r (yv p acc w)
  have h2:(yv p acc w).length≤acc.length+1:=by unfold yv;split<;>simp
  simp only[List.foldl_cons,List.length_cons]
  omega
theorem zgH (hf:pQ F)(op:aV L c x rg q1 q2 K)(hlen:x.recvs.length+x.aF.length≤1000000):zd F jS [.p (some (c,0))] K fun v K'=>EI L c rg q1 q2 x.ended x.bG v K':=by
 refine zr ?_
 intro Q hQ
 apply Rc hf.code
 unfold Gy ur
 have fc:=op.GG x.bH x.signal true
 simp[zI]
 rw[zD op.root (by simp) rfl]
 have hc:(K.put c (.raw (.cells ([AV.p (some (rg,0)),.p (some (q1,0)),.p (some (q2,0)),.b x.bH,.b x.signal,.b x.closed].set 5 (.b true)))))=K.put c (vW rg q1 q2 { x with bH:=x.bH,signal:=x.signal,closed:=true }):=rfl
 rw[hc]
 generalize ki:K.put c (vW rg q1 q2 { x with bH:=x.bH,signal:=x.signal,closed:=true })=K1 at fc
 unfold um
 have f1:aq K1 (c,1) none=some (.p (some (q1,0))):=by rw[zj fc.root];rfl
 have f2:aq K1 (c,2) none=some (.p (some (q2,0))):=by rw[zj fc.root];rfl
 simp[f1,f2]
 rw[yg (c:=[.p (some (q1,0)),.p (some (q2,0))]) _ _ (by simp[y7,zF,zo,zp,zq,AV.cellsOf]) (by simp)]
 intro bq Oh
 have ei0:EI L c rg q1 q2 ({ x with closed:=true }) [] (.sl none 0 0 0) K1:=⟨fc,.inl ⟨rfl,rfl,rfl⟩,fun b h=>by cases h⟩
 have fr:=ei0.fresh Oh
 have ei:=ei0.Ey Oh (.raw (.cells [.p (some (q1,0)),.p (some (q2,0))]))
 simp
 unfold uk
 obtain⟨I,hI⟩:∃I:Nat→Env→Lg→Prop,I=fun m E K=>∃(y:Ch) (acc:List Wk),EI L c rg q1 q2 y acc (E 2) K∧K bq=some (.raw (.cells [.p (some (q1,0)),.p (some (q2,0))]))∧au (E 2)≠some bq∧E 0=.p (some (c,0))∧E 18=.sl (some (bq,0)) 2 2 0∧E 19=.i .i64 2 ∧
  ((m=2∧y={ x with closed:=true }∧acc=[]∧E 20=.i .i64 0)∨(m=1∧y={ x with closed:=true,recvs:=[] }∧acc=x.recvs.foldl (yv false) []∧E 20=.i .i64 1)∨(m=0∧y=x.ended∧acc=x.bG∧E 20=.i .i64 2)):=⟨_,rfl⟩
 refine zN I 2 ?_ ?_
 ·rw[hI]
  exact⟨_,[],by simpa using ei,ze _ _ _,by simp[au],by simp,by simp,by simp,.inl ⟨rfl,rfl,rfl,by simp⟩⟩
 ·intro m E t K2 hi
  rw[hI]at hi
  obtain⟨y,acc,e,kb,sb,l0,l18,l19,h⟩:=hi
  rcases h with⟨rfl,rfl,rfl,MG⟩ | ⟨rfl,rfl,hacc,MG⟩ | ⟨rfl,rfl,hacc,MG⟩
  ·refine zaw (x:={ x with closed:=true }) (p:=false) (ws:=x.recvs) hf e (by simp;omega) l0 l18 l19 MG kb ⟨fr.2.1,fr.2.2.1,fr.2.2.2.1,fr.2.2.2.2.1,sb⟩ ?_
   intro E' K' e' kb' sb' m0 m18 m19 m20
   rw[hI]
   exact⟨1,by omega,_,_,e',kb',sb',m0,m18,m19,.inr (.inl ⟨rfl,rfl,rfl,m20⟩)⟩
  ·have:=UP false x.recvs []
   simp at this
   refine zaw (x:={ x with closed:=true,recvs:=[] }) (p:=true) (ws:=x.aF) hf e (by rw[hacc];omega) l0 l18 l19 MG kb ⟨fr.2.1,fr.2.2.1,fr.2.2.2.1,fr.2.2.2.2.1,sb⟩ ?_
   intro E' K' e' kb' sb' m0 m18 m19 m20
   rw[hI]
   exact⟨0,by omega,_,_,e',kb',sb',m0,m18,m19,.inr (.inr ⟨rfl,rfl,by rw[hacc];rfl,m20⟩)⟩
  ·unfold fL
   rw[l19,MG]
   simp
   unfold jl
   simp
   unfold uq
   simp
   rw[hacc]at e
   exact⟨_,zx.refl _,hQ _ _ e⟩
theorem aV.ET (op:aV L c x rg q1 q2 K){b:Nat}{d:LC}(hb:K b=some d)(hn:b≠rg∧b≠q1∧b≠q2):aV (L.put b d) c x rg q1 q2 K :=
 ⟨op.n1,op.n2,op.n3,op.n4,op.n5,op.n6,op.root,op.ring,op.Am,op.snd,fun r e h1 h2 h3 h4 he=>by
  rw[Lg.ah]at he
  split at he
  ·rename_i h9;subst h9;cases he;exact hb
  ·exact op.old r e h1 h2 h3 h4 he,by rw[zb _ _ _ (Ne.symm hn.1)];exact op.f1,by rw[zb _ _ _ (Ne.symm hn.2.1)];exact op.f2,by rw[zb _ _ _ (Ne.symm hn.2.2)];exact op.f3⟩
def zjU (L:Lg)(v:AV)(ws:List Wk)(L':Lg):Prop:=(ws=[]∧v=.sl none 0 0 0∧L'=L)∨∃b ex,L b=none∧0<ws.length∧v=.sl (some (b,0)) ws.length ws.length ex∧(ex=0∨ex=5)∧L'=L.put b (.raw (.cells (yr ws)))
theorem EI.fin {acc:List Wk}{v:AV}(h:EI L c rg q1 q2 x acc v K)(hL:∃d,L c=some d):∃L',zjU (L.put c (.abs (yy c x))) v acc L'∧zx K L':=by
 rcases h.own with⟨h1,h2,h3⟩ | ⟨b,h1,h2,h3,h4⟩
 ·exact⟨_,.inl ⟨List.length_eq_zero_iff.1 h1,h3,rfl⟩,h.op.shut⟩
 ·have ap:=h.ap b (by rw[h2];rfl)
  have:=(h.op.ET h3 ⟨ap.2.1,ap.2.2.1,ap.2.2.2.1⟩).shut
  rw[yJ _ ap.1]at this
  exact⟨_,.inr ⟨b,5,by rw[zb _ _ _ ap.1];exact ap.2.2.2.2,h1,h2,.inr rfl,rfl⟩,this⟩
def Ch.cB (x:Ch):Ch×List Wk:=if x.signal=true∧x.closed=false then (x.ended,x.bG)else (x,[])
theorem zdM (hf:pP F)(e:L c=some (.abs (yy c x)))(hlen:x.recvs.length+x.aF.length≤1000000):zd F fu [.p (some (c,0))] L fun v L'=>zjU (L.put c (.abs (yy c x.cB.1))) v x.cB.2 L':=by
 refine zr ?_
 intro Q hQ
 apply vR e
 intro rg q1 q2 K op
 apply IL hf.code
 unfold jk
 have f4:aq K (c,4) none=some (.b x.signal):=by rw[zj op.root];rfl
 have f5:aq K (c,5) none=some (.b x.closed):=by rw[zj op.root];rfl
 cases hs:x.signal
 ·simp[f4,f5,hs]
  exact⟨_,op.back e,hQ _ _ (.inl ⟨by simp[Ch.cB,hs],rfl,by simp[Ch.cB,hs,ye L c _ e]⟩)⟩
 ·cases hc:x.closed
  ·simp[f4,f5,hs,hc]
   refine (zgH hf.f133 op hlen).mono ?_
   intro v K' ei
   obtain⟨L',h1,h2⟩:=ei.fin ⟨_,e⟩
   simp
   exact⟨L',h2,hQ _ _ (by simpa[Ch.cB,hs,hc]using h1)⟩
  ·simp[f4,f5,hs,hc]
   exact⟨_,op.back e,hQ _ _ (.inl ⟨by simp[Ch.cB,hs,hc],rfl,by simp[Ch.cB,hs,hc,ye L c _ e]⟩)⟩
theorem zfI (hf:pP F):zd F fu [.p none] L fun v L'=>v=.sl none 0 0 0∧L'=L:=by
 refine zr ?_
 intro Q hQ
 apply IL hf.code
 unfold jk
 simp
 exact⟨_,zx.refl _,hQ _ _ ⟨rfl,rfl⟩⟩
end
end
section
variable {F:Nat→Option aT}
structure Nd where
 parent:Int
 linked:Bool
 kids:List Int
def yN:List Nd→(Nat→AV)→Nat→List AV
 | [],_,_=>[]
 | n::r,kv,j=>[.i .i64 n.parent,.b n.linked,kv j]++yN r kv (j+1)
theorem wi:∀(ns:List Nd) (kv:Nat→AV) (j:Nat),(yN ns kv j).length=ns.length * 3
 | [],_,_=>rfl
 | n::r,kv,j=>by simp[yN,wi r kv (j+1)];omega
theorem wM:∀(ns:List Nd) (kv:Nat→AV) (j i k:Nat) (n:Nd),ns[i]?=some n→k<3→(yN ns kv j)[i * 3+k]?=[AV.i .i64 n.parent,.b n.linked,kv (j+i)][k]?
 | [],_,_,i,k,n,h,_=>by simp at h
 | a::r,kv,j,0,k,n,h,hk=>by
  simp at h;subst h
  simp only[yN,Nat.zero_mul,Nat.zero_add,Nat.add_zero]
  rw[List.getElem?_append_left (by simp;omega)]
 | a::r,kv,j,i+1,k,n,h,hk=>by
  have:=wM r kv (j+1) i k n (by simpa using h) hk
  have e:(i+1) * 3+k=[AV.i .i64 a.parent,.b a.linked,kv j].length+(i * 3+k):=by simp;omega
  rw[e]
  simp only[yN]
  rw[List.getElem?_append_right (by omega),Nat.add_sub_cancel_left,this,show j+1+i=j+(i+1) by omega]
theorem Yq:∀(ns ms:List Nd) (kv:Nat→AV) (j:Nat),yN (ns++ms) kv j=yN ns kv j++yN ms kv (j+ns.length)
 | [],ms,kv,j=>by simp[yN]
 | n::r,ms,kv,j=>by
  simp only[List.cons_append,yN,Yq r ms kv (j+1),List.length_cons,List.append_assoc]
  rw[show j+1+r.length=j+(r.length+1) by omega]
theorem Zi:∀(ns:List Nd) (kv kv':Nat→AV) (j:Nat),(∀i,i<ns.length→kv (j+i)=kv' (j+i))→yN ns kv j=yN ns kv' j
 | [],_,_,_,_=>rfl
 | n::r,kv,kv',j,h=>by
  simp only[yN]
  rw[Zi r kv kv' (j+1) (fun i hi=>by have:=h (i+1) (by simp;omega);rw[show j+1+i=j+(i+1) by omega];exact this)]
  have:=h 0 (by simp)
  simp at this
  rw[this]
theorem Vx:∀(ns:List Nd) (kv:Nat→AV) (j i:Nat) (n:Nd) (v:AV) (l:List Int),ns[i]?=some n→(yN ns kv j).set (i * 3+2) v=yN (ns.set i { n with kids:=l }) (fun q=>if q=j+i then v else kv q) j
 | [],_,_,i,n,v,l,h=>by simp at h
 | a::r,kv,j,0,n,v,l,h=>by
  simp at h;subst h
  simp[yN]
  refine Zi r kv _ (j+1) fun i hi=>?_
  rw[if_neg (by omega)]
 | a::r,kv,j,i+1,n,v,l,h=>by
  have:=Vx r kv (j+1) i n v l (by simpa using h)
  have e:(i+1) * 3+2=(i * 3+2)+1+1+1:=by omega
  rw[e]
  simp only[yN,List.cons_append,List.nil_append,List.set_cons_succ,this]
  have e2:j+1+i=j+(i+1):=by omega
  rw[e2,if_neg (by omega)]
theorem X4:∀(ns:List Nd) (kv:Nat→AV) (j i:Nat) (n:Nd) (b:Bool),ns[i]?=some n→(yN ns kv j).set (i * 3+1) (.b b)=yN (ns.set i { n with linked:=b }) kv j
 | [],_,_,i,n,b,h=>by simp at h
 | a::r,kv,j,0,n,b,h=>by
  simp at h;subst h
  simp[yN]
 | a::r,kv,j,i+1,n,b,h=>by
  have:=X4 r kv (j+1) i n b (by simpa using h)
  have e:(i+1) * 3+1=(i * 3+1)+1+1+1:=by omega
  rw[e]
  simp only[yN,List.cons_append,List.nil_append,List.set_cons_succ,this]
def NSl (sv:AV)(ns:List Nd)(kv:Nat→AV)(nb:Option Nat)(t:Nat)(L K:Lg):Prop:=match nb with
 | none=>sv=.sl none 0 0 0∧ns=[]
 | some b=>sv=.sl (some (b,0)) ns.length ns.length 3∧K b=some (.raw (.cells (yN ns kv 0)))∧b≠t∧L b=none∧0<ns.length
structure bR (L:Lg)(t:Nat)(ns:List Nd)(sv:AV)(kv:Nat→AV)(nb:Option Nat)(kb:Nat→Option Nat)(K:Lg):Prop where
 root:K t=some (.raw (.cells [sv]))
 arr:NSl sv ns kv nb t L K
 Ev:∀(j:Nat) (n:Nd),ns[j]?=some n→Ak (kv j) n.kids (kb j) K
 Eu:∀(j q:Nat),j<ns.length→kb j=some q→q≠t∧nb≠some q∧L q=none
 MI:∀i j q:Nat,i<ns.length→j<ns.length→kb i=some q→kb j=some q→i=j
 old:∀r d,r≠t→L r=some d→K r=some d
def xG (t:Nat)(ns:List Nd)(hp:Hp):Prop:=∃sv kv nb kb M,bR Lg.nil t ns sv kv nb kb M∧Sat M hp
theorem Ak.mono {v:AV}{l:List Int}{bo:Option Nat}{K M:Lg}(h:Ak v l bo K)(e:∀q,bo=some q→M q=K q):Ak v l bo M:=by
 cases bo with
 | none=>exact h
 | some b =>
  obtain⟨cap,sp,ex,h1,h2,h3,h4⟩:=h
  exact⟨cap,sp,ex,h1,by rw[e b rfl];exact h2,h3,h4⟩
theorem NSl.mono {sv:AV}{ns:List Nd}{kv:Nat→AV}{nb:Option Nat}{t:Nat}{L L' K M:Lg}(h:NSl sv ns kv nb t L K)(e:∀q,nb=some q→M q=K q)(f:∀q,nb=some q→L' q=none):NSl sv ns kv nb t L' M:=by
 cases nb with
 | none=>exact h
 | some b =>
  obtain⟨h1,h2,h3,h4,h5⟩:=h
  exact⟨h1,by rw[e b rfl];exact h2,h3,f b rfl,h5⟩
section
variable {L L0 K:Lg} {t:Nat} {ns:List Nd} {sv:AV} {kv:Nat→AV} {nb:Option Nat} {kb:Nat→Option Nat}
theorem bR.shut (o:bR L t ns sv kv nb kb K):zx K (L.put t (.abs (xG t ns))):=by
 refine yZ (fun r=>r=t∨nb=some r∨∃j,j<ns.length∧kb j=some r) (.inl rfl) ?_ ?_ (.inl ⟨_,o.root⟩) ?_
 ·intro r d hr hd;simp only[not_or]at hr;exact o.old r d hr.1 hd
 ·rintro r (rfl | h | ⟨j,hj,hq⟩) hr
  ·exact absurd rfl hr
  ·have:=o.arr;rw[h]at this;exact this.2.2.2.1
  ·exact (o.Eu j r hj hq).2.2
 ·intro M hm hM hN hs
  refine⟨sv,kv,nb,kb,M,⟨by rw[hM t (.inl rfl)];exact o.root,o.arr.mono (fun q hq=>hM q (.inr (.inl hq))) (fun _ _=>rfl),?_,?_,o.MI,fun r d _ hd=>by cases hd⟩,hs⟩
  ·intro j n hn
   have hj:j<ns.length:=(List.getElem?_eq_some_iff.1 hn).1
   exact (o.Ev j n hn).mono fun q hq=>hM q (.inr (.inr ⟨j,hj,hq⟩))
  ·intro j q hj hq
   have:=o.Eu j q hj hq
   exact⟨this.1,this.2.1,rfl⟩
theorem Z6 {f:Nat}{vs:List AV}{Q:AV→Lg→Prop}(e:L t=some (.abs (xG t ns)))(H:∀sv kv nb kb K,bR L t ns sv kv nb kb K→zd F f vs K Q):zd F f vs L Q:=by
 apply y3 e
 rintro hm ⟨sv,kv,nb,kb,M,o,hs⟩
 refine⟨M,hs,by rw[o.root];simp,fun hf=>?_⟩
 have cA:∀b d,M b=some d→(M.ak L) b=some d:=fun b d hb=>by simp[Lg.ak,hb]
 have HX:∀q,nb=some q→∃d,M q=some d∧q≠t:=fun q hq=>by
  have:=o.arr;rw[hq]at this;exact⟨_,this.2.1,this.2.2.1⟩
 have IV:∀j q,j<ns.length→kb j=some q→∃d,M q=some d:=fun j q hj hq=>by
  have:=o.Ev j ns[j] (List.getElem?_eq_getElem hj)
  rw[hq]at this
  obtain⟨cap,sp,ex,_,h2,_⟩:=this
  exact⟨_,h2⟩
 refine H sv kv nb kb (M.ak L) ⟨cA _ _ o.root,?_,?_,?_,o.MI,?_⟩
 ·refine o.arr.mono (fun q hq=>?_) (fun q hq=>?_)
  ·obtain⟨d,h1,_⟩:=HX q hq;rw[h1];exact cA _ _ h1
  ·obtain⟨d,h1,h2⟩:=HX q hq;exact hf _ _ h1 h2
 ·intro j n hn
  have hj:j<ns.length:=(List.getElem?_eq_some_iff.1 hn).1
  refine (o.Ev j n hn).mono fun q hq=>?_
  obtain⟨d,h1⟩:=IV j q hj hq
  rw[h1];exact cA _ _ h1
 ·intro j q hj hq
  have:=o.Eu j q hj hq
  obtain⟨d,h1⟩:=IV j q hj hq
  exact⟨this.1,this.2.1,hf _ _ h1 this.1⟩
 ·intro r d hr hd
  cases hM:M r with
  | none=>simp[Lg.ak,hM,hd]
  | some c=>rw[hf r c hM hr]at hd;cases hd
theorem bR.back (o:bR L t ns sv kv nb kb K)(e:L t=some (.abs (xG t ns))):zx K L:=by
 have:=o.shut
 rwa [ye L t _ e]at this
theorem bR.ne (o:bR L t ns sv kv nb kb K){r:Nat}(hr:K r=none):r≠t∧L r=none:=by
 have n:r≠t:=by rintro rfl;rw[o.root]at hr;cases hr
 refine⟨n,?_⟩
 cases e:L r with
 | none=>rfl
 | some d=>rw[o.old r d n e]at hr;cases hr
theorem bR.bW (o:bR L t ns sv kv nb kb K){r:Nat}(hr:K r=none)(d:LC):bR (L.put r d) t ns sv kv nb kb (K.put r d):=by
 have nbk:∀{y:Nat} {k:LC},K y=some k→y≠r:=fun hx ie=>by rw[ie,hr]at hx;cases hx
 have HX:∀q,nb=some q→q≠r∧L q=none:=fun q hq=>by
  have:=o.arr;rw[hq]at this;exact⟨nbk this.2.1,this.2.2.2.1⟩
 have IV:∀j q,j<ns.length→kb j=some q→q≠r:=fun j q hj hq=>by
  have:=o.Ev j ns[j] (List.getElem?_eq_getElem hj)
  rw[hq]at this
  obtain⟨cap,sp,ex,_,h2,_⟩:=this
  exact nbk h2
 refine⟨by rw[zb _ _ _ (nbk o.root)];exact o.root,o.arr.mono (fun q hq=>zb _ _ _ (HX q hq).1) (fun q hq=>by rw[zb _ _ _ (HX q hq).1];exact (HX q hq).2),?_,?_,o.MI,?_⟩
 ·intro j n hn
  have hj:j<ns.length:=(List.getElem?_eq_some_iff.1 hn).1
  exact (o.Ev j n hn).mono fun q hq=>zb _ _ _ (IV j q hj hq)
 ·intro j q hj hq
  have:=o.Eu j q hj hq
  exact⟨this.1,this.2.1,by rw[zb _ _ _ (IV j q hj hq)];exact this.2.2⟩
 ·intro y k hy hk
  rw[Lg.ah]at hk ⊢
  split
  ·rename_i h9;rw[if_pos h9]at hk;exact hk
  ·rename_i h9;rw[if_neg h9]at hk;exact o.old y k hy hk
theorem NSl.len (h:NSl sv ns kv nb t L K)(M:Lg)(k:AV→Lg→Prop):za F .ax [sv] M k=k (.i .i64 ns.length) M:=by
 cases nb with
 | none=>obtain⟨rfl,rfl⟩:=h;simp
 | some b=>obtain⟨rfl,_⟩:=h;simp
theorem UT (hf:Gl F):zd F jZ [] L fun v L'=>∃t,L t=none∧v=.p (some (t,0))∧L'=L.put t (.abs (xG t [])):=by
 refine zr ?_
 intro Q hQ
 apply Rr hf.code
 unfold uU
 simp[zF]
 rw[zL _ _ _ (by simp)]
 intro t ht
 have o:bR L t [] (.sl none 0 0 0) (fun _=>.bad) none (fun _=>none) (L.put t (.raw (.cells [.sl none 0 0 0]))) :=
  ⟨ze _ _ _,⟨rfl,rfl⟩,fun j n h=>by simp at h,fun j q h=>by simp at h,fun i j q h=>by simp at h,fun r d hr hd=>by rw[zb _ _ _ hr];exact hd⟩
 simp
 exact⟨_,o.shut,hQ _ _ ⟨t,ht,rfl,rfl⟩⟩
theorem UU (hf:Gk F)(o:bR L t ns sv kv nb kb K):zd F jY [.p (some (t,0))] K fun v K'=>v=.i .i64 ns.length∧K'=K:=by
 refine zr ?_
 intro Q hQ
 apply Rq hf.code
 unfold uT
 have f:aq K (t,0) none=some sv:=by rw[zj o.root];rfl
 simp[f,o.arr.len]
 exact⟨_,zx.refl _,hQ _ _ ⟨rfl,rfl⟩⟩
def YQ (ns:List Nd)(id:Int):Bool:=decide (0≤id)&&decide (id<ns.length)
theorem Zb (hf:pT F)(o:bR L t ns sv kv nb kb K)(id:Int):zd F fA [.p (some (t,0)),.i .i64 id] K fun v K'=>v=.b (YQ ns id)∧K'=K:=by
 refine zr ?_
 intro Q hQ
 apply Rp hf.code
 unfold uS
 by_cases c1:0≤id
 ·simp[c1]
  refine (UU hf.f118 o).mono ?_
  rintro _ K' ⟨rfl,rfl⟩
  simp[c1]
  exact⟨_,zx.refl _,hQ _ _ ⟨by simp[YQ,c1],rfl⟩⟩
 ·simp[c1]
  exact⟨_,zx.refl _,hQ _ _ ⟨by simp[YQ,c1],rfl⟩⟩
theorem Un {ns:List Nd}{id:Int}(h:YQ ns id=true):∃i:Nat,id=(i:Int)∧i<ns.length:=by
 simp[YQ]at h
 obtain⟨i,rfl⟩:=Int.eq_ofNat_of_zero_le h.1
 exact⟨i,rfl,by omega⟩
def dK (ns:List Nd)(id:Int):List Int:=if YQ ns id=true then (ns.getD id.toNat ⟨0,false,[]⟩).kids else []
theorem VY (hf:Ge F)(e:L t=some (.abs (xG t ns)))(hk:∀n∈ns,n.kids.length≤1000000)(id:Int):zd F jQ [.p (some (t,0)),.i .i64 id] L fun r L' =>
  (dK ns id=[]∧r=.sl none 0 0 0∧L'=L)∨∃b ex,L b=none∧r=.sl (some (b,0)) (dK ns id).length (dK ns id).length ex∧L'=L.put b (.raw (.cells (eB (dK ns id)))):=by
 refine zr ?_
 intro Q hQ
 apply Z6 e
 intro sv kv nb kb K o
 have eW:=o.back e
 apply Ra hf.code
 unfold uh
 refine (Zb hf.f119 o id).mono ?_
 rintro _ K' ⟨rfl,bU⟩
 rw[bU]
 clear bU K'
 cases hh:YQ ns id
 ·simp
  exact⟨_,eW,hQ _ _ (.inl ⟨by simp[dK,hh],rfl,rfl⟩)⟩
 ·obtain⟨i,rfl,hi⟩:=Un hh
  have f:aq K (t,0) none=some sv:=by rw[zj o.root];rfl
  have dR:=o.Ev i ns[i] (List.getElem?_eq_getElem hi)
  have hks:dK ns i=ns[i].kids:=by simp[dK,hh,hi]
  cases nb with
  | none=>have:=o.arr.2;rw[this]at hi;simp at hi
  | some b =>
   obtain⟨a1,a2,a3,a4,a5⟩:=o.arr
   rw[a1]at f
   have ei:(i:Int)<(ns.length:Int):=by omega
   have f2:aq K (b,i * 3+2) none=some (kv i):=by
    rw[zj a2,wM ns kv 0 i 2 ns[i] (List.getElem?_eq_getElem hi) (by omega)]
    simp
   simp[f,f2,yn _ _ _ 3 b 0 ns.length ns.length 3 .i64 (i:Int) (Int.natCast_nonneg _) ei]
   refine (zdL hf.f135 dR (hk _ (List.getElem_mem hi))).mono ?_
   rintro r K2 (⟨h1,rfl,gE⟩ | ⟨b2,ex,h1,rfl,gE⟩)
   ·rw[gE]
    exact⟨_,eW,hQ _ _ (.inl ⟨by rw[hks,h1],rfl,rfl⟩)⟩
   ·rw[gE]
    have hne:=o.ne h1
    refine⟨_,(o.bW h1 (.raw (.cells (eB ns[i].kids)))).back (by rw[zb _ _ _ (Ne.symm hne.1)];exact e),hQ _ _ (.inr ⟨b2,ex,hne.2,by rw[hks],by rw[hks]⟩)⟩
end
end
end Go.AM
