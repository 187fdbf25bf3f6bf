/- The texts LibRefO, LibRefP, LibRefQ, LibRefR, LibRefS, LibRefT, LibRefU, LibRefV, LibRefW, LibSimA, LawTimerActsA, LawTimerActsB, LibSimB, LawCtxAftersP, LibSimC, LawTimerActsC, LawTimerActsD, LibSimD, LibSimE, LibSimF of a proof of CtxActs, merged. -/
import Derived.Test.YtmecehkjocjkiaaGreatCtxActsG6
set_option linter.unusedVariables false
set_option linter.unusedSimpArgs false
namespace Go.AM
section
variable {F:Nat→Option AFn}
section
variable {L K:Lg} {c:Nat} {tv nv cv av:AV} {S:CX}
theorem w8 {S:CX}{w:Nat}{x x':One}(hx:S.σ.ones[w]?=some x)(h1:x'.c=x.c)(h2:x'.node=x.node):(S.setOne w x').σ.names=S.σ.names:=by
 simp only[Cs.names,CX.setOne]
 apply List.ext_getElem?
 intro j
 simp only[List.getElem?_map]
 by_cases hj:w=j
 ·subst hj
  rw[List.getElem?_set_self (List.getElem?_eq_some_iff.1 hx).1,hx];simp[h1,h2]
 ·rw[List.getElem?_set_ne hj]
theorem zba (hf:H_f201 F){T:List Nd}(ht:TreeOk T):∀n,zg0 F N T n
 | 0=>by intro c k A S err cause B L K nds tv nv cv av v1 v2 ps sts h1 h2;omega
 | n+1=>by
  intro c k A S err cause B L K nds tv nv cv av v1 v2 ps sts hn hk hS hA hL hN tf o out rr hp hs
  have ih:=zba hf ht n
  have hself:k∈pre T (n+1) k:=by simp[pre]
  have hTl:=ht.len
  have hkid:∀j∈zI T (k:Int),∀i∈pre T n j,i∈pre T (n+1) k∧i≠k:=fun j hj i hi=>by
   have h3:=xh ht hj
   have h4:=(vW ht _ _ _ hi).1
   refine⟨?_,by omega⟩
   simp only[pre,List.mem_cons,List.mem_flatMap]
   exact .inr ⟨j,hj,hi⟩
  have hpre:pre T (n+1) k=k::(zI T (k:Int)).flatMap (pre T n):=rfl
  refine zr ?_
  intro Q hQ
  apply r_f201 hf.code
  generalize hE:zJ [AV.p (some (c,0)),.i .i64 k,.i .i64 err,.i .i64 cause,v1,v2] 0=E
  have e0:E 0=.p (some (c,0)):=by rw[←hE];simp[zJ]
  have e1:E 1=.i .i64 k:=by rw[←hE];simp[zJ]
  have e2:E 2=.i .i64 err:=by rw[←hE];simp[zJ]
  have e3:E 3=.i .i64 cause:=by rw[←hE];simp[zJ]
  have e4:E 4=v1:=by rw[←hE];simp[zJ]
  have e5:E 5=v2:=by rw[←hE];simp[zJ]
  clear hE
  unfold D_f201_1 D_f201_2
  have f0:(Env.put (Env.put E 12 (.sl none 0 0 0)) 13 (.sl none 0 0 0)) 0=.p (some (c,0)):=by simp[e0]
  have f1:(Env.put (Env.put E 12 (.sl none 0 0 0)) 13 (.sl none 0 0 0)) 1=.i .i64 k:=by simp[e1]
  have f2:(Env.put (Env.put E 12 (.sl none 0 0 0)) 13 (.sl none 0 0 0)) 2=.i .i64 err:=by simp[e2]
  have f3:(Env.put (Env.put E 12 (.sl none 0 0 0)) 13 (.sl none 0 0 0)) 3=.i .i64 cause:=by simp[e3]
  have f4:(Env.put (Env.put E 12 (.sl none 0 0 0)) 13 (.sl none 0 0 0)) 4=v1:=by simp[e4]
  have f5:(Env.put (Env.put E 12 (.sl none 0 0 0)) 13 (.sl none 0 0 0)) 5=v2:=by simp[e5]
  generalize (Env.put (Env.put E 12 (.sl none 0 0 0)) 13 (.sl none 0 0 0))=E1 at f0 f1 f2 f3 f4 f5
  clear e0 e1 e2 e3 e4 e5
  have hkn:k<nds.length:=by rw[o.n.len,hS,yC];exact hk
  obtain⟨b,hb,hcells,hia⟩:=o.nb (F:=F) hkn
  rw[f0,f1]
  simp only[zf,zg,zj,Nat.zero_add,zt,o.f2,zh,hia]
  have g0:(Env.put E1 14 (.p (some (b,k * 12)))) 0=.p (some (c,0)):=by simp[f0]
  have g1:(Env.put E1 14 (.p (some (b,k * 12)))) 1=.i .i64 k:=by simp[f1]
  have g2:(Env.put E1 14 (.p (some (b,k * 12)))) 2=.i .i64 err:=by simp[f2]
  have g3:(Env.put E1 14 (.p (some (b,k * 12)))) 3=.i .i64 cause:=by simp[f3]
  have g4:(Env.put E1 14 (.p (some (b,k * 12)))) 4=v1:=by simp[f4]
  have g5:(Env.put E1 14 (.p (some (b,k * 12)))) 5=v2:=by simp[f5]
  have g14:(Env.put E1 14 (.p (some (b,k * 12)))) 14=.p (some (b,k * 12)):=by simp
  generalize (Env.put E1 14 (.p (some (b,k * 12))))=E2 at g0 g1 g2 g3 g4 g5 g14
  clear f0 f1 f2 f3 f4 f5 E1
  unfold D_f201_15
  rw[g14]
  rcases hL k hself with⟨w,x,q1,q2,q3,q4,q5,q6,q7⟩ | ⟨q,x,q1,q2,q3,q4,q5⟩
  case inr =>
   have hx:=o.n.aft q k x q3 q4
   have r0:rdL K (b,k * 12) none=some (.b true):=by have:=o.rn hb hx (j:=0) (by omega);simpa[wy,RNd.cells]using this
   simp only[zf,zg,zj,Nat.add_zero,zt,r0,zh]
   have hpk:pre T (n+1) k=[k]:=by rw[hpre,q5];rfl
   rw[hpk]at hs
   refine zgh (err:=err) (cause:=cause) hf.f196 hS hk tf o out rr (by simp at hs;omega) q1 q3 q4 (hN k hself q x q1 q3) hb g0 g1 g4 g5 g14 ?_
   intro w2 K' nds' o' rr'
   rw[←hpk]at o' rr'
   have hneg:(-(q:Int)-1)<0:=by omega
   have hkk:(-(-(q:Int)-1)-1)=(q:Int):=by omega
   have hw:walked T err cause A [k] (S,ps.map (·.1),sts)=(({ S with σ:={ S.σ with afts:=S.σ.afts.set q { x with over:=true } } }:CX).setTree (ye T fun i=>A i||decide (i∈[k])),ps.map (·.1),sts++[((q:Int),x.prog)]):=by
    unfold walked z9
    simp only[List.foldl_cons,List.foldl_nil,q1,Option.getD_some,hneg,if_true,hkk,Int.toNat_natCast,q3]
   refine hQ _ _ ⟨_,L,nds',v1,w2,ps,rfl,rfl,o',?_,FrR.refl _ _ _,rr',?_,?_,?_,?_⟩
   all_goals rw[hpk,hw]
   ·exact⟨out.tms,out.chs⟩
   ·exact tf
   ·rfl
   ·rfl
  -- a context
  have hx:=o.n.one w k x q2 q3
  have hcl:=(List.getElem?_eq_some_iff.1 hx).1
  have rn:=fun (j:Nat) (hj:j<12)=>o.rn hb hx hj
  have r0:rdL K (b,k * 12) none=some (.b false):=by have:=rn 0 (by omega);simpa[zG,RNd.cells]using this
  have r5:rdL K (b,k * 12+5) none=some (.i .i64 0):=by rw[rn 5 (by omega)];simp[zG,RNd.cells,q5]
  have r4:rdL K (b,k * 12+4) none=some (.b false):=by rw[rn 4 (by omega)];simp[zG,RNd.cells,q4]
  simp only[zf,zg,zj,Nat.add_zero,zt,r0,zh]
  unfold D_f201_16 D_f201_4
  rw[g14]
  simp only[zf,zB,zg,zj,zt,r5,r4,zh,w7,ne_eq,not_true_eq_false,decide_false,zx,yk,zX]
  unfold D_f201_5
  rw[g14,g2,g3]
  simp only[zf,zg,zj,yv]
  rw[zH hcells (by rw[zV RNd.len];omega) rfl]
  have hs5:(zm RNd.cells nds).set (k * 12+5) (.i .i64 err)=zm RNd.cells (nds.set k (zG w { x with err:=err })):=xj RNd.len nds k (zG w x) (zG w { x with err:=err }) 5 _ hx (by omega) rfl
  rw[hs5]
  simp only[zf,zg,zj,yv]
  rw[zH (ze _ _ _) (by rw[zV RNd.len];simp;omega) rfl,zA]
  have hx5:(nds.set k (zG w { x with err:=err }))[k]?=some (zG w { x with err:=err }):=List.getElem?_set_self hcl
  have hs6:(zm RNd.cells (nds.set k (zG w { x with err:=err }))).set (k * 12+6) (.i .i64 cause)=zm RNd.cells (nds.set k (zG w { x with err:=err,cause:=cause })):=by
   have h9:(zm RNd.cells (nds.set k (zG w { x with err:=err }))).set (k * 12+6) (.i .i64 cause)=zm RNd.cells ((nds.set k (zG w { x with err:=err })).set k (zG w { x with err:=err,cause:=cause })):=xj RNd.len _ k (zG w { x with err:=err }) (zG w { x with err:=err,cause:=cause }) 6 _ hx5 (by omega) rfl
   rw[h9,List.set_set]
  rw[hs6]
  obtain⟨S1,hS1⟩:∃S1,S1=S.setOne w { x with err:=err,cause:=cause }:=⟨_,rfl⟩
  have o1:XR L c S1.σ (nds.set k (zG w { x with err:=err,cause:=cause })) tv nv cv av (K.put b (.raw (.cells (zm RNd.cells (nds.set k (zG w { x with err:=err,cause:=cause })))))):=by
   rw[hS1]
   exact o.node hb (by simp) rfl rfl (wm q2 rfl) rfl (o.n.setOne q2 q3 rfl)
  have rr1:RRes L c [tv,nv,cv,av] (K.put b (.raw (.cells (zm RNd.cells (nds.set k (zG w { x with err:=err,cause:=cause })))))) v1 v2 ps sts:=rr.keep (fun q' y hq hy=>by rw[zb _ _ _ (by rintro rfl;exact hq.2.2 nv (by simp) hb)];exact hy) (fun q' hq _=>hq.1)
  have hx1:S1.σ.ones[w]?=some { x with err:=err,cause:=cause }:=by rw[hS1];exact List.getElem?_set_self (List.getElem?_eq_some_iff.1 q2).1
  have hn1:S1.σ.names=S.σ.names:=by rw[hS1];exact w8 q2 rfl rfl
  have ht1:S1.σ.t=S.σ.t:=by rw[hS1];rfl
  have out1:OutR c S1 L:=by
   refine⟨fun s hs=>by rw[ht1]at hs;rw[hS1];exact out.tms s hs,fun y hy a ha=>?_⟩
   have h8:∃y'∈S.σ.ones,y'.c=some a:=by
    have h1:(y.c,y.node)∈S1.σ.names:=List.mem_map.2 ⟨y,hy,rfl⟩
    rw[hn1]at h1
    obtain⟨p,hp,he⟩:=List.mem_map.1 h1
    simp only[Prod.mk.injEq]at he
    exact⟨p,hp,by rw[he.1];exact ha⟩
   obtain⟨y',hy',ha'⟩:=h8
   rw[ht1,hS1]
   exact out.chs y' hy' a ha'
  have tf1:TFine S1.τ B:=by rw[hS1];exact tf
  generalize (K.put b (.raw (.cells (zm RNd.cells (nds.set k (zG w { x with err:=err,cause:=cause }))))))=K1 at o1 rr1
  have hxn:(nds.set k (zG w { x with err:=err,cause:=cause }))[k]?=some (zG w { x with err:=err,cause:=cause }):=List.getElem?_set_self hcl
  generalize nds.set k (zG w { x with err:=err,cause:=cause })=nds1 at o1 hxn
  unfold D_f201_6
  rw[g14,g2,g3,g4]
  have s1:rdL K1 (b,k * 12+1) none=some (.i .i64 w):=by rw[o1.rn hb hxn (by omega)];rfl
  have s11:rdL K1 (b,k * 12+11) none=some (ptr x.c):=by rw[o1.rn hb hxn (by omega)];rfl
  simp only[zf,zg,zj,zt,s1,s11,zh]
  have hsz:∀a,({ x with err:=err,cause:=cause }:One).c=some a→(S1.χ a).recvs.length+(S1.χ a).sends.length≤1000000:=by rw[hS1];exact q6
  refine (ze7 hf.f199 o1 out1 hx1 hsz).mono ?_
  rintro v7 K2 ⟨L2,o2,out2,fr2,lf2,hv7,fv7,raw2⟩
  have hef:=wj S1 x.c
  obtain⟨S2,hS2⟩:∃S2,S2=S1.endT x.c:=⟨_,rfl⟩
  simp only at out2 hv7
  rw[←hS2]at out2 hv7 hef
  have o2':XR L2 c S2.1.σ nds1 tv nv cv av K2:=by rw[hef.1];exact o2
  have rr2:RRes L2 c [tv,nv,cv,av] K2 v1 v2 ps sts:=rr1.keep (fun q' y hq hy=>raw2 q' y hy) (fun q' hq _=>lf2 q' hq.1)
  have hbd:∀k':AV→Lg→Prop,za F (.build [.i .i64 0,.i .i64 0,.i .i64 0,.sl none 0 0 0] [(0,1),(1,1),(2,1),(3,1)]) [.i .i64 w,.i .i64 err,.i .i64 cause,v7] K2 k'=k' (.agg (zaD ((⟨w,err,cause,S2.2⟩:Lap),v7))) K2:=by
   intro k';simp[zE,zo,zq,zp,zaD,hv7.cellsOf]
  rw[hbd]
  have hfv:∀b',slB v7=some b'→w6 L2 c [tv,nv,cv,av] b'∧slB v1≠some b'∧slB v2≠some b':=fun b' hb'=>by
   have h8:=o1.free (fv7 b' hb')
   refine⟨⟨lf2 b' h8.1,h8.2⟩,fun h9=>?_,fun h9=>?_⟩
   ·have:=rr1.o1.block h9;rw[fv7 b' hb']at this;cases this
   ·have:=rr1.o2.block h9;rw[fv7 b' hb']at this;cases this
  refine rr2.lap (p:=((⟨w,err,cause,S2.2⟩:Lap),v7)) (by omega) hv7 hfv ?_ (fun b' hb'=>o2'.free hb')
  intro v10 K3 rr3 k3
  have o3:=o2'.keep k3 (fun b' hb'=>(rr2.f1 b' hb').1)
  have s1':rdL K2 (b,k * 12+1) none=some (.i .i64 w):=by rw[o2.rn hb hxn (by omega)];rfl
  refine⟨⟨by simp[z8,yB,Xm,s1,s1'],trivial⟩,?_⟩
  have t2:S2.1.σ.t=S.σ.t:=by rw[hef.1];exact ht1
  have n2:S2.1.σ.names=S.σ.names:=by rw[hef.1];exact hn1
  have hhit:z9 err cause (S,ps.map (·.1),sts) k=(S2.1.stopT x.timer,ps.map (·.1)++[⟨w,err,cause,S2.2⟩],sts):=by
   have hnn:¬((w:Int)<0):=by omega
   unfold z9
   simp only[q1,Option.getD_some,hnn,if_false,Int.toNat_natCast,q2]
   rw[hS2,hS1]
  have fr02:FrR c S.σ L L2:=by
   intro r d h1 h2 h3 h4
   exact fr2 r d h1 (by rw[ht1];exact h2) (zex hn1 h3) h4
  have h2t:FrR c S2.1.σ L2 L2:=FrR.refl _ _ _
  -- behind the timer
  have tail:∀(S3:CX) (K4 L4:Lg),S3=S2.1.stopT x.timer→XR L4 c S3.σ nds1 tv nv cv av K4→OutR c S3 L4→FrR c S.σ L L4→RRes L4 c [tv,nv,cv,av] K4 v10 v2 (ps++[((⟨w,err,cause,S2.2⟩:Lap),v7)]) sts→TFine S3.τ B→D_f201_8 F Q (Env.put E2 4 v10) K4:=by
   intro S3 K4 L4 hS3 o4 out4 fr4 rr4 tf4
   have hsf:=xO S2.1 x.timer
   have t3:S3.σ.t=S.σ.t:=by rw[hS3,hsf.1];exact t2
   have n3:S3.σ.names=S.σ.names:=by rw[hS3,hsf.1];exact n2
   have tree3:S3.σ.tree=ye T A:=by rw[hS3,hsf.1,hef.1,hS1];exact hS
   unfold D_f201_8
   have h0:(Env.put E2 4 v10) 0=.p (some (c,0)):=by simp[g0]
   have h1:(Env.put E2 4 v10) 1=.i .i64 k:=by simp[g1]
   rw[h0,h1]
   simp only[zf,zg,zj,Nat.zero_add]
   refine (zc8 hf.f200 o4 (by rw[tree3,yC];exact hTl) k).mono ?_
   intro v15 K5 l15
   have hkf:zI S3.σ.tree (k:Int)=zI T (k:Int):=by
    rw[tree3,wQ]
    apply List.filter_eq_self.2
    intro j hj
    have hn0:n≠0:=by rintro rfl;have:=xh ht hj;omega
    have:=hA j ((hkid j hj j (by cases n with | zero=>exact absurd rfl hn0 | succ m=>simp[pre])).1)
    simp[this]
   rw[hkf]at l15
   have o5:=o4.sub l15.s
   have rr5:=rr4.sub l15.s
   -- the row of kids lies beside
   have adopt:∃L5,XR L5 c S3.σ nds1 tv nv cv av K5∧OutR c S3 L5∧FrR c S.σ L L5∧RRes L5 c [tv,nv,cv,av] K5 v10 v2 (ps++[((⟨w,err,cause,S2.2⟩:Lap),v7)]) sts∧∀b,slB v15=some b→L5 b=some (.raw (.cells (zm fI ((zI T (k:Int)).map fun (i:Nat)=>(i:Int)))))∧b≠c:=by
    cases hsl:slB v15 with
    | none=>exact⟨L4,o5,out4,fr4,rr5,fun b hb=>by cases hb⟩
    | some kb =>
     have hkb:=l15.f kb hsl
     have hfr:=o4.free hkb
     have hkc:=l15.o.block hsl
     refine⟨L4.put kb _,o5.adopt hkc hfr,out4.put hfr.1 _,fun r d h1 h2 h3 h4=>?_,?_,fun b hb=>?_⟩
     ·have:=fr4 r d h1 h2 h3 h4
      rw[zb _ _ _ (by rintro rfl;rw[hfr.1]at this;cases this)];exact this
     ·-- their blocks are others
      have hne:∀b',w6 L4 c [tv,nv,cv,av] b'→K4 b'≠none→(L4.put kb (.raw (.cells (zm fI ((zI T (k:Int)).map fun (i:Nat)=>(i:Int)))))) b'=none:=fun b' hb' hn'=>by
       rw[zb _ _ _ (by rintro rfl;exact hn' hkb)];exact hb'.1
      exact rr4.keep (fun b' y _ hy=>l15.s b' _ hy) hne
     ·cases hb
      exact⟨ze _ _ _,hfr.2.1⟩
   obtain⟨L5,o5',out5,fr5,rr5',f15⟩:=adopt
   have e0':(Env.put (Env.put E2 4 v10) 15 v15) 0=.p (some (c,0)):=by simp[g0]
   have hlive3:∀i,y8 T S i→i≠k→y8 T S3 i:=fun i hi hik=>by
    have:=hi.hit err cause (hL k hself) hik (acc:=(S,ps.map (·.1),sts))
    rw[hhit]at this
    rw[hS3];exact this
   have hnot3:∀i,y8 T S i→i≠k→xA S i→xA S3 i:=fun i hi hik hno=>by
    have:=xA.hit (T:=T) (acc:=(S,ps.map (·.1),sts)) err cause hno hi (hL k hself) hik
    rw[hhit]at this
    rw[hS3];exact this
   have hplen:(pre T (n+1) k).length=1+((zI T (k:Int)).flatMap (pre T n)).length:=by rw[hpre,List.length_cons];omega
   refine zeZ (S:=S3) (S0:=S) (err:=err) (cause:=cause) (E:=Env.put (Env.put E2 4 v10) 15 v15) hf ht ih (by omega) hk tree3 (fun j hj i hi=>hA i (hkid j hj i hi).1) (fun j hj i hi=>⟨hlive3 i (hL i (hkid j hj i hi).1) (hkid j hj i hi).2,hnot3 i (hL i (hkid j hj i hi).1) (hkid j hj i hi).2 (hN i (hkid j hj i hi).1)⟩) tf4 o5' out5 rr5' (by simp only[List.length_append,List.length_cons,List.length_nil];omega) (by omega) (v15:=v15) l15.o f15 e0' (by simp[g1]) (by simp[g2]) (by simp[g3]) (by simp) (by simp[g5]) (by simp) ?_
   intro R L' nds' w1 w2 ps' K' hR oR outR frR rrR hpsR tfR tR nR
   have hRw:R=walked T err cause A (pre T (n+1) k) (S,ps.map (·.1),sts):=by
    rw[hR]
    simp only[walked,hpre,List.foldl_cons,hhit,←hS3,List.map_append,List.map_cons,List.map_nil]
    congr 1
    simp only[CX.setTree]
    congr 3
    funext i
    simp only[List.mem_cons,List.mem_singleton,List.not_mem_nil,or_false]
    by_cases hik:i=k<;>simp[hik,Bool.or_comm]
   exact hQ _ _ ⟨R,L',nds',w1,w2,ps',hRw,rfl,oR,outR,fr5.trans t3 n3 frR,rrR,hpsR,tfR,tR.trans t3,nR.trans n3⟩
  unfold D_f201_7
  have h14:(Env.put E2 4 v10) 14=.p (some (b,k * 12)):=by simp[g14]
  have h0:(Env.put E2 4 v10) 0=.p (some (c,0)):=by simp[g0]
  rw[h14,h0]
  have s10:rdL K3 (b,k * 12+10) none=some (.i .i64 x.timer):=by rw[o3.rn hb hxn (by omega)];rfl
  have s0:rdL K3 (c,0) none=some (ptr S.σ.t):=by rw[o3.f0,t2]
  have hτ2:S2.1.τ=S.τ:=by rw[hef.2.1,hS1];rfl
  have tf2:TFine S2.1.τ B:=by rw[hτ2];exact tf
  have skip:S2.1.stopT x.timer=S2.1→D_f201_8 F Q (Env.put E2 4 v10) K3:=fun h=>tail S2.1 K3 L2 h.symm o3 out2 fr02 rr3 tf2
  by_cases hti:0≤x.timer
  rotate_left
  ·simp only[zf,zg,zj,Nat.zero_add,zt,s10,zh,vK,ge_iff_le,hti,decide_false,Ze,xv,zX,zB]
   refine skip ?_
   have hno:S2.1.τ.one x.timer=none:=by simp[Tms.one,Tms.has,hti]
   unfold CX.stopT
   cases S2.1.σ.t<;>simp[hno]
  have hd:∀inst:Decidable (0≤x.timer),@decide _ inst=true:=fun _=>by simp[hti]
  cases ht2:S.σ.t with
  | none =>
   rw[ht2]at s0
   simp only[zf,zg,zj,Nat.zero_add,zt,s10,s0,zh,vK]
   rw[hd]
   simp only[zf,zg,zj,Nat.zero_add,zt,s0,zh,zx,yk,Xn]
   have hop:∀k:AV→Lg→Prop,za F (.eq true .ptr) [.p none,.p none] K3 k=k (.b false) K3:=by intro k;simp
   simp only[hop,zT,zB]
   refine skip ?_
   unfold CX.stopT
   rw[t2,ht2]
  | some u =>
   rw[ht2]at s0
   simp only[zf,zg,zj,Nat.zero_add,zt,s10,s0,zh,vK]
   rw[hd]
   simp only[zf,zg,zj,Nat.zero_add,zt,s0,zh,zx,yk,VQ]
   have hop:∀k:AV→Lg→Prop,za F (.eq true .ptr) [.p (some (u,0)),.p none] K3 k=k (.b true) K3:=by intro k;simp
   simp only[zf,hop,zT,zZ,zg,zj,Nat.zero_add,zt,s10,s0,zh]
   refine (zcQ (S:=S2.1) hf.f80 o3 out2 tf2 (u:=u) (by rw[t2,ht2]) (id:=x.timer) (fun y hy=>q7 u y ht2 (by rw[←hτ2];exact hy))).mono ?_
   rintro _ K4 ⟨⟨p',q',rfl⟩,L4,o4,out4,fr4,lf4,raw4,tf4⟩
   have hsf:=xO S2.1 x.timer
   have o4':XR L4 c (S2.1.stopT x.timer).σ nds1 tv nv cv av K4:=by rw[hsf.1];exact o4
   refine tail (S2.1.stopT x.timer) K4 L4 rfl o4' out4 (fr02.trans t2 n2 fr4) ?_ tf4
   exact rr3.keep (fun q' y hq hy=>raw4 q' y hy) (fun q' hq _=>lf4 q' hq.1)
end
end
section
variable {F:Nat→Option AFn}
section
variable {L K:Lg} {c:Nat} {cs:List AV} {sl:List SlD}
theorem OSl.pushI {v:AV}{cs:List AV}{n bytes:Nat}(h:OSl K v cs n 1){a:Int}(hb:(n+1) * bytes≤70368744177664){z:AV}{k:AV→Lg→Prop}
  (hk:∀(v':AV) (K1:Lg),OSl K1 v' (cs++[.i .i64 a]) (n+1) 1→Yy (slB v) K K1→(∀b,slB v'=some b→K b=none)→k v' K1):za F (.bslice [z] 1 1 [0]) [.i .i64 a] K fun w L=>za F (.app 1 bytes) [v,w] L k:=by
 refine new1 rfl ?_
 intro w K1 ow s1 f1
 have hv:OSl K1 v cs n 1:=h.sub fun b d _ hd=>s1 b d hd (by simp)
 rw[WU]
 rcases ow with⟨h2,_⟩ | ⟨b,ex,h2,rfl,_,h3,h4⟩
 ·omega
 refine hv.app (by omega) rfl (by omega) (new:=[.i .i64 a]) ?_ (by simp) rfl hb ?_
 ·simp only[zF,h3,AB.read,cut,zq,Nat.zero_add,Nat.one_mul]
  simp
 intro b2 K2 g hO
 have f2:K b2=none:=by
  cases h9:K b2 with
  | none=>rfl
  | some d=>have:=s1 b2 d h9 (by simp);rw[g.fresh]at this;cases this
 refine hk _ _ hO ?_ ?_
 ·intro r d hr hne
  have r2:r≠b2:=by rintro rfl;rw[f2]at hr;cases hr
  rw[g.same r r2 hne];exact s1 r d hr (by simp)
 ·intro q hq;simp[slB]at hq;subst hq;exact f2
theorem zbH (hf:H_f123 F){T:List Nd}{tv:AV}(g:GO L c cs sl K)(h1:cs[1]?=some tv)(h0:sl[0]?=some ⟨tv,zm ndc T,T.length,2⟩)(hlen:T.length<1000){parent:Int}(hp:-1≤parent)(hp2:parent<T.length)(lk:Bool) :
  zd F k_f123 [.p (some (c,1)),.i .i64 parent,.b lk] K fun v K'=>v=.tup [.i .i64 T.length,.i .i64 0]∧∃tv',GO L c (cs.set 1 tv') (sl.set 0 ⟨tv',zm ndc T++[.i .i64 parent,.b (lk&&decide (0≤parent))],T.length+1,2⟩) K':=by
 refine zr ?_
 intro Q hQ
 apply r_f123 hf.code
 unfold D_f123_1 D_f123_2
 have r1:rdL K (c,1) none=some tv:=by rw[g.rd 1,h1]
 have os:=g.own 0 _ h0
 simp only at os
 have hl:=fun X k=>os.len (F:=F) X k
 have n1:¬parent < -1:=by omega
 have n2:¬(T.length:Int)≤parent:=by omega
 have n3:¬(1000:Int)≤(T.length:Int):=by omega
 simp only[zf,y0,n1,decide_false,zx,yk,zg,zj,Nat.add_zero,zt,r1,zh,hl,vK,n2,zX,zB]
 unfold D_f123_3
 simp only[zf,zg,zj,Nat.add_zero,zt,r1,zh,hl,vK,n3,decide_false,zB]
 have hpick:∀k:AV→Lg→Prop,(zi F (.b lk) true .mv [.i .i64 parent] K fun v9 L9=>zi F (.b lk) true (.bin .geq) [v9,.i .i64 0] L9 fun v10 L10=>za F .pick [.b lk,v10,.b false] L10 k)↔k (.b (lk&&decide (0≤parent))) K:=by
  intro k
  cases lk<;>simp
 rw[hpick]
 have hbd:∀k:AV→Lg→Prop,za F (.build [.i .i64 0,.b false] [(0,1),(1,1)]) [.i .i64 parent,.b (lk&&decide (0≤parent))] K k=k (.agg [.i .i64 parent,.b (lk&&decide (0≤parent))]) K:=by
  intro k;simp[zE,zo,zq,zp]
 rw[hbd]
 refine os.push1 rfl rfl rfl (by omega) (by omega) ?_
 intro v' K1 o1 k1 f1
 have hroot:K1 c=some (.raw (.cells cs)):=k1 c _ g.root (fun h9=>(g.ap 0 _ h0 c h9).1 rfl)
 have hcl:1<cs.length:=(List.getElem?_eq_some_iff.1 h1).1
 have g2:=g.grow h0 (q:=⟨v',zm ndc T++[.i .i64 parent,.b (lk&&decide (0≤parent))],T.length+1,2⟩) o1 k1 (fun b hb=>.inl (f1 b hb)) (cs.set 1 v')
 have r1':rdL (K1.put c (.raw (.cells (cs.set 1 v')))) (c,1) none=some v':=by rw[zk (ze _ _ _),List.getElem?_set_self hcl]
 have hl':∀X k,za F .lenSl [v'] X k=k (.i .i64 ((T.length+1:Nat):Int)) X:=fun X k=>o1.len (F:=F) X k
 have hw:wr .i64 (((T.length+1:Nat):Int)-1)=(T.length:Int):=by rw[zS (by omega) (by omega)];omega
 simp only[zf,zg,zj,Nat.add_zero,yv]
 rw[zH hroot hcl o1.cellsOf]
 simp only[zf,zg,zj,Nat.add_zero,zt,r1',zh,hl',zbB,hw]
 exact⟨_,zu.refl _,hQ _ _ ⟨rfl,v',g2⟩⟩
end
theorem X4 {T:List Nd}{parent:Int}{lk:Bool}(hT:T.length<1000)(hp:parent=-1∨YI T parent=true) :
  (zL T parent lk).1.length=T.length+1∧(zL T parent lk).2.1=(T.length:Int)∧zm ndc (zL T parent lk).1=zm ndc T++[.i .i64 parent,.b (lk&&decide (parent≠-1))]:=by
 unfold zL
 have c1:¬(parent≠-1∧YI T parent=false):=by
  rintro⟨h1,h2⟩
  rcases hp with h3 | h3
  ·exact h1 h3
  ·rw[h2]at h3;cases h3
 rw[if_neg c1,if_neg (by omega)]
 have key:∀(T:List Nd) (i:Nat) (x:Int),zm ndc (vq T i x)=zm ndc T∧(vq T i x).length=T.length:=by
  intro T i x
  unfold vq
  cases h:T[i]? with
  | none=>exact⟨rfl,rfl⟩
  | some n =>
   simp only[List.length_set,and_true]
   clear c1
   induction T generalizing i with
   | nil=>simp at h
   | cons a r ih =>
    cases i with
    | zero=>simp at h;subst h;simp[zm,ndc]
    | succ i=>simp at h;simp only[List.set_cons_succ,zm];rw[ih i h]
 refine⟨?_,rfl,?_⟩
 ·simp only[List.length_append,List.length_cons,List.length_nil]
  split
  ·rw[(key _ _ _).2]
  ·rfl
 ·rw[ya]
  congr 1
  split
  ·exact (key _ _ _).1
  ·rfl
section
variable {L K:Lg} {c:Nat} {σ:Cs} {nds:List RNd} {tv nv cv av:AV}
theorem Wq (hf:H_f124 F)(o:XR L c σ nds tv nv cv av K)(ht:σ.tree.length<1000)(hs:σ.ones.length≤1000){parent:Int}(hp:parent=-1∨YI σ.tree parent=true)(x:One) :
  zd F k_f124 [.p (some (c,0)),.i .i64 parent,.b (!x.free),.agg (zG 0 { x with timer:=-1 }).cells] K fun v K'=>v=.i .i64 σ.ones.length∧∃nds' tv' nv' cv',XR L c (σ.add x parent) nds' tv' nv' cv' av K':=by
 refine zr ?_
 intro Q hQ
 apply r_f124 hf.code
 unfold D_f124_1
 rw[ZB,zN _ _ _ (RNd.one _)]
 intro b7 hb7
 have hb7f:=o.free hb7
 have hlb7:L b7=none:=hb7f.1
 have hb7c:b7≠c:=hb7f.2.1
 have hpar:-1≤parent∧parent<σ.tree.length:=by
  rcases hp with rfl | h
  ·exact⟨by omega,by omega⟩
  ·simp[YI]at h;omega
 obtain⟨n0,hn0⟩:∃n0,n0=zG 0 { x with timer:=-1 }:=⟨_,rfl⟩
 obtain⟨n1,hn1⟩:∃n1,n1=zG σ.ones.length { x with node:=(σ.tree.length:Int),timer:=-1 }:=⟨_,rfl⟩
 have hset:n0.cells.set 1 (.i .i64 σ.ones.length)=n1.cells:=by rw[hn0,hn1];rfl
 rw[←hn0]
 have g0:=(o.onto hb7 (.raw (.cells n0.cells))).g
 unfold D_f124_2
 simp only[zf,zg,zj,Nat.zero_add]
 refine (zbH hf.f123 g0 (T:=σ.tree) (tv:=tv) rfl rfl ht hpar.1 hpar.2 (!x.free)).mono ?_
 rintro _ K1 ⟨rfl,tv',g1⟩
 have hlk:((!x.free)&&decide (0≤parent))=((!x.free)&&decide (parent≠-1)):=by
  congr 1
  by_cases h:parent=-1
  ·simp[h]
  ·have:0≤parent:=by omega
   simp[h,this]
 rw[hlk]at g1
 obtain⟨t1,t2,t3⟩:=X4 (lk:=!x.free) ht hp
 rw[←t3]at g1
 simp only[xrt,xsl,List.set_cons_succ,List.set_cons_zero]at g1
 have oc:=g1.own 2 _ rfl
 have on:=g1.own 1 _ rfl
 simp only at oc on
 have hcl:∀X k,za F .lenSl [cv] X k=k (.i .i64 (σ.ones.length:Int)) X:=fun X k=>oc.len (F:=F) X k
 have c3:rdL K1 (c,3) none=some cv:=g1.rd 3
 have hk7:K1 b7=some (.raw (.cells n0.cells)):=g1.old b7 _ hb7c (ze _ _ _)
 simp only[zf,yb,List.getElem?_cons_zero,List.getElem?_cons_succ,zh]
 unfold D_f124_3
 simp only[zf,zg,zj,Nat.zero_add,zt,c3,zh,hcl,yv]
 rw[zH hk7 (by rw[RNd.len];omega) rfl,hset]
 have g2:=g1.putOld hb7c (ze _ _ _) (.raw (.cells n1.cells))
 rw[zA]at g2
 have hk7':(K1.put b7 (.raw (.cells n1.cells))) b7=some (.raw (.cells n1.cells)):=ze _ _ _
 generalize (K1.put b7 (.raw (.cells n1.cells)))=K2 at g2 hk7'
 have c2:rdL K2 (c,2) none=some nv:=g2.rd 2
 have r7:rdL K2 (b7,0) (some 12)=some (.agg n1.cells):=by rw[yj hk7' (by rw[RNd.len];omega)];rfl
 simp only[zf,zg,zj,Nat.zero_add,zt,c2,r7,zh]
 have on2:=g2.own 1 _ rfl
 simp only at on2
 have hnl:nds.length<1000:=by rw[o.n.len];exact ht
 refine on2.push1 rfl (RNd.len _) (RNd.one _) (by omega) (by omega) ?_
 intro nv' K3 on3 k3 f3
 have hr3:K3 c=some (.raw (.cells [ptr σ.t,tv',nv,cv,av])):=k3 c _ g2.root (fun h9=>(g2.ap 1 _ rfl c h9).1 rfl)
 have g3:=g2.grow (i:=1) rfl (q:=⟨nv',zm RNd.cells nds++n1.cells,nds.length+1,12⟩) on3 k3 (fun b hb=>.inl (f3 b hb)) [ptr σ.t,tv',nv',cv,av]
 simp only[zf,zg,zj,Nat.zero_add,yv]
 rw[zH hr3 (by simp) on3.cellsOf]
 simp only[List.set_cons_succ,List.set_cons_zero]at g3 ⊢
 generalize (K3.put c (.raw (.cells [ptr σ.t,tv',nv',cv,av])))=K4 at g3
 have c3':rdL K4 (c,3) none=some cv:=g3.rd 3
 simp only[zf,zg,zj,Nat.zero_add,zt,c3',zh]
 have oc4:=g3.own 2 _ rfl
 simp only at oc4
 refine oc4.pushI (by omega) ?_
 intro cv' K5 oc5 k5 f5
 have hr5:K5 c=some (.raw (.cells [ptr σ.t,tv',nv',cv,av])):=k5 c _ g3.root (fun h9=>(g3.ap 2 _ rfl c h9).1 rfl)
 have g5:=g3.grow (i:=2) rfl (q:=⟨cv',zm fI (σ.ones.map (·.node))++[.i .i64 (σ.tree.length:Int)],σ.ones.length+1,1⟩) oc5 k5 (fun b hb=>.inl (f5 b hb)) [ptr σ.t,tv',nv',cv',av]
 simp only[zf,zg,zj,Nat.zero_add,yv]
 rw[zH hr5 (by simp) oc5.cellsOf]
 simp only[List.set_cons_succ,List.set_cons_zero]at g5 ⊢
 generalize (K5.put c (.raw (.cells [ptr σ.t,tv',nv',cv',av])))=K6 at g5
 have r71:rdL K6 (b7,1) none=some (.i .i64 σ.ones.length):=by rw[zk (g5.old b7 _ hb7c (ze _ _ _)),hn1];rfl
 simp only[zf,zg,zj,Nat.zero_add,zt,r71,zh]
 refine⟨_,zu.refl _,hQ _ _ ⟨rfl,nds++[n1],tv',nv',cv',⟨?_,?_⟩⟩⟩
 ·have:=g5.below (L0:=L) (fun q d hq hd=>by rw[zb _ _ _ (by rintro rfl;rw[hlb7]at hd;cases hd)];exact hd)
  have e1:(σ.add x parent).tree=(zL σ.tree parent (!x.free)).1:=rfl
  have e2:(σ.add x parent).ones=σ.ones++[{ x with node:=(σ.tree.length:Int),timer:=-1 }]:=by simp[Cs.add,t2]
  have e3:(σ.add x parent).t=σ.t:=rfl
  have e4:(σ.add x parent).afts=σ.afts:=rfl
  simp only[xrt,xsl,e1,e2,e3,e4,t1,ya,List.map_append,List.map_cons,List.map_nil,List.length_append,List.length_cons,List.length_nil,List.length_map,Nat.zero_add]
  simp only[zm,List.append_nil,fI]
  exact this
 ·have e1:(σ.add x parent).tree.length=σ.tree.length+1:=t1
  have e2:(σ.add x parent).ones=σ.ones++[{ x with node:=(σ.tree.length:Int),timer:=-1 }]:=by simp[Cs.add,t2]
  have hlen:=o.n.len
  refine⟨by rw[e1];simp[hlen],fun i k y hy hk=>?_,fun j k y hy hk=>?_⟩
  ·rw[e2]at hy
   by_cases hi:i<σ.ones.length
   ·rw[List.getElem?_append_left hi]at hy
    have h1:=o.n.one i k y hy hk
    rw[List.getElem?_append_left (List.getElem?_eq_some_iff.1 h1).1];exact h1
   ·rw[List.getElem?_append_right (by omega)]at hy
    have hz:i-σ.ones.length=0:=by
     rcases Nat.eq_zero_or_pos (i-σ.ones.length)with h9 | h9
     ·exact h9
     ·rw[List.getElem?_eq_none (by simp;omega)]at hy;cases hy
    rw[hz]at hy
    simp at hy
    subst hy
    have hkk:k=σ.tree.length:=by simp at hk;omega
    have hii:i=σ.ones.length:=by omega
    subst hkk;subst hii
    rw[←hlen,List.getElem?_append_right (Nat.le_refl _),Nat.sub_self,hlen,hn1];rfl
  ·have h1:=o.n.aft j k y hy hk
   rw[List.getElem?_append_left (List.getElem?_eq_some_iff.1 h1).1];exact h1
end
end
section
variable {F:Nat→Option AFn}
def wu (c:Nat)(σ:Cs):Hp→Prop:=GP c fun cs sl=>∃nds tv nv cv av,cs=xrt σ tv nv cv av∧sl=xsl σ nds tv nv cv av∧NdsOk σ nds
section
variable {L K:Lg} {c:Nat} {σ:Cs} {nds:List RNd} {tv nv cv av:AV} {Q:AV→Lg→Prop}
theorem XR.shut (o:XR L c σ nds tv nv cv av K):zu K (L.put c (.abs (wu c σ))):=o.g.shut ⟨nds,tv,nv,cv,av,rfl,rfl,o.n⟩
theorem XR.back (o:XR L c σ nds tv nv cv av K)(e:L c=some (.abs (wu c σ))):zu K L:=by
 have:=o.shut
 rwa [yc L c _ e]at this
theorem yR {f:Nat}{vs:List AV}(e:L c=some (.abs (wu c σ)))(H:∀nds tv nv cv av K,XR L c σ nds tv nv cv av K→zd F f vs K Q):zd F f vs L Q:=by
 apply zby e
 rintro cs sl K ⟨nds,tv,nv,cv,av,rfl,rfl,hn⟩ o
 exact H nds tv nv cv av K ⟨o,hn⟩
theorem zew (hf:H_f125 F)(L:Lg)(t:Option Nat):zd F k_f125 [ptr t] L fun v L'=>∃c,L c=none∧v=.p (some (c,0))∧L'=L.put c (.abs (wu c (.new t))):=by
 refine zr ?_
 intro Q hQ
 apply r_f125 hf.code
 unfold D_f125_1
 have hb1:∀k:AV→Lg→Prop,za F (.build [.p none,.sl none 0 0 0,.sl none 0 0 0,.sl none 0 0 0,.sl none 0 0 0] [(0,1)]) [ptr t] L k=k (.agg [ptr t,.sl none 0 0 0,.sl none 0 0 0,.sl none 0 0 0,.sl none 0 0 0]) L:=by
  intro k;simp[zE,zo,zq,zp]
 rw[hb1,ZB,zN _ _ _ (by cases t<;>simp[ptr])]
 intro c hc
 have hb2:∀(X:Lg) (k:AV→Lg→Prop),za F (.build [.b false,.i .i64 0,.i .i64 0,.b false,.b false,.i .i64 0,.i .i64 0,.i .i64 0,.b false,.b false,.i .i64 0,.p none] [(4,1),(10,1)]) [.b true,.i .i64 (-1)] X k=k (.agg (zG 0 { ({ One.zero with free:=true }:One)with timer:=-1 }).cells) X:=by
  intro X k;simp[zE,zo,zq,zp,RNd.cells,zG,One.zero]
 rw[hb2]
 obtain⟨σ0,hσ0⟩:∃σ0:Cs,σ0=⟨t,[],[],[],fun _=>none⟩:=⟨_,rfl⟩
 have o:XR L c σ0 [] (.sl none 0 0 0) (.sl none 0 0 0) (.sl none 0 0 0) (.sl none 0 0 0) (L.put c (.raw (.cells [ptr t,.sl none 0 0 0,.sl none 0 0 0,.sl none 0 0 0,.sl none 0 0 0]))):=by
  rw[hσ0]
  have nb:∀(i:Nat) (p:SlD),(xsl ⟨t,[],[],[],fun _=>none⟩ [] (.sl none 0 0 0) (.sl none 0 0 0) (.sl none 0 0 0) (.sl none 0 0 0))[i]?=some p→p.v=.sl none 0 0 0:=by
   intro i p hp
   have:=zaF hp
   simpa using this
  have nb2:∀(i:Nat) (p:SlD),(xsl ⟨t,[],[],[],fun _=>none⟩ [] (.sl none 0 0 0) (.sl none 0 0 0) (.sl none 0 0 0) (.sl none 0 0 0))[i]?=some p→∀b,slB p.v≠some b:=by
   intro i p hp b h;rw[nb i p hp]at h;cases h
  refine⟨⟨ze _ _ _,fun i p hp=>?_,fun i p hp b hb=>absurd hb (nb2 i p hp b),fun i j p q _ hp _ b hb=>absurd hb (nb2 i p hp b),fun q d hq hd=>by rw[zb _ _ _ hq];exact hd⟩,⟨rfl,fun i k x hx=>by simp at hx,fun i k x hx=>by simp at hx⟩⟩
  have hi:=(List.getElem?_eq_some_iff.1 hp).1
  simp[xsl]at hi
  have:i=0∨i=1∨i=2∨i=3:=by omega
  rcases this with rfl | rfl | rfl | rfl<;>simp[xsl]at hp<;>subst hp<;>exact OSl.nil _ _
 refine (Wq hf.f124 o (by rw[hσ0];simp) (by rw[hσ0];simp) (.inl rfl) ({ One.zero with free:=true }:One)).mono ?_
 rintro v K' ⟨rfl,nds',tv',nv',cv',o'⟩
 refine⟨_,o'.shut,hQ _ _ ⟨c,hc,rfl,?_⟩⟩
 rw[hσ0];rfl
def zbv (σ:Cs):Prop:=(∀(i:Nat) (x:One),σ.ones[i]?=some x→∃k:Nat,x.node=(k:Int)∧k<σ.tree.length)∧∀(j:Nat) (x:Aft),σ.afts[j]?=some x→∃k:Nat,x.node=(k:Int)∧k<σ.tree.length
theorem WF.nodes {S:CX}(h:WF S):zbv S.σ:=⟨fun i x hx=>by obtain⟨k,h1,h2,_⟩:=h.who1 i x hx;exact⟨k,h1,h2⟩,fun j x hx=>by obtain⟨k,h1,h2,_⟩:=h.who2 j x hx;exact⟨k,h1,h2⟩⟩
theorem xI {σ:Cs}{id:Int}(h:σ.has id=true):∃(i:Nat) (x:One),id=(i:Int)∧σ.ones[i]?=some x∧σ.one id=some x:=by
 obtain⟨i,rfl,hi⟩:=has_nat h
 refine⟨i,σ.ones[i],rfl,List.getElem?_eq_getElem hi,?_⟩
 simp[Cs.one,h,List.getElem?_eq_getElem hi]
theorem zdp (hf:H_f211 F)(e:L c=some (.abs (wu c σ)))(hn:zbv σ)(id:Int):zd F k_f211 [.p (some (c,0)),.i .i64 id] L fun v L'=>v=.tup [ptr (match σ.one id with | some o=>o.c | none=>none),.i .i64 (if σ.has id=true then 0 else 4)]∧L'=L:=by
 refine zr ?_
 intro Q hQ
 apply yR e
 intro nds tv nv cv av K o
 apply r_f211 hf.code
 unfold D_f211_1
 refine (wz hf.f194 o id).mono ?_
 rintro _ K' ⟨rfl,rfl⟩
 cases h:σ.has id with
 | false =>
  simp only[zf,yf,Bool.not_false,zZ]
  have h1:σ.one id=none:=by simp[Cs.one,h]
  rw[h,h1]at hQ
  exact⟨_,o.back e,hQ _ _ ⟨rfl,rfl⟩⟩
 | true =>
  obtain⟨i,x,rfl,hx,h1⟩:=xI h
  obtain⟨k,hk,hkl⟩:=hn.1 i x hx
  simp only[zf,yf,Bool.not_true,zB]
  refine (xN hf.f195 o hx hk (by rw[o.n.len];exact hkl)).mono ?_
  rintro _ K2 ⟨⟨b,hb,rfl⟩,rfl⟩
  have r:=o.rn hb (o.n.one i k x hx hk) (j:=11) (by omega)
  simp only[zf,zg,zj,zt,r,zh,RNd.cells,zG,List.getElem?_cons_zero,List.getElem?_cons_succ]
  rw[h,h1]at hQ
  exact⟨_,o.back e,hQ _ _ ⟨rfl,rfl⟩⟩
theorem ze4 (hf:H_f214 F)(e:L c=some (.abs (wu c σ)))(hn:zbv σ)(id:Int):zd F k_f214 [.p (some (c,0)),.i .i64 id] L fun v L'=>v=.tup [.i .i64 (match σ.one id with | some o=>o.err | none=>0),.i .i64 (match σ.one id with | some o=>o.cause | none=>0),.i .i64 (if σ.has id=true then 0 else 4)]∧L'=L:=by
 refine zr ?_
 intro Q hQ
 apply yR e
 intro nds tv nv cv av K o
 apply r_f214 hf.code
 unfold D_f214_1
 refine (wz hf.f194 o id).mono ?_
 rintro _ K' ⟨rfl,rfl⟩
 cases h:σ.has id with
 | false =>
  simp only[zf,yf,Bool.not_false,zZ]
  have h1:σ.one id=none:=by simp[Cs.one,h]
  rw[h,h1]at hQ
  exact⟨_,o.back e,hQ _ _ ⟨rfl,rfl⟩⟩
 | true =>
  obtain⟨i,x,rfl,hx,h1⟩:=xI h
  obtain⟨k,hk,hkl⟩:=hn.1 i x hx
  simp only[zf,yf,Bool.not_true,zB]
  refine (xN hf.f195 o hx hk (by rw[o.n.len];exact hkl)).mono ?_
  rintro _ K2 ⟨⟨b,hb,rfl⟩,rfl⟩
  have r:=o.rn hb (o.n.one i k x hx hk) (j:=5) (by omega)
  have r6:=o.rn hb (o.n.one i k x hx hk) (j:=6) (by omega)
  simp only[zf,zg,zj,zt,r,zh,RNd.cells,zG,List.getElem?_cons_zero,List.getElem?_cons_succ]
  refine (xN hf.f195 o hx hk (by rw[o.n.len];exact hkl)).mono ?_
  rintro _ K3 ⟨⟨b',hb',rfl⟩,rfl⟩
  have:b'=b:=by rw[hb]at hb';cases hb';rfl
  subst this
  simp only[zf,zg,zj,zt,r6,zh,RNd.cells,zG,List.getElem?_cons_zero,List.getElem?_cons_succ]
  rw[h,h1]at hQ
  refine⟨⟨by simp[z8,yB,Xm,r,RNd.cells,zG],trivial⟩,_,o.back e,hQ _ _ ⟨rfl,rfl⟩⟩
theorem zaJ (hf:H_f215 F)(e:L c=some (.abs (wu c σ)))(hn:zbv σ)(id:Int):zd F k_f215 [.p (some (c,0)),.i .i64 id] L fun v L'=>v=.tup [.i .i64 (match σ.one id with | some o=>o.when | none=>0),.b (match σ.one id with | some o=>o.has | none=>false),.i .i64 (if σ.has id=true then 0 else 4)]∧L'=L:=by
 refine zr ?_
 intro Q hQ
 apply yR e
 intro nds tv nv cv av K o
 apply r_f215 hf.code
 unfold D_f215_1
 refine (wz hf.f194 o id).mono ?_
 rintro _ K' ⟨rfl,rfl⟩
 cases h:σ.has id with
 | false =>
  simp only[zf,yf,Bool.not_false,zZ]
  have h1:σ.one id=none:=by simp[Cs.one,h]
  rw[h,h1]at hQ
  exact⟨_,o.back e,hQ _ _ ⟨rfl,rfl⟩⟩
 | true =>
  obtain⟨i,x,rfl,hx,h1⟩:=xI h
  obtain⟨k,hk,hkl⟩:=hn.1 i x hx
  simp only[zf,yf,Bool.not_true,zB]
  refine (xN hf.f195 o hx hk (by rw[o.n.len];exact hkl)).mono ?_
  rintro _ K2 ⟨⟨b,hb,rfl⟩,rfl⟩
  have r:=o.rn hb (o.n.one i k x hx hk) (j:=7) (by omega)
  have r6:=o.rn hb (o.n.one i k x hx hk) (j:=8) (by omega)
  simp only[zf,zg,zj,zt,r,zh,RNd.cells,zG,List.getElem?_cons_zero,List.getElem?_cons_succ]
  refine (xN hf.f195 o hx hk (by rw[o.n.len];exact hkl)).mono ?_
  rintro _ K3 ⟨⟨b',hb',rfl⟩,rfl⟩
  have:b'=b:=by rw[hb]at hb';cases hb';rfl
  subst this
  simp only[zf,zg,zj,zt,r6,zh,RNd.cells,zG,List.getElem?_cons_zero,List.getElem?_cons_succ]
  rw[h,h1]at hQ
  refine⟨⟨by simp[z8,yB,Xm,r,RNd.cells,zG],trivial⟩,_,o.back e,hQ _ _ ⟨rfl,rfl⟩⟩
theorem U6 (hf:H_f213 F)(e:L c=some (.abs (wu c σ))):zd F k_f213 [.p (some (c,0))] L fun v L'=>v=.i .i64 σ.ones.length∧L'=L:=by
 refine zr ?_
 intro Q hQ
 apply yR e
 intro nds tv nv cv av K o
 apply r_f213 hf.code
 unfold D_f213_1
 have hlen:=fun X k=>o.cs.len (F:=F) X k
 simp only[zf,zg,zj,Nat.zero_add,zt,o.f3,zh,hlen]
 exact⟨_,o.back e,hQ _ _ ⟨rfl,rfl⟩⟩
end
end
section
variable {F:Nat→Option AFn}
def AO (S:CX):Prop:=∀(j k:Nat) (x:Aft) (n:Nd),S.σ.afts[j]?=some x→x.node=(k:Int)→S.σ.tree[k]?=some n→n.linked=true→x.over=false
section
variable {L K:Lg} {c:Nat} {nds:List RNd} {tv nv cv av:AV} {S:CX}
theorem ze0 (hf:H_f201 F)(o:XR L c S.σ nds tv nv cv av K){i k:Nat}{x:One}(hx:S.σ.ones[i]?=some x)(hk:x.node=(k:Int))(he:x.free=true∨x.err≠0)(hkl:k<S.σ.tree.length)(err cause:Int)(v1 v2:AV) :
  zd F k_f201 [.p (some (c,0)),.i .i64 k,.i .i64 err,.i .i64 cause,v1,v2] K fun v K'=>v=.tup [v1,v2]∧K'=K:=by
 refine zr ?_
 intro Q hQ
 apply r_f201 hf.code
 generalize hE:zJ [AV.p (some (c,0)),.i .i64 k,.i .i64 err,.i .i64 cause,v1,v2] 0=E
 have e0:E 0=.p (some (c,0)):=by rw[←hE];simp[zJ]
 have e1:E 1=.i .i64 k:=by rw[←hE];simp[zJ]
 have e4:E 4=v1:=by rw[←hE];simp[zJ]
 have e5:E 5=v2:=by rw[←hE];simp[zJ]
 clear hE
 unfold D_f201_1 D_f201_2
 have f0:(Env.put (Env.put E 12 (.sl none 0 0 0)) 13 (.sl none 0 0 0)) 0=.p (some (c,0)):=by simp[e0]
 have f1:(Env.put (Env.put E 12 (.sl none 0 0 0)) 13 (.sl none 0 0 0)) 1=.i .i64 k:=by simp[e1]
 have f4:(Env.put (Env.put E 12 (.sl none 0 0 0)) 13 (.sl none 0 0 0)) 4=v1:=by simp[e4]
 have f5:(Env.put (Env.put E 12 (.sl none 0 0 0)) 13 (.sl none 0 0 0)) 5=v2:=by simp[e5]
 generalize (Env.put (Env.put E 12 (.sl none 0 0 0)) 13 (.sl none 0 0 0))=E1 at f0 f1 f4 f5
 have hkn:k<nds.length:=by rw[o.n.len];exact hkl
 obtain⟨b,hb,hcells,hia⟩:=o.nb (F:=F) hkn
 rw[f0,f1]
 simp only[zf,zg,zj,Nat.zero_add,zt,o.f2,zh,hia]
 have g4:(Env.put E1 14 (.p (some (b,k * 12)))) 4=v1:=by simp[f4]
 have g5:(Env.put E1 14 (.p (some (b,k * 12)))) 5=v2:=by simp[f5]
 have g14:(Env.put E1 14 (.p (some (b,k * 12)))) 14=.p (some (b,k * 12)):=by simp
 generalize (Env.put E1 14 (.p (some (b,k * 12))))=E2 at g4 g5 g14
 unfold D_f201_15
 rw[g14]
 have hx1:=o.n.one i k x hx hk
 have rn:=fun (j:Nat) (hj:j<12)=>o.rn hb hx1 hj
 have r0:rdL K (b,k * 12) none=some (.b false):=by have:=rn 0 (by omega);simpa[zG,RNd.cells]using this
 have r5:rdL K (b,k * 12+5) none=some (.i .i64 x.err):=by rw[rn 5 (by omega)];rfl
 have r4:rdL K (b,k * 12+4) none=some (.b x.free):=by rw[rn 4 (by omega)];rfl
 simp only[zf,zg,zj,Nat.add_zero,zt,r0,zh]
 unfold D_f201_16 D_f201_4
 rw[g14,g4,g5]
 by_cases h5:x.err=0
 ·rw[h5]at r5
  have hfr:x.free=true:=by rcases he with h | h;exact h;exact absurd h5 h
  rw[hfr]at r4
  simp only[zf,zB,zg,zj,zt,r5,r4,zh,w7,ne_eq,not_true_eq_false,decide_false,zx,yk,zX,zZ]
  exact⟨K,zu.refl _,hQ _ _ ⟨rfl,rfl⟩⟩
 ·simp only[zf,zB,zg,zj,zt,r5,r4,zh,w7,ne_eq,h5,not_false_eq_true,decide_true,YJ,xv,zT,zZ]
  exact⟨K,zu.refl _,hQ _ _ ⟨rfl,rfl⟩⟩
theorem AO.notOver (ao:AO S)(wf:WF S){i k:Nat}{x:One}(hx:S.σ.ones[i]?=some x)(hk:x.node=(k:Int))(n:Nat):∀j∈pre S.σ.tree n k,xA S j:=by
 intro j hj q y hq hy
 obtain⟨k',e1,e2,e3⟩:=wf.who1 i x hx
 have:k'=k:=by omega
 subst this
 by_cases e:j=k'
 ·subst e;rw[e3]at hq;simp at hq;omega
 obtain⟨m,hm⟩:=UY n k' j hj e
 have hl:S.σ.tree[j]?=some m∧m.linked=true:=by
  rcases hm with⟨h1,h2,_⟩ | hm
  ·exact⟨h1,h2⟩
  ·exact hm.elim
 obtain⟨k3,d1,d2,d3,_⟩:=wf.who2 q y hy
 rcases wf.cover j ((vW wf.tr _ _ _ hj).2 e2)with⟨i2,x2,c1,c2,c3⟩ | ⟨j2,x2,c1,c2,c3⟩
 ·rw[c1]at hq;simp at hq;omega
 ·rw[c1]at hq;simp at hq
  have:j2=q:=by omega
  subst this
  rw[hy]at c2;cases c2
  exact ao j2 j y m hy c3 hl.1 hl.2
theorem Zw (hf:H_f201 F){B:Int}(wf:WF S)(ao:AO S)(tf:TFine S.τ B)(o:XR L c S.σ nds tv nv cv av K)(out:OutR c S L){i k:Nat}{x:One}(hx:S.σ.ones[i]?=some x)(hk:x.node=(k:Int))(err cause:Int) :
  zd F k_f201 [.p (some (c,0)),.i .i64 k,.i .i64 err,.i .i64 cause,.sl none 0 0 0,.sl none 0 0 0] K fun v K'=>∃(R:Zq) (L':Lg) (nds':List RNd) (w1 w2:AV) (ps':List (Lap×AV)),S.cancelP 200 i err cause=some R∧v=.tup [w1,w2]∧XR L' c R.1.σ nds' tv nv cv av K'∧OutR c R.1 L'∧FrR c S.σ L L'∧RRes L' c [tv,nv,cv,av] K' w1 w2 ps' R.2.2∧ps'.map (·.1)=R.2.1∧TFine R.1.τ B:=by
 obtain⟨k',e1,e2,e3⟩:=wf.who1 i x hx
 have:k'=k:=by omega
 subst this
 by_cases he:x.free=true∨x.err≠0
 ·refine (ze0 hf o hx hk he e2 err cause _ _).mono ?_
  rintro _ K' ⟨rfl,rfl⟩
  exact⟨(S,[],[]),L,nds,_,_,[],yK hx he 199 err cause,rfl,o,out,FrR.refl _ _ _,RRes.nil _ _ _ _,rfl,tf⟩
 ·simp only[not_or,Bool.not_eq_true,ne_eq,Decidable.not_not]at he
  have hsz:=wf.sz
  have hlen:=wf.len
  have hpl:(pre S.σ.tree 200 k').length≤1000:=by
   have hnd:=xY wf.tr 200 k'
   have hsub:pre S.σ.tree 200 k' ⊆ List.range S.σ.tree.length:=fun j hj=>List.mem_range.2 ((vW wf.tr _ _ _ hj).2 e2)
   have:=hnd.length_le_of_subset hsub
   simp at this;omega
  refine (zba hf wf.tr 200 c k' (fun _=>false) S err cause B L K nds tv nv cv av _ _ [] [] (by omega) e2 (Zu _ (fun _=>rfl)).symm (fun _ _=>rfl) (wf.liveAt hx hk he.1 he.2 200) (ao.notOver wf hx hk 200) tf o out (RRes.nil _ _ _ _) (by simp;omega) (by simp;omega)).mono ?_
  rintro v K' ⟨R,L',nds',w1,w2,ps',hR,hv,o',out',fr',rr',hps,tf',_,_⟩
  exact⟨R,L',nds',w1,w2,ps',by rw[hR];exact wf.cancelP hx hk he.1 he.2 err cause,hv,o',out',fr',rr',hps,tf'⟩
end
structure DoneR (c:Nat)(S S':CX)(L Lf:Lg):Prop where
 e:Lf c=some (.abs (wu c S'.σ))
 out:OutR c S' Lf
 fr:FrR c S.σ L Lf
def zdD (K:Lg)(v1 v2:AV)(laps:List Lap)(sts:List (Int×Int)):Prop:=∃ps:List (Lap×AV),ps.map (·.1)=laps∧OSl K v1 (zm zaD ps) ps.length 4∧OSl K v2 (zm stc sts) sts.length 2∧∀p∈ps,OSe K p.2 (zm Wk.cells p.1.wakes) p.1.wakes.length 5
section
variable {L L' K K':Lg} {c:Nat} {nds:List RNd} {tv nv cv av v1 v2:AV} {S S':CX} {σ:Cs} {ps:List (Lap×AV)} {sts:List (Int×Int)}
open Classical in
noncomputable def Lg.all (L:Lg)(c:Nat)(vs:List AV)(K:Lg):Lg:=fun b=>if w6 L c vs b then K b else L b
theorem Ul {vs:List AV}{b:Nat}(h:w6 L c vs b):L.all c vs K b=K b:=by unfold Lg.all;rw[if_pos h]
theorem zbp {vs:List AV}{b:Nat}(h:¬w6 L c vs b):L.all c vs K b=L b:=by unfold Lg.all;rw[if_neg h]
theorem zia {vs:List AV}{b:Nat}{d:LC}(h:L b=some d):L.all c vs K b=some d:=by rw[zbp (fun h9=>by have:=h9.1;rw[h]at this;cases this),h]
theorem XR.all (o:XR L c σ nds tv nv cv av K):XR (L.all c [tv,nv,cv,av] K) c σ nds tv nv cv av K:=by
 refine⟨⟨o.g.root,o.g.own,fun i p hp b hb=>⟨(o.g.ap i p hp b hb).1,?_⟩,o.g.nd,fun q d hq hd=>?_⟩,o.n⟩
 ·rw[zbp (fun h9=>h9.2.2 _ (zaF hp) hb)];exact (o.g.ap i p hp b hb).2
 ·by_cases h:w6 L c [tv,nv,cv,av] q
  ·rw[Ul h]at hd;exact hd
  ·rw[zbp h]at hd;exact o.g.old q d hq hd
theorem OutR.sub (out:OutR c S L)(h:∀b d,L b=some d→L' b=some d):OutR c S L' :=
 ⟨fun s hs=>⟨(out.tms s hs).1,h _ _ (out.tms s hs).2⟩,fun o ho a ha=>⟨(out.chs o ho a ha).1,(out.chs o ho a ha).2.1,h _ _ (out.chs o ho a ha).2.2⟩⟩
theorem OutR.root (out:OutR c S L)(d:LC):OutR c S (L.put c d) :=
 ⟨fun s hs=>⟨(out.tms s hs).1,by rw[zb _ _ _ (out.tms s hs).1];exact (out.tms s hs).2⟩,fun o ho a ha=>⟨(out.chs o ho a ha).1,(out.chs o ho a ha).2.1,by rw[zb _ _ _ (out.chs o ho a ha).1];exact (out.chs o ho a ha).2.2⟩⟩
theorem zdk (o:XR L' c S'.σ nds tv nv cv av K')(out:OutR c S' L')(fr:FrR c σ L L')(rr:RRes L' c [tv,nv,cv,av] K' v1 v2 ps sts)(hσ:σ=S.σ) :
  ∃Lf,zu K' Lf∧DoneR c S S' L Lf∧zdD Lf v1 v2 (ps.map (·.1)) sts:=by
 subst hσ
 have h9:∀b d,L' b=some d→(L'.all c [tv,nv,cv,av] K') b=some d:=fun b d h=>zia h
 have hfr:∀{v:AV} {cs:List AV} {n z:Nat},OSl K' v cs n z→(∀b,slB v=some b→w6 L' c [tv,nv,cv,av] b)→OSl ((L'.all c [tv,nv,cv,av] K').put c (.abs (wu c S'.σ))) v cs n z:=by
  intro v cs n z h1 h2
  exact h1.mono fun b hb=>by rw[zb _ _ _ (h2 b hb).2.1,Ul (h2 b hb)]
 refine⟨_,o.all.shut,⟨ze _ _ _,(out.sub h9).root _,fun r d h1 h2 h3 h4=>by rw[zb _ _ _ h1];exact h9 _ _ (fr r d h1 h2 h3 h4)⟩,ps,rfl,hfr rr.o1 fun b hb=>(rr.f1 b hb).1,hfr rr.o2 rr.f2,fun p hp=>?_⟩
 exact (rr.ins p hp).1.mono fun b hb=>by rw[zb _ _ _ ((rr.ins p hp).2 b hb).1.2.1,Ul ((rr.ins p hp).2 b hb).1]
end
end
section
variable {F:Nat→Option AFn}
theorem AO.add {S:CX}(h:AO S)(wf:WF S){σ':Cs}{τ':Tms}{χ':Nat→Ch}(ha:σ'.afts=S.σ.afts){p:Int}{lk:Bool}(had:Added S.σ.tree p lk σ'.tree):AO ⟨σ',τ',χ'⟩:=by
 intro j k x n hx hk hn hl
 simp only at hx hn
 rw[ha]at hx
 rcases had.back hn with⟨_,m,hm,_,h2⟩ | ⟨h1,_,_⟩
 ·exact h j k x m hx hk hm (by rw[←h2];exact hl)
 ·obtain⟨k',e1,e2,_⟩:=wf.who2 j x hx
  omega
theorem AO.walk {S S':CX}(h:AO S){l:List Nat}(ht:S'.σ.tree=ye S.σ.tree fun j=>decide (j∈l))(ha:∀w:Nat,S'.σ.afts[w]?=(S.σ.afts[w]?).map fun (x:Aft)=>if inL l x.node=true then { x with over:=true }else x):AO S':=by
 intro j k x n hx hk hn hl
 rw[ha]at hx
 cases e:S.σ.afts[j]? with
 | none=>rw[e]at hx;cases hx
 | some y =>
  rw[e]at hx
  simp at hx
  subst hx
  have hyk:y.node=(k:Int):=by split at hk<;>exact hk
  rw[ht,y3]at hn
  cases e2:S.σ.tree[k]? with
  | none=>rw[e2]at hn;cases hn
  | some m =>
   rw[e2]at hn;simp at hn;subst hn
   simp at hl
   rw[zeJ hyk]
   simp[hl.2]
   exact h j k y m e hyk e2 hl.1
theorem zdb {S:CX}(wf:WF S)(ao:AO S){i:Nat}{x:One}(hx:S.σ.ones[i]?=some x){err cause:Int}(herr:err≠0){r:Zq}(hr:S.cancelP 200 i err cause=some r):WF r.1∧AO r.1∧r.1.σ.t=S.σ.t∧r.1.σ.ones.length=S.σ.ones.length∧r.1.τ.ones=S.τ.ones:=by
 obtain⟨k,hk,_,_⟩:=wf.who1 i x hx
 by_cases he:x.free=true∨x.err≠0
 ·rw[yK hx he 199]at hr
  cases hr
  exact⟨wf,ao,rfl,rfl,rfl⟩
 ·simp only[not_or,Bool.not_eq_true,ne_eq,Decidable.not_not]at he
  rw[wf.cancelP hx hk he.1 he.2]at hr
  simp only[Option.some.injEq]at hr
  obtain⟨h1,h2,h3,h4,h5,h6,h7⟩:=wf.walk hx hk he.1 he.2 herr hr
  refine⟨h1,ao.walk h5 h7,h3,?_,h4⟩
  have e1:=h6 S.σ.ones.length
  have e2:=h6 r.1.σ.ones.length
  rw[List.getElem?_eq_none (Nat.le_refl _)]at e1 e2
  rcases Nat.lt_trichotomy r.1.σ.ones.length S.σ.ones.length with h9 | h9 | h9
  ·rw[List.getElem?_eq_getElem h9]at e2;cases e2
  ·exact h9
  ·rw[List.getElem?_eq_getElem h9]at e1;cases e1
theorem WF.addS {S:CX}(h:WF S){p:Nat}{up o:One}(hup:S.σ.ones[p]?=some up)(hlen:S.σ.ones.length<64)(ho:o.err=0)(a:Nat) :
  WF (S.addS o up.node a)∧(S.addS o up.node a).σ.ones=S.σ.ones++[{ o with c:=some a,node:=S.σ.tree.length,timer:=-1 }]∧Added S.σ.tree up.node (!o.free) (S.addS o up.node a).σ.tree:=by
 have:=h.add (o:={ o with c:=some a }) (χ':=y9 S.χ a .sg) hup hlen ho (fun b n hb=>WZ S.χ a b n hb) (fun b hb=>by simp at hb;subst hb;simp[y9,Ch.sg])
 exact⟨this.1,this.2.1,this.2.2.1⟩
theorem xM {σ:Cs}{id:Int}(h:σ.room id=0):∃(i:Nat) (x:One),id=(i:Int)∧i<σ.ones.length∧σ.ones[i]?=some x∧σ.has id=true∧σ.ones.length<64:=by
 obtain⟨i,rfl,hi⟩:=Z8 h
 refine⟨i,σ.ones[i],rfl,hi,List.getElem?_eq_getElem hi,by simp[Cs.has,hi],?_⟩
 unfold Cs.room at h
 split at h
 ·cases h
 ·split at h
  ·cases h
  ·omega
section
variable {L K:Lg} {c:Nat} {nds:List RNd} {tv nv cv av:AV} {S:CX}
theorem OutR.addNone (ho:OutR c S L){o:One}(h:o.c=none)(parent:Int):OutR c (S.addP o parent) L:=by
 refine⟨ho.tms,fun o1 h1 a h2=>?_⟩
 have h1':o1∈S.σ.ones++[{ o with node:=(zL S.σ.tree parent (!o.free)).2.1,timer:=-1 }]:=h1
 rcases List.mem_append.1 h1' with h1' | h1'
 ·exact ho.chs o1 h1' a h2
 ·simp at h1';subst h1';rw[h]at h2;cases h2
theorem OutR.addS (ho:OutR c S L){o:One}{a:Nat}(ha:L a=none)(hac:a≠c)(parent:Int):OutR c (S.addS o parent a) (L.put a (.abs (ZW a .sg))):=by
 have hn:∀r P,L r=some P→r≠a:=by rintro r P h rfl;rw[ha]at h;cases h
 refine⟨fun s hs=>?_,fun o1 h1 a1 h2=>?_⟩
 ·have:=ho.tms s hs
  exact⟨this.1,by rw[zb _ _ _ (hn _ _ this.2)];exact this.2⟩
 have h1':o1∈S.σ.ones++[{ ({ o with c:=some a }:One)with node:=(zL S.σ.tree parent (!o.free)).2.1,timer:=-1 }]:=h1
 rcases List.mem_append.1 h1' with h1' | h1'
 ·have:=ho.chs o1 h1' a1 h2
  have e:a1≠a:=hn _ _ this.2.2
  exact⟨this.1,this.2.1,by rw[zb _ _ _ e];simp[CX.addS,y9,e,this.2.2]⟩
 ·simp at h1';subst h1'
  simp at h2;subst h2
  refine⟨hac,?_,by rw[ze];simp[CX.addS,y9]⟩
  intro h9
  exact hn _ _ (ho.tms a h9).2 rfl
theorem FrR.add {L0:Lg}{o:One}{p:Int}{a:Nat}(fr:FrR c (S.addS o p a).σ L K)(ha:L0 a=none)(h0:∀r d,L0 r=some d→L r=some d):FrR c S.σ L0 K:=by
 intro r d h1 h2 h3 h4
 refine fr r d h1 h2 (fun o1 h5 h6=>?_) (h0 r d h4)
 have h5':o1∈S.σ.ones++[{ ({ o with c:=some a }:One)with node:=(zL S.σ.tree p (!o.free)).2.1,timer:=-1 }]:=h5
 rcases List.mem_append.1 h5' with h7 | h7
 ·exact h3 o1 h7 h6
 ·simp at h7;subst h7;simp at h6;subst h6;rw[ha]at h4;cases h4
theorem sigR {K:Lg}{a:Nat}:zu (K.put a (.raw (.cells [.i .i64 0,.b false,.b true,.b false,.sl none 0 0 0,.sl none 0 0 0,.sl none 0 0 0]))) (K.put a (.abs (ZW a .sg))):=by
 have o:CROpen K a .sg (.sl none 0 0 0) (.sl none 0 0 0) (.sl none 0 0 0) (K.put a (.raw (.cells [.i .i64 0,.b false,.b true,.b false,.sl none 0 0 0,.sl none 0 0 0,.sl none 0 0 0]))) :=
  ⟨ze _ _ _,.inl (OSl.nil _ _),.inl (OSl.nil _ _),.inl (OSl.nil _ _),(fun b h=>by cases h),(fun b h=>by cases h),(fun b h=>by cases h),(fun r d hr hd=>by rw[zb _ _ _ hr];exact hd),(by simp[Ch.sg])⟩
 exact o.shut
theorem vG (hf:H_f202 F){B:Int}(wf:WF S)(ao:AO S)(tf:TFine S.τ B)(o:XR L c S.σ nds tv nv cv av K)(out:OutR c S L)(id:Int) :
  zd F k_f202 [.p (some (c,0)),.i .i64 id] K fun v K'=>∃(a:Nat) (r:zcG) (L':Lg) (nds':List RNd) (tv' nv' cv' w v2:AV) (ps:List (Lap×AV)) (sts:List (Int×Int)),(S.σ.room id=0→L a=none)∧S.cancelsP id a=some r∧v=.tup [.i .i64 r.2.1,w,.i .i64 r.2.2.2] ∧
   XR L' c r.1.σ nds' tv' nv' cv' av K'∧OutR c r.1 L'∧FrR c S.σ L L'∧RRes L' c [tv',nv',cv',av] K' w v2 ps sts∧ps.map (·.1)=r.2.2.1∧TFine r.1.τ B:=by
 refine zr ?_
 intro Q hQ
 apply r_f202 hf.code
 unfold D_f202_1 D_f202_2
 refine (wz hf.f194 o id).mono ?_
 rintro _ K' ⟨rfl,rfl⟩
 have bad:∀z:Int,S.σ.room id=z→z≠0→zl (some (.tup [.i .i64 0,.sl none 0 0 0,.i .i64 z])) Q K':=fun z hz h0=>⟨K',zu.refl _,hQ _ _ ⟨0,(S,0,[],S.σ.room id),L,nds,tv,nv,cv,_,.sl none 0 0 0,[],[],fun h=>absurd (hz.symm.trans h) h0,by unfold CX.cancelsP;rw[if_pos (by rw[hz];exact h0)],by rw[hz],o,out,FrR.refl _ _ _,RRes.nil _ _ _ _,rfl,tf⟩⟩
 cases h:S.σ.has id with
 | false =>
  simp only[zf,yf,Bool.not_false,zZ]
  exact bad 4 (by simp[Cs.room,h]) (by omega)
 | true =>
 simp only[zf,yf,Bool.not_true,zB]
 unfold D_f202_3
 have hcl:=fun X k=>o.cs.len (F:=F) X k
 simp only[zf,zg,zj,Nat.zero_add,zt,o.f3,zh,hcl,vK]
 by_cases h64:(64:Int)≤(S.σ.ones.length:Int)
 ·rw[decide_eq_true h64]
  simp only[zZ]
  exact bad 3 (by simp[Cs.room,h];omega) (by omega)
 rw[decide_eq_false h64]
 simp only[zB]
 have hroom:S.σ.room id=0:=by simp[Cs.room,h];omega
 obtain⟨i,up,rfl,hil,hup,_,hlen⟩:=xM hroom
 obtain⟨k,hk,hkl,hwk⟩:=wf.who1 i up hup
 unfold D_f202_4
 refine (xN hf.f195 o hup hk (by rw[o.n.len];exact hkl)).mono ?_
 rintro _ K2 ⟨⟨b,hb,rfl⟩,rfl⟩
 have hnd:=o.n.one i k up hup hk
 have r12:rdL K2 (b,k * 12) (some 12)=some (.agg (zG i up).cells):=by
  rw[yj (o.ns.block hb) (by rw[zV RNd.len];have:=(List.getElem?_eq_some_iff.1 hnd).1;omega)]
  rw[(wa RNd.len nds k _ hnd).1]
 simp only[zf,zg,zt,r12,zh,xa]
 intro b4 hb4
 simp only[zf,yv]
 rw[zw (n:=12) (ze _ _ _) (RNd.one _) (RNd.len _) (by simp),zA]
 have hsp:zo [.b false,.i .i64 0,.i .i64 0,.b false,.b false,.i .i64 0,.i .i64 0,.i .i64 0,.b false,.b false,.i .i64 0,.p none] 0 (zG i up).cells=(zG i up).cells:=by simp[zo,RNd.cells,zq,zp]
 rw[hsp]
 obtain⟨hLb4,hb4c,_⟩:=o.free hb4
 have o4:=o.onto hb4 (.raw (.cells (zG i up).cells))
 have out4:=out.put hLb4 (.raw (.cells (zG i up).cells))
 have k4:(K2.put b4 (.raw (.cells (zG i up).cells))) b4=some (.raw (.cells (zG i up).cells)):=ze _ _ _
 have l4:∀r d,L r=some d→(L.put b4 (.raw (.cells (zG i up).cells))) r=some d:=fun r d hr=>by rw[zb _ _ _ (by rintro rfl;rw[hLb4]at hr;cases hr)];exact hr
 have l44:(L.put b4 (.raw (.cells (zG i up).cells))) b4=some (.raw (.cells (zG i up).cells)):=ze _ _ _
 generalize (K2.put b4 (.raw (.cells (zG i up).cells)))=K4 at o4 k4
 generalize (L.put b4 (.raw (.cells (zG i up).cells)))=L4 at o4 out4 l4 l44
 unfold D_f202_5
 obtain⟨q,z,q1,q2,_⟩:=o4.sC.get (F:=F) (i:=i) (x:=(k:Int)) (by rw[List.getElem?_map,hup,←hk];rfl)
 have rk:rdL K4 (q,z) none=some (.i .i64 k):=(q2 K4 (yd.refl _)).1 0 (by omega)
 have hbc:∀(X:Lg) (k:AV→Lg→Prop),za F (.build [.i .i64 0,.b false,.b false,.b false,.sl none 0 0 0,.sl none 0 0 0,.sl none 0 0 0] [(2,1)]) [.b true] X k=k (.agg [.i .i64 0,.b false,.b true,.b false,.sl none 0 0 0,.sl none 0 0 0,.sl none 0 0 0]) X:=by
  intro X k;simp[zE,zo,zq,zp]
 simp only[zf,zg,zj,Nat.zero_add,zt,o4.f3,zh,q1,rk,hbc,ZB]
 rw[zN _ _ _ (by simp)]
 intro a ha
 obtain⟨hLa,hac,_⟩:=o4.free ha
 have hab4:a≠b4:=by rintro rfl;rw[k4]at ha;cases ha
 have kk4:(K4.put a (.raw (.cells [.i .i64 0,.b false,.b true,.b false,.sl none 0 0 0,.sl none 0 0 0,.sl none 0 0 0]))) b4=some (.raw (.cells (zG i up).cells)):=by rw[zb _ _ _ (Ne.symm hab4)];exact k4
 have s7:rdL (K4.put a (.raw (.cells [.i .i64 0,.b false,.b true,.b false,.sl none 0 0 0,.sl none 0 0 0,.sl none 0 0 0]))) (b4,7) none=some (.i .i64 up.when):=by rw[zk kk4];rfl
 have s8:rdL (K4.put a (.raw (.cells [.i .i64 0,.b false,.b true,.b false,.sl none 0 0 0,.sl none 0 0 0,.sl none 0 0 0]))) (b4,8) none=some (.b up.has):=by rw[zk kk4];rfl
 have hbn:∀(X:Lg) (k:AV→Lg→Prop),za F (.build [.b false,.i .i64 0,.i .i64 0,.b false,.b false,.i .i64 0,.i .i64 0,.i .i64 0,.b false,.b false,.i .i64 0,.p none] [(11,1),(7,1),(8,1),(10,1)]) [.p (some (a,0)),.i .i64 up.when,.b up.has,.i .i64 (-1)] X k=k (.agg (zG 0 { ({ ({ One.zero with when:=up.when,has:=up.has }:One)with c:=some a }:One)with timer:=-1 }).cells) X:=by
  intro X k;simp[zE,zo,zq,zp,RNd.cells,zG,One.zero]
 simp only[zf,zj,Nat.zero_add,zt,s7,s8,zh,hbn]
 refine zd.pre sigR ?_
 have oa:=o4.onto ha (.abs (ZW a .sg))
 have outa:=out4.addS (o:={ One.zero with when:=up.when,has:=up.has }) hLa hac up.node
 have hnode:=wf.node hup
 have htl:S.σ.tree.length<1000:=by have:=wf.len;have:=wf.sz;omega
 rw[←hk]
 refine (Wq hf.f124 oa htl (by omega) (.inr hnode.1) ({ ({ One.zero with when:=up.when,has:=up.has }:One)with c:=some a }:One)).mono ?_
 rintro _ K5 ⟨rfl,nds5,tv5,nv5,cv5,o5⟩
 obtain⟨S5,hS5⟩:∃S5,S5=S.addS { One.zero with when:=up.when,has:=up.has } up.node a:=⟨_,rfl⟩
 have o5':XR (L4.put a (.abs (ZW a .sg))) c S5.σ nds5 tv5 nv5 cv5 av K5:=by rw[hS5];exact o5
 rw[←hS5]at outa
 obtain⟨w5,e5,d5⟩:=wf.addS (o:={ One.zero with when:=up.when,has:=up.has }) hup hlen rfl a
 rw[←hS5]at w5 e5 d5
 have ao5:AO S5:=by rw[hS5];exact ao.add wf rfl (by rw[hS5]at d5;exact d5)
 have tf5:TFine S5.τ B:=by rw[hS5];exact tf
 have hcp:∀laps S',S5.beginP S.σ.ones.length i=some (S',laps)→S.cancelsP i a=some (S',(S.σ.ones.length:Int),laps,0):=by
  intro laps S' h9
  unfold CX.cancelsP
  rw[if_neg (by rw[hroom];simp),if_pos wf.okAdd]
  simp only[Int.toNat_natCast,hup,←hS5,h9]
 have hup5:S5.σ.ones[i]?=some up:=by rw[e5,List.getElem?_append_left hil];exact hup
 have fr5:FrR c S.σ L (L4.put a (.abs (ZW a .sg))):=fun r d _ _ _ hr=>by rw[zb _ _ _ (by rintro rfl;rw[l4 _ _ hr]at hLa;cases hLa)];exact l4 r d hr
 unfold D_f202_6
 have u4:K5 b4=some (.raw (.cells (zG i up).cells)):=o5'.g.old b4 _ hb4c (by rw[zb _ _ _ (Ne.symm hab4)];exact l44)
 have u5:rdL K5 (b4,5) none=some (.i .i64 up.err):=by rw[zk u4];rfl
 have u6:rdL K5 (b4,6) none=some (.i .i64 up.cause):=by rw[zk u4];rfl
 have hla:L a=none:=by
  cases h9:L a with
  | none=>rfl
  | some d=>rw[l4 _ _ h9]at hLa;cases hLa
 simp only[zf,zj,Nat.zero_add,zt,u5,zh,xL]
 by_cases h0:up.err=0
 ·rw[decide_eq_true h0]
  simp only[zZ]
  refine⟨K5,zu.refl _,hQ _ _ ⟨a,(S5,S.σ.ones.length,[],0),_,nds5,tv5,nv5,cv5,_,.sl none 0 0 0,[],[],fun _=>hla,hcp _ _ ?_,rfl,o5',outa,fr5,RRes.nil _ _ _ _,rfl,tf5⟩⟩
  unfold CX.beginP
  rw[if_pos (by omega)]
  simp only[Int.toNat_natCast,hup5,h0,if_true]
 ·rw[decide_eq_false h0]
  have hnew:S5.σ.ones[S.σ.ones.length]?=some { ({ ({ One.zero with when:=up.when,has:=up.has }:One)with c:=some a }:One)with node:=S.σ.tree.length,timer:=-1 }:=by rw[e5,List.getElem?_append_right (Nat.le_refl _)];simp
  obtain⟨q5,z5,q51,q52,_⟩:=o5'.sC.get (F:=F) (i:=S.σ.ones.length) (x:=(S.σ.tree.length:Int)) (by rw[List.getElem?_map,hnew];rfl)
  have rk5:rdL K5 (q5,z5) none=some (.i .i64 S.σ.tree.length):=(q52 K5 (yd.refl _)).1 0 (by omega)
  simp only[zB,zf,zg,zj,Nat.zero_add,zt,o5'.f3,u5,u6,zh,q51,rk5]
  refine (Zw hf.f201 w5 ao5 tf5 o5' outa hnew rfl up.err up.cause).mono ?_
  rintro _ K6 ⟨R,L6,nds6,w1,w2,ps,hR,rfl,o6,out6,fr6,rr6,hps,tf6⟩
  simp only[zf,yb,List.getElem?_cons_zero,List.getElem?_cons_succ,zh]
  refine⟨K6,zu.refl _,hQ _ _ ⟨a,(R.1,S.σ.ones.length,R.2.1,0),L6,nds6,tv5,nv5,cv5,w1,w2,ps,R.2.2,fun _=>hla,hcp _ _ ?_,rfl,o6,out6,?_,rr6,hps,tf6⟩⟩
  ·unfold CX.beginP
   rw[if_pos (by omega)]
   simp only[Int.toNat_natCast,hup5,h0,if_false,hR]
  ·rw[hS5]at fr6
   exact FrR.add fr6 hla fun r d hr=>by rw[zb _ _ _ (by rintro rfl;rw[l4 _ _ hr]at hLa;cases hLa)];exact l4 r d hr
end
end
section
variable {F:Nat→Option AFn}
section
variable {L K:Lg} {c:Nat} {S:CX}
theorem DoneR.refl (e:L c=some (.abs (wu c S.σ)))(out:OutR c S L):DoneR c S S L L:=⟨e,out,FrR.refl _ _ _⟩
theorem zdD.nil (K:Lg):zdD K (.sl none 0 0 0) (.sl none 0 0 0) [] []:=⟨[],rfl,OSl.nil _ _,OSl.nil _ _,fun p hp=>by simp at hp⟩
theorem XK (hf:H_f202 F){B:Int}(wf:WF S)(ao:AO S)(tf:TFine S.τ B)(e:L c=some (.abs (wu c S.σ)))(out:OutR c S L)(id:Int) :
  zd F k_f202 [.p (some (c,0)),.i .i64 id] L fun v Lf=>∃(a:Nat) (r:zcG) (w v2:AV) (sts:List (Int×Int)),(S.σ.room id=0→L a=none)∧S.cancelsP id a=some r∧v=.tup [.i .i64 r.2.1,w,.i .i64 r.2.2.2]∧DoneR c S r.1 L Lf∧zdD Lf w v2 r.2.2.1 sts∧TFine r.1.τ B:=by
 apply yR e
 intro nds tv nv cv av K o
 refine (vG hf wf ao tf o out id).sees ?_
 rintro _ K' ⟨a,r,L',nds',tv',nv',cv',w,v2,ps,sts,ha,hr,rfl,o',out',fr',rr',hps,tf'⟩
 obtain⟨Lf,h1,h2,h3⟩:=zdk (S:=S) o' out' fr' rr' rfl
 exact⟨Lf,h1,a,r,w,v2,sts,ha,hr,rfl,h2,by rw[←hps];exact h3,tf'⟩
theorem XI (hf:H_f205 F){B:Int}(wf:WF S)(tf:TFine S.τ B)(e:L c=some (.abs (wu c S.σ)))(out:OutR c S L)(id:Int) :
  zd F k_f205 [.p (some (c,0)),.i .i64 id] L fun v Lf=>∃r:CX×Int×Int,S.withoutP id=some r∧v=.tup [.i .i64 r.2.1,.i .i64 r.2.2]∧DoneR c S r.1 L Lf∧TFine r.1.τ B:=by
 refine zr ?_
 intro Q hQ
 apply yR e
 intro nds tv nv cv av K o
 apply r_f205 hf.code
 unfold D_f205_1
 refine (wz hf.f194 o id).mono ?_
 rintro _ K' ⟨rfl,rfl⟩
 have bad:∀z:Int,S.σ.room id=z→z≠0→zl (some (.tup [.i .i64 0,.i .i64 z])) Q K':=fun z hz h0=>⟨L,o.back e,hQ _ _ ⟨(S,0,S.σ.room id),by unfold CX.withoutP;rw[if_pos (by rw[hz];exact h0)],by rw[hz],DoneR.refl e out,tf⟩⟩
 cases h:S.σ.has id with
 | false =>
  simp only[zf,yf,Bool.not_false,zZ]
  exact bad 4 (by simp[Cs.room,h]) (by omega)
 | true =>
 have hcl:=fun X k=>o.cs.len (F:=F) X k
 simp only[zf,yf,Bool.not_true,zB,zg,zj,Nat.zero_add,zt,o.f3,zh,hcl,vK]
 by_cases h64:(64:Int)≤(S.σ.ones.length:Int)
 ·rw[decide_eq_true h64]
  simp only[zZ]
  exact bad 3 (by simp[Cs.room,h];omega) (by omega)
 rw[decide_eq_false h64]
 have hroom:S.σ.room id=0:=by simp[Cs.room,h];omega
 obtain⟨i,up,rfl,hil,hup,_,hlen⟩:=xM hroom
 obtain⟨k,hk,hkl,hwk⟩:=wf.who1 i up hup
 obtain⟨q,z,q1,q2,_⟩:=o.sC.get (F:=F) (i:=i) (x:=(k:Int)) (by rw[List.getElem?_map,hup,←hk];rfl)
 have rk:rdL K' (q,z) none=some (.i .i64 k):=(q2 K' (yd.refl _)).1 0 (by omega)
 have hbn:∀(X:Lg) (k:AV→Lg→Prop),za F (.build [.b false,.i .i64 0,.i .i64 0,.b false,.b false,.i .i64 0,.i .i64 0,.i .i64 0,.b false,.b false,.i .i64 0,.p none] [(4,1),(10,1)]) [.b true,.i .i64 (-1)] X k=k (.agg (zG 0 { ({ One.zero with free:=true }:One)with timer:=-1 }).cells) X:=by
  intro X k;simp[zE,zo,zq,zp,RNd.cells,zG,One.zero]
 simp only[zB,zf,zg,zj,Nat.zero_add,zt,o.f3,zh,q1,rk,hbn]
 have hnode:=wf.node hup
 have htl:S.σ.tree.length<1000:=by have:=wf.len;have:=wf.sz;omega
 rw[←hk]
 refine (Wq hf.f124 o htl (by omega) (.inr hnode.1) ({ One.zero with free:=true }:One)).mono ?_
 rintro _ K5 ⟨rfl,nds5,tv5,nv5,cv5,o5⟩
 have o5':XR L c (S.addP { One.zero with free:=true } up.node).σ nds5 tv5 nv5 cv5 av K5:=o5
 have out5:OutR c (S.addP { One.zero with free:=true } up.node) L:=out.addNone rfl _
 obtain⟨Lf,h1,h2,_⟩:=zdk (S:=S) o5' out5 (FrR.refl _ S.σ L) (RRes.nil _ _ _ _) rfl
 refine⟨Lf,h1,hQ _ _ ⟨(S.addP { One.zero with free:=true } up.node,S.σ.ones.length,0),?_,rfl,h2,tf⟩⟩
 unfold CX.withoutP
 rw[if_neg (by rw[hroom];simp),if_pos wf.okAdd]
 simp only[Int.toNat_natCast,hup]
theorem WD (hf:H_f206 F){B:Int}(wf:WF S)(ao:AO S)(tf:TFine S.τ B)(e:L c=some (.abs (wu c S.σ)))(out:OutR c S L)(id cause:Int) :
  zd F k_f206 [.p (some (c,0)),.i .i64 id,.i .i64 cause] L fun v Lf=>∃(r:CX×List Lap×List (Int×Int)×Int) (w1 w2:AV),S.cancelX id cause=some r∧v=.tup [w1,w2,.i .i64 r.2.2.2]∧DoneR c S r.1 L Lf∧zdD Lf w1 w2 r.2.1 r.2.2.1∧TFine r.1.τ B:=by
 refine zr ?_
 intro Q hQ
 apply yR e
 intro nds tv nv cv av K o
 apply r_f206 hf.code
 unfold D_f206_1 D_f206_2
 refine (wz hf.f194 o id).mono ?_
 rintro _ K' ⟨rfl,rfl⟩
 have bad:∀z:Int,S.cancelX id cause=some (S,[],[],z)→zl (some (.tup [.sl none 0 0 0,.sl none 0 0 0,.i .i64 z])) Q K':=fun z hz=>⟨L,o.back e,hQ _ _ ⟨(S,[],[],z),_,_,hz,rfl,DoneR.refl e out,zdD.nil _,tf⟩⟩
 cases h:S.σ.has id with
 | false =>
  simp only[zf,yf,Bool.not_false,zZ]
  exact bad 4 (by unfold CX.cancelX;rw[if_pos h])
 | true =>
 simp only[zf,yf,Bool.not_true,zB]
 unfold D_f206_3
 obtain⟨i,x,rfl,hx,_⟩:=xI h
 obtain⟨k,hk,hkl,hwk⟩:=wf.who1 i x hx
 refine (xN hf.f195 o hx hk (by rw[o.n.len];exact hkl)).mono ?_
 rintro _ K2 ⟨⟨b,hb,rfl⟩,rfl⟩
 have r4:rdL K2 (b,k * 12+4) none=some (.b x.free):=by rw[o.rn hb (o.n.one i k x hx hk) (by omega)];rfl
 simp only[zf,zg,zj,zt,r4,zh]
 cases hfr:x.free with
 | true =>
  simp only[zZ]
  exact bad 1 (by unfold CX.cancelX;rw[if_neg (by rw[h];simp)];simp only[Int.toNat_natCast,hx,hfr,if_true])
 | false =>
 simp only[zB]
 unfold D_f206_4
 obtain⟨q,z,q1,q2,_⟩:=o.sC.get (F:=F) (i:=i) (x:=(k:Int)) (by rw[List.getElem?_map,hx,←hk];rfl)
 have rk:rdL K2 (q,z) none=some (.i .i64 k):=(q2 K2 (yd.refl _)).1 0 (by omega)
 have step:∀cs:Int,(if cause<1 then 1 else cause)=cs→D_f206_5 F Q (.p (some (c,0))) (.i .i64 i) (.i .i64 cs) K2:=by
  intro cs hcs
  unfold D_f206_5
  simp only[zf,zg,zj,Nat.zero_add,zt,o.f3,zh,q1,rk]
  refine (Zw hf.f201 wf ao tf o out hx hk 1 cs).mono ?_
  rintro _ K6 ⟨R,L6,nds6,w1,w2,ps,hR,rfl,o6,out6,fr6,rr6,hps,tf6⟩
  simp only[zf,yb,List.getElem?_cons_zero,List.getElem?_cons_succ,zh]
  obtain⟨Lf,h1,h2,h3⟩:=zdk (S:=S) o6 out6 fr6 rr6 rfl
  refine⟨Lf,h1,hQ _ _ ⟨(R.1,R.2.1,R.2.2,0),w1,w2,?_,rfl,h2,by rw[←hps];exact h3,tf6⟩⟩
  unfold CX.cancelX
  rw[if_neg (by rw[h];simp)]
  simp only[Int.toNat_natCast,hx,hfr,Bool.false_eq_true,if_false,hcs,hR]
 simp only[zf,y0,zR]
 exact⟨fun h1=>step 1 (if_pos h1),fun h1=>step cause (if_neg h1)⟩
theorem Ya (hf:H_f210 F){B:Int}(wf:WF S)(ao:AO S)(tf:TFine S.τ B)(e:L c=some (.abs (wu c S.σ)))(out:OutR c S L)(id:Int) :
  zd F k_f210 [.p (some (c,0)),.i .i64 id] L fun v Lf=>∃(r:CX×List Lap×List (Int×Int)×Int) (w1 w2:AV),S.lapseX id=some r∧v=.tup [w1,w2,.i .i64 r.2.2.2]∧DoneR c S r.1 L Lf∧zdD Lf w1 w2 r.2.1 r.2.2.1∧TFine r.1.τ B:=by
 refine zr ?_
 intro Q hQ
 apply yR e
 intro nds tv nv cv av K o
 apply r_f210 hf.code
 unfold D_f210_1
 refine (wz hf.f194 o id).mono ?_
 rintro _ K' ⟨rfl,rfl⟩
 have bad:∀z:Int,S.lapseX id=some (S,[],[],z)→zl (some (.tup [.sl none 0 0 0,.sl none 0 0 0,.i .i64 z])) Q K':=fun z hz=>⟨L,o.back e,hQ _ _ ⟨(S,[],[],z),_,_,hz,rfl,DoneR.refl e out,zdD.nil _,tf⟩⟩
 cases h:S.σ.has id with
 | false =>
  simp only[zf,yf,Bool.not_false,zZ]
  exact bad 4 (by unfold CX.lapseX;rw[if_pos h])
 | true =>
 simp only[zf,yf,Bool.not_true,zB]
 obtain⟨i,x,rfl,hx,_⟩:=xI h
 obtain⟨k,hk,hkl,hwk⟩:=wf.who1 i x hx
 refine (xN hf.f195 o hx hk (by rw[o.n.len];exact hkl)).mono ?_
 rintro _ K2 ⟨⟨b,hb,rfl⟩,rfl⟩
 have r4:rdL K2 (b,k * 12+9) none=some (.b x.own):=by rw[o.rn hb (o.n.one i k x hx hk) (by omega)];rfl
 simp only[zf,zg,zj,zt,r4,zh,yf]
 cases hfr:x.own with
 | false =>
  simp only[zf,Bool.not_false,zZ]
  exact bad 1 (by unfold CX.lapseX;rw[if_neg (by rw[h];simp)];simp only[Int.toNat_natCast,hx,hfr,if_true])
 | true =>
 simp only[zf,Bool.not_true,zB]
 obtain⟨q,z,q1,q2,_⟩:=o.sC.get (F:=F) (i:=i) (x:=(k:Int)) (by rw[List.getElem?_map,hx,←hk];rfl)
 have rk:rdL K2 (q,z) none=some (.i .i64 k):=(q2 K2 (yd.refl _)).1 0 (by omega)
 simp only[zf,zg,zj,Nat.zero_add,zt,o.f3,zh,q1,rk]
 refine (Zw hf.f201 wf ao tf o out hx hk 2 2).mono ?_
 rintro _ K6 ⟨R,L6,nds6,w1,w2,ps,hR,rfl,o6,out6,fr6,rr6,hps,tf6⟩
 simp only[zf,yb,List.getElem?_cons_zero,List.getElem?_cons_succ,zh]
 obtain⟨Lf,h1,h2,h3⟩:=zdk (S:=S) o6 out6 fr6 rr6 rfl
 refine⟨Lf,h1,hQ _ _ ⟨(R.1,R.2.1,R.2.2,0),w1,w2,?_,rfl,h2,by rw[←hps];exact h3,tf6⟩⟩
 unfold CX.lapseX
 rw[if_neg (by rw[h];simp)]
 simp only[Int.toNat_natCast,hx,hfr,Bool.true_eq_false,if_false,hR]
theorem XJ (hf:H_f209 F){B:Int}(wf:WF S)(tf:TFine S.τ B)(e:L c=some (.abs (wu c S.σ)))(out:OutR c S L)(j:Int) :
  zd F k_f209 [.p (some (c,0)),.i .i64 j] L fun v Lf=>∃r:CX×Bool×Int,S.unafterX j=some r∧v=.tup [.b r.2.1,.i .i64 r.2.2]∧DoneR c S r.1 L Lf∧TFine r.1.τ B:=by
 refine zr ?_
 intro Q hQ
 apply yR e
 intro nds tv nv cv av K o
 apply r_f209 hf.code
 unfold D_f209_1 D_f209_2
 have hal:=fun X k=>o.as.len (F:=F) X k
 have bad:¬(0≤j∧j<(S.σ.afts.length:Int))→zl (some (.tup [.b false,.i .i64 4])) Q K:=fun hz=>⟨L,o.back e,hQ _ _ ⟨(S,false,4),by unfold CX.unafterX;rw[if_neg hz],rfl,DoneR.refl e out,tf⟩⟩
 by_cases h0:j<0
 ·simp only[zf,y0,h0,decide_true,YJ,xv,zT,zZ]
  exact bad (by omega)
 simp only[zf,y0,h0,decide_false,zx,yk,zg,zj,zt,Nat.zero_add,o.f4,zh,hal,vK,zX,zR]
 refine⟨fun h1=>bad (by omega),fun h1=>?_⟩
 obtain⟨i,rfl⟩:=Int.eq_ofNat_of_zero_le (by omega:0≤j)
 have hil:i<S.σ.afts.length:=by omega
 have hx:S.σ.afts[i]?=some S.σ.afts[i]:=List.getElem?_eq_getElem hil
 generalize S.σ.afts[i]=x at hx
 obtain⟨k,hk,hkl,hwk,_⟩:=wf.who2 i x hx
 unfold D_f209_3
 obtain⟨q,z,q1,q2,_⟩:=o.sA.get (F:=F) (i:=i) (x:=(k:Int)) (by rw[List.getElem?_map,hx,←hk];rfl)
 have rk:rdL K (q,z) none=some (.i .i64 k):=(q2 K (yd.refl _)).1 0 (by omega)
 obtain⟨b,hb,hcells,hia⟩:=o.nb (F:=F) (k:=k) (by rw[o.n.len];exact hkl)
 have hnd:=o.n.aft i k x hx hk
 have hkn:=(List.getElem?_eq_some_iff.1 hnd).1
 have r3:rdL K (b,k * 12+3) none=some (.b x.over):=by rw[o.rn hb hnd (by omega)];rfl
 simp only[zf,zg,zj,zt,Nat.zero_add,o.f2,o.f4,zh,q1,rk,hia,r3,yf,yv]
 rw[zH hcells (by rw[zV RNd.len];omega) rfl]
 have hset:(zm RNd.cells nds).set (k * 12+3) (.b true)=zm RNd.cells (nds.set k (wy i { x with over:=true })):=xj RNd.len nds k (wy i x) (wy i { x with over:=true }) 3 _ hnd (by omega) rfl
 rw[hset]
 have o1:=o.node hb (σ':={ S.σ with afts:=S.σ.afts.set i { x with over:=true } }) (nds':=nds.set k (wy i { x with over:=true })) (by simp) rfl rfl rfl (wm hx rfl) (o.n.setAft hx hk rfl)
 generalize (K.put b (.raw (.cells (zm RNd.cells (nds.set k (wy i { x with over:=true }))))))=K1 at o1
 obtain⟨q',z',q1',q2',_⟩:=o1.sA.get (F:=F) (i:=i) (x:=(k:Int)) (by rw[List.getElem?_map,List.getElem?_set_self hil,←hk];rfl)
 have rk':rdL K1 (q',z') none=some (.i .i64 k):=(q2' K1 (yd.refl _)).1 0 (by omega)
 simp only[zf,zg,zj,zt,Nat.zero_add,o1.f4,zh,q1',rk']
 refine (Zk hf.f196 o1 (k:=k) hkl).mono ?_
 rintro _ K3 ⟨⟨bb,rfl⟩,o3,_⟩
 obtain⟨S3,hS3⟩:∃S3:CX,S3={ S with σ:={ S.σ with afts:=S.σ.afts.set i { x with over:=true },tree:=ye S.σ.tree fun i=>decide (i=k) } }:=⟨_,rfl⟩
 have o3':XR L c S3.σ (nds.set k (wy i { x with over:=true })) tv nv cv av K3:=by rw[hS3];exact o3
 have out3:OutR c S3 L:=by rw[hS3];exact⟨out.tms,out.chs⟩
 obtain⟨Lf,h2,h3,_⟩:=zdk (S:=S) o3' out3 (FrR.refl _ S.σ L) (RRes.nil _ _ _ _) rfl
 refine⟨Lf,h2,hQ _ _ ⟨(S3,!x.over,0),?_,rfl,h3,by rw[hS3];exact tf⟩⟩
 unfold CX.unafterX
 rw[if_pos ⟨by omega,by omega⟩]
 have hd:zfj S.σ.tree x.node=some (ye S.σ.tree fun q=>decide (q=k)):=by rw[hk];exact Ua wf.tr hkl
 simp only[Int.toNat_natCast,hx,hd]
 rw[hS3]
end
end
section
variable {F:Nat→Option AFn}
section
variable {L K:Lg} {c:Nat} {S:CX}
theorem AO.aft {S:CX}(h:AO S)(wf:WF S){p:Nat}{up:One}(hup:S.σ.ones[p]?=some up)(hlen:S.σ.afts.length<64)(prog:Int):AO ({ S with σ:=S.σ.aft up prog }:CX):=by
 obtain⟨w1,e1,d1,_⟩:=wf.aft hup hlen prog
 intro j k x n hx hk hn hl
 simp only at hx hn
 rw[e1]at hx
 by_cases hj:j<S.σ.afts.length
 ·rw[List.getElem?_append_left hj]at hx
  rcases d1.back hn with⟨_,m,hm,_,h2⟩ | ⟨h1,_,_⟩
  ·exact h j k x m hx hk hm (by rw[←h2];exact hl)
  ·obtain⟨k',q1,q2,_⟩:=wf.who2 j x hx
   omega
 ·rw[List.getElem?_append_right (by omega)]at hx
  have hz:j-S.σ.afts.length=0:=by
   rcases Nat.eq_zero_or_pos (j-S.σ.afts.length)with h9 | h9
   ·exact h9
   ·rw[List.getElem?_eq_none (by simp;omega)]at hx;cases hx
  rw[hz]at hx;simp at hx;subst hx;rfl
theorem zb5 {T:List Nd}{k:Nat}(h:zI T (k:Int)=[])(n:Nat):pre T (n+1) k=[k]:=by simp[pre,h]
theorem VO (hf:H_f208 F){B:Int}(wf:WF S)(ao:AO S)(tf:TFine S.τ B)(e:L c=some (.abs (wu c S.σ)))(out:OutR c S L)(id prog:Int) :
  zd F k_f208 [.p (some (c,0)),.i .i64 id,.i .i64 prog] L fun v Lf=>∃(r:CX×Int×List (Int×Int)×Int) (w1 w2:AV),S.afterX id prog=some r∧v=.tup [.i .i64 r.2.1,w2,.i .i64 r.2.2.2]∧DoneR c S r.1 L Lf∧zdD Lf w1 w2 [] r.2.2.1:=by
 refine zr ?_
 intro Q hQ
 apply yR e
 intro nds tv nv cv av K o
 apply r_f208 hf.code
 unfold D_f208_1 D_f208_2
 refine (wz hf.f194 o id).mono ?_
 rintro _ K' ⟨rfl,rfl⟩
 have bad:∀z:Int,S.afterX id prog=some (S,0,[],z)→zl (some (.tup [.i .i64 0,.sl none 0 0 0,.i .i64 z])) Q K':=fun z hz=>⟨L,o.back e,hQ _ _ ⟨(S,0,[],z),_,_,hz,rfl,DoneR.refl e out,zdD.nil _⟩⟩
 cases h:S.σ.has id with
 | false =>
  simp only[zf,yf,Bool.not_false,zZ]
  exact bad 4 (by unfold CX.afterX;rw[if_pos h])
 | true =>
 have hf0:¬S.σ.has id=false:=by rw[h];simp
 have hal:=fun X k=>o.as.len (F:=F) X k
 simp only[zf,yf,Bool.not_true,zB,y0,zR]
 refine⟨fun h1=>bad 1 (by unfold CX.afterX;rw[if_neg hf0,if_pos h1]),fun h1=>?_⟩
 simp only[zf,zg,zj,Nat.zero_add,zt,o.f4,zh,hal,vK,zR]
 refine⟨fun h2=>bad 3 (by unfold CX.afterX;rw[if_neg hf0,if_neg h1,if_pos (by omega)]),fun h2=>?_⟩
 have hlen:S.σ.afts.length<64:=by omega
 obtain⟨i,up,rfl,hup,_⟩:=xI h
 obtain⟨k,hk,hkl,hwk⟩:=wf.who1 i up hup
 unfold D_f208_3
 obtain⟨q,z,q1,q2,_⟩:=o.sC.get (F:=F) (i:=i) (x:=(k:Int)) (by rw[List.getElem?_map,hup,←hk];rfl)
 have rk:rdL K' (q,z) none=some (.i .i64 k):=(q2 K' (yd.refl _)).1 0 (by omega)
 simp only[zf,zg,zj,Nat.zero_add,zt,o.f3,zh,q1,rk]
 have hnode:=wf.node hup
 have htl:S.σ.tree.length<1000:=by have:=wf.len;have:=wf.sz;omega
 refine (zbH hf.f123 o.g (T:=S.σ.tree) (tv:=tv) rfl rfl htl (by omega) (by omega) true).mono ?_
 rintro _ K1 ⟨rfl,tv',g1⟩
 have hlk:(true&&decide (0≤(k:Int)))=(true&&decide (up.node≠-1)):=by simp[hnode.2]
 rw[hlk,←hk]at g1
 obtain⟨t1,t2,t3⟩:=X4 (lk:=true) htl (.inr hnode.1)
 rw[←t3]at g1
 simp only[xrt,xsl,List.set_cons_succ,List.set_cons_zero]at g1
 simp only[zf,yb,List.getElem?_cons_zero,List.getElem?_cons_succ,zh]
 unfold D_f208_4
 have oa:=g1.own 3 _ rfl
 simp only at oa
 have hal1:∀X k,za F .lenSl [av] X k=k (.i .i64 (S.σ.afts.length:Int)) X:=fun X k=>oa.len (F:=F) X k
 have c4:rdL K1 (c,4) none=some av:=g1.rd 4
 obtain⟨n1,hn1⟩:∃n1,n1=wy S.σ.afts.length ⟨(S.σ.tree.length:Int),prog,false⟩:=⟨_,rfl⟩
 have hbn:∀(X:Lg) (k:AV→Lg→Prop),za F (.build [.b false,.i .i64 0,.i .i64 0,.b false,.b false,.i .i64 0,.i .i64 0,.i .i64 0,.b false,.b false,.i .i64 0,.p none] [(0,1),(1,1),(2,1),(10,1)]) [.b true,.i .i64 (S.σ.afts.length:Int),.i .i64 prog,.i .i64 (-1)] X k=k (.agg n1.cells) X:=by
  intro X k;rw[hn1];simp[zE,zo,zq,zp,RNd.cells,wy]
 simp only[zf,zg,zj,Nat.zero_add,zt,c4,zh,hal1,hbn,xa]
 intro b7 hb7
 obtain⟨hb7c,hLb7,_⟩:=g1.ne hb7
 have g2:=g1.onto hb7 (.raw (.cells n1.cells))
 simp only[zf,yv]
 rw[zw (n:=12) (ze _ _ _) (RNd.one _) (RNd.len _) (by simp),zA]
 have hsp:zo [.b false,.i .i64 0,.i .i64 0,.b false,.b false,.i .i64 0,.i .i64 0,.i .i64 0,.b false,.b false,.i .i64 0,.p none] 0 n1.cells=n1.cells:=by simp[zo,RNd.cells,zq,zp]
 rw[hsp]
 have hk7':(K1.put b7 (.raw (.cells n1.cells))) b7=some (.raw (.cells n1.cells)):=ze _ _ _
 generalize (K1.put b7 (.raw (.cells n1.cells)))=K2 at g2 hk7'
 unfold D_f208_5
 have c2:rdL K2 (c,2) none=some nv:=g2.rd 2
 have r7:rdL K2 (b7,0) (some 12)=some (.agg n1.cells):=by rw[yj hk7' (by rw[RNd.len];omega)];rfl
 simp only[zf,zg,zj,Nat.zero_add,zt,c2,r7,zh]
 have on2:=g2.own 1 _ rfl
 simp only at on2
 have hnl:nds.length<1000:=by rw[o.n.len];exact htl
 refine on2.push1 rfl (RNd.len _) (RNd.one _) (by omega) (by omega) ?_
 intro nv' K3 on3 k3 f3
 have hr3:K3 c=some (.raw (.cells [ptr S.σ.t,tv',nv,cv,av])):=k3 c _ g2.root (fun h9=>(g2.ap 1 _ rfl c h9).1 rfl)
 have g3:=g2.grow (i:=1) rfl (q:=⟨nv',zm RNd.cells nds++n1.cells,nds.length+1,12⟩) on3 k3 (fun b hb=>.inl (f3 b hb)) [ptr S.σ.t,tv',nv',cv,av]
 simp only[zf,zg,zj,Nat.zero_add,yv]
 rw[zH hr3 (by simp) on3.cellsOf]
 simp only[List.set_cons_succ,List.set_cons_zero]at g3 ⊢
 generalize (K3.put c (.raw (.cells [ptr S.σ.t,tv',nv',cv,av])))=K4 at g3
 unfold D_f208_6
 have c4':rdL K4 (c,4) none=some av:=g3.rd 4
 simp only[zf,zg,zj,Nat.zero_add,zt,c4',zh]
 have oa4:=g3.own 3 _ rfl
 simp only at oa4
 refine oa4.pushI (by omega) ?_
 intro av' K5 oa5 k5 f5
 have hr5:K5 c=some (.raw (.cells [ptr S.σ.t,tv',nv',cv,av])):=k5 c _ g3.root (fun h9=>(g3.ap 3 _ rfl c h9).1 rfl)
 have g5:=g3.grow (i:=3) rfl (q:=⟨av',zm fI (S.σ.afts.map (·.node))++[.i .i64 (S.σ.tree.length:Int)],S.σ.afts.length+1,1⟩) oa5 k5 (fun b hb=>.inl (f5 b hb)) [ptr S.σ.t,tv',nv',cv,av']
 simp only[zf,zg,zj,Nat.zero_add,yv]
 rw[zH hr5 (by simp) oa5.cellsOf]
 simp only[List.set_cons_succ,List.set_cons_zero]at g5 ⊢
 generalize (K5.put c (.raw (.cells [ptr S.σ.t,tv',nv',cv,av'])))=K6 at g5
 obtain⟨S1,hS1⟩:∃S1:CX,S1={ S with σ:=S.σ.aft up prog }:=⟨_,rfl⟩
 obtain⟨w1,a1,d1,who1⟩:=wf.aft hup hlen prog
 have ao1:=ao.aft wf hup hlen prog
 have hlen1:=o.n.len
 have o6:XR (L.put b7 (.raw (.cells n1.cells))) c S1.σ (nds++[n1]) tv' nv' cv av' K6:=by
  have e1:S1.σ.tree=(zL S.σ.tree up.node true).1:=by rw[hS1];rfl
  have e2:S1.σ.afts=S.σ.afts++[⟨(S.σ.tree.length:Int),prog,false⟩]:=by rw[hS1];exact a1
  have e3:S1.σ.t=S.σ.t:=by rw[hS1];rfl
  have e4:S1.σ.ones=S.σ.ones:=by rw[hS1];rfl
  refine⟨?_,⟨by rw[e1,t1];simp[hlen1],fun i k y hy hk=>?_,fun j k y hy hk=>?_⟩⟩
  ·simp only[xrt,xsl,e1,e2,e3,e4,t1,ya,List.map_append,List.map_cons,List.map_nil,List.length_append,List.length_cons,List.length_nil,List.length_map,Nat.zero_add]
   simp only[zm,List.append_nil,fI]
   exact g5
  ·rw[e4]at hy
   have h1:=o.n.one i k y hy hk
   rw[List.getElem?_append_left (List.getElem?_eq_some_iff.1 h1).1];exact h1
  ·rw[e2]at hy
   by_cases hi:j<S.σ.afts.length
   ·rw[List.getElem?_append_left hi]at hy
    have h1:=o.n.aft j k y hy hk
    rw[List.getElem?_append_left (List.getElem?_eq_some_iff.1 h1).1];exact h1
   ·rw[List.getElem?_append_right (by omega)]at hy
    have hz:j-S.σ.afts.length=0:=by
     rcases Nat.eq_zero_or_pos (j-S.σ.afts.length)with h9 | h9
     ·exact h9
     ·rw[List.getElem?_eq_none (by simp;omega)]at hy;cases hy
    rw[hz]at hy
    simp at hy
    subst hy
    have hkk:k=S.σ.tree.length:=by simp at hk;omega
    have hii:j=S.σ.afts.length:=by omega
    subst hkk;subst hii
    rw[←hlen1,List.getElem?_append_right (Nat.le_refl _),Nat.sub_self,hlen1,hn1];rfl
 have out6:OutR c S1 (L.put b7 (.raw (.cells n1.cells))):=by
  have:=out.put hLb7 (.raw (.cells n1.cells))
  rw[hS1];exact⟨this.tms,this.chs⟩
 have fr6:FrR c S.σ L (L.put b7 (.raw (.cells n1.cells))):=fun r d _ _ _ hr=>by rw[zb _ _ _ (by rintro rfl;rw[hLb7]at hr;cases hr)];exact hr
 have hup1:S1.σ.ones[i]?=some up:=by rw[hS1];exact hup
 have hkl1:k<(nds++[n1]).length:=by simp;omega
 rw[←hS1]at w1 ao1
 refine (xN hf.f195 o6 hup1 hk hkl1).mono ?_
 rintro _ K7 ⟨⟨b,hb,rfl⟩,rfl⟩
 have r5:rdL K7 (b,k * 12+5) none=some (.i .i64 up.err):=by rw[o6.rn hb (o6.n.one i k up hup1 hk) (by omega)];rfl
 have rb1:rdL K7 (b7,1) none=some (.i .i64 S.σ.afts.length):=by rw[zk (o6.g.old b7 _ hb7c (ze _ _ _)),hn1];rfl
 simp only[zf,zg,zj,zt,r5,zh,xL]
 by_cases h0:up.err=0
 ·rw[decide_eq_true h0]
  simp only[zZ,zf,zj,Nat.zero_add,zt,rb1,zh]
  obtain⟨Lf,h2,h3,h4⟩:=zdk (S:=S) o6 out6 fr6 (RRes.nil _ _ _ _) rfl
  refine⟨Lf,h2,hQ _ _ ⟨(S1,S.σ.afts.length,[],0),_,_,?_,rfl,h3,h4⟩⟩
  rw[hS1]
  exact wf.afterX hup hlen h0 (by omega)
 ·rw[decide_eq_false h0]
  simp only[zB]
  -- it is started at once
  obtain⟨x,hx⟩:∃x:Aft,x=⟨(S.σ.tree.length:Int),prog,false⟩:=⟨_,rfl⟩
  have hax:S1.σ.afts[S.σ.afts.length]?=some x:=by rw[hS1,hx];show (S.σ.aft up prog).afts[_]?=_;rw[a1];simp
  obtain⟨k',p1,p2,p3,p4⟩:=w1.who2 _ x hax
  have hk':k'=S.σ.tree.length:=by rw[hx]at p1;simp at p1;omega
  have hpre:pre S1.σ.tree 200 k'=[k']:=zb5 p4 199
  have hT1:S1.σ.tree.length≤128:=by have:=w1.len;have:=w1.sz;omega
  have live:∀i∈pre S1.σ.tree 200 k',y8 S1.σ.tree S1 i:=by
   rw[hpre]
   intro i hi
   simp at hi;subst hi
   exact .inr ⟨_,x,p3,by omega,hax,p1,p4⟩
  have nov:∀i∈pre S1.σ.tree 200 k',xA S1 i:=by
   rw[hpre]
   intro i hi q y hq hy
   simp at hi;subst hi
   rw[p3]at hq;simp at hq
   have:q=S.σ.afts.length:=by omega
   subst this
   rw[hax]at hy;cases hy;rw[hx]
  rw[←hk']
  refine (zba hf.f201 w1.tr 200 c k' (fun _=>false) S1 0 0 B _ K7 _ tv' nv' cv av' _ _ [] [] (by omega) p2 (Zu _ (fun _=>rfl)).symm (fun _ _=>rfl) live nov (by rw[hS1];exact tf) o6 out6 (RRes.nil _ _ _ _) (by rw[hpre];simp) (by rw[hpre];simp)).mono ?_
  rintro _ K8 ⟨R,L',nds',v1,v2,ps',hR,rfl,o8,out8,fr8,rr8,hps,tf8,_,_⟩
  obtain⟨σ',s1,s2,s3⟩:=Xy w1.tr (S:=S1) (A:=fun _=>false) (j:=k') (k:=S.σ.afts.length) (x:=x) (Zu _ (fun _=>rfl)).symm p2 p3 hax p1 0 0 [] []
  have hR2:R=(({ S1 with σ:=σ' }:CX),([],[((S.σ.afts.length:Int),x.prog)])):=by
   rw[hR,hpre]
   unfold walked
   simp only[List.foldl_cons,List.foldl_nil,List.map_nil]
   rw[s2,s3]
   congr 3
   funext i
   simp
  have hps0:ps'=[]:=by
   rw[hR2]at hps
   simpa using hps
  subst hps0
  have rb1':rdL K8 (b7,1) none=some (.i .i64 S.σ.afts.length):=by
   rw[zk (o8.g.old b7 _ hb7c (fr8 b7 _ hb7c ?_ ?_ (ze _ _ _))),hn1];rfl
   ·intro h9;have:=(out6.tms b7 h9).2;rw[ze]at this;cases this
   ·intro y hy h9;have:=(out6.chs y hy b7 h9).2.2;rw[ze]at this;cases this
  simp only[zf,yb,List.getElem?_cons_zero,List.getElem?_cons_succ,zh,zj,Nat.zero_add,zt,rb1']
  have fr9:FrR c S.σ L L':=fun r d h1 h2 h3 h4=>fr8 r d h1 (by rw[hS1];exact h2) (by rw[hS1];exact h3) (fr6 r d h1 h2 h3 h4)
  obtain⟨Lf,h2,h3,h4⟩:=zdk (S:=S) o8 out8 fr9 rr8 rfl
  refine⟨Lf,h2,hQ _ _ ⟨(R.1,S.σ.afts.length,R.2.2,0),v1,v2,?_,rfl,h3,h4⟩⟩
  unfold CX.afterX
  rw[if_neg hf0,if_neg h1,if_neg (by omega),if_pos wf.tr.kok]
  simp only[Int.toNat_natCast,hup]
  rw[if_pos h0]
  have hs1:(S.σ.aft up prog).startP S.σ.afts.length=some (σ',((S.σ.afts.length:Int),x.prog)):=by rw[hS1]at s1;exact s1
  rw[hs1]
  simp only[hR2,hS1]
end
end
section
variable {F:Nat→Option AFn}
theorem zhO {S:CX}{n kn a:Nat}{y:One}(hw:S.σ.who kn=some (n:Int))(hy:S.σ.ones[n]?=some y)(hc:y.c=some a)(ht:y.timer=-1)(err cause:Int) :
  z9 err cause (S,[],[]) kn=({ S.setOne n { y with err:=err,cause:=cause }with χ:=y9 S.χ a (S.χ a).endS.1 },[⟨n,err,cause,(S.χ a).endS.2⟩],[]):=by
 have hnn:¬((n:Int)<0):=by omega
 unfold z9
 simp only[hw,Option.getD_some,hnn,if_false,Int.toNat_natCast,hy,hc,ht,List.nil_append]
 have hst:∀X:CX,X.stopT (-1)=X:=by
  intro X
  unfold CX.stopT
  cases X.σ.t with
  | none=>rfl
  | some s=>simp[Tms.one,Tms.has]
 rw[hst]
 rfl
theorem zcE {S:CX}(wf:WF S){p:Nat}{up o:One}(hup:S.σ.ones[p]?=some up)(hlen:S.σ.ones.length<64)(ho:o.err=0)(a:Nat) :
  (S.addS o up.node a).σ.who S.σ.tree.length=some (S.σ.ones.length:Int)∧(S.addS o up.node a).σ.ones[S.σ.ones.length]?=some { o with c:=some a,node:=S.σ.tree.length,timer:=-1 }∧zI (S.addS o up.node a).σ.tree (S.σ.tree.length:Int)=[]:=by
 have h:=wf.add (o:={ o with c:=some a }) (χ':=y9 S.χ a .sg) hup hlen ho (fun b n hb=>WZ S.χ a b n hb) (fun b hb=>by simp at hb;subst hb;simp[y9,Ch.sg])
 obtain⟨h1,h2,h3,h4⟩:=h
 refine⟨?_,?_,?_⟩
 ·show (S.σ.add { o with c:=some a } up.node).who _=_
  rw[h4];simp[yN]
 ·show (S.σ.add { o with c:=some a } up.node).ones[_]?=_
  rw[h2];simp
 ·have kn:zI S.σ.tree (S.σ.tree.length:Int)=[]:=by
   rw[List.eq_nil_iff_forall_not_mem]
   intro i hi
   have:=xh wf.tr hi
   omega
  obtain⟨kp,hkp1,hkp2,_⟩:=wf.who1 p up hup
  exact h3.kids kn (.inl (by omega))
theorem zdw {S:CX}(wf:WF S){p:Nat}{up o:One}(hup:S.σ.ones[p]?=some up)(hlen:S.σ.ones.length<64)(ho:o.err=0)(hfr:o.free=false)(a:Nat)(err cause:Int) :
  (S.addS o up.node a).cancelP 200 S.σ.ones.length err cause=some ((({ (S.addS o up.node a).setOne S.σ.ones.length { o with c:=some a,node:=S.σ.tree.length,timer:=-1,err:=err,cause:=cause }with χ:=y9 (S.addS o up.node a).χ a ((S.addS o up.node a).χ a).endS.1 }:CX).setTree (ye (S.addS o up.node a).σ.tree fun i=>decide (i=S.σ.tree.length))),
   [⟨S.σ.ones.length,err,cause,((S.addS o up.node a).χ a).endS.2⟩],[]):=by
 obtain⟨w1,_,_⟩:=wf.addS (o:=o) hup hlen ho a
 obtain⟨h1,h2,h3⟩:=zcE wf (o:=o) hup hlen ho a
 rw[w1.cancelP h2 (k:=S.σ.tree.length) rfl hfr ho,zb5 h3 199]
 unfold walked
 simp only[List.foldl_cons,List.foldl_nil,zhO h1 h2 rfl rfl]
 congr 4
 funext i
 simp
theorem zgu {S:CX}(o1 o2:One)(h:o2.free=o1.free)(p:Int)(a:Nat):S.addS o2 p a=(S.addS o1 p a).setOne S.σ.ones.length { o2 with c:=some a,node:=(zL S.σ.tree p (!o1.free)).2.1,timer:=-1 }:=by
 simp[CX.addS,CX.setOne,Cs.add,h]
theorem zh3 {S:CX}(wf:WF S){i:Nat}{up:One}(hup:S.σ.ones[i]?=some up)(hlen:S.σ.ones.length<64)(a:Nat)(w:Int)(has:Bool)(W:Int){S':CX}{laps:List Lap}
  (h:(S.addS { One.zero with when:=w,has:=has } up.node a).beginP S.σ.ones.length i=some (S',laps)) :
  ∃y:One,S'.σ.ones[S.σ.ones.length]?=some y∧y.node=(S.σ.tree.length:Int)∧(y.err=0↔up.err=0)∧(up.err=0→laps.length=0∧S'=S.addS { One.zero with when:=w,has:=has } up.node a)∧(up.err≠0→laps.length=1) ∧
   (S.addS { One.zero with when:=W,has:=true,own:=true } up.node a).beginP S.σ.ones.length i=some (S'.setOne S.σ.ones.length { y with when:=W,has:=true,own:=true },laps):=by
 obtain⟨n,hn⟩:∃n,n=S.σ.ones.length:=⟨_,rfl⟩
 have hil:=(List.getElem?_eq_some_iff.1 hup).1
 obtain⟨_,e1,_⟩:=wf.addS (o:={ One.zero with when:=w,has:=has }) hup hlen rfl a
 obtain⟨_,e2,_⟩:=wf.addS (o:={ One.zero with when:=W,has:=true,own:=true }) hup hlen rfl a
 obtain⟨_,f2,_⟩:=zcE wf (o:={ One.zero with when:=w,has:=has }) hup hlen rfl a
 have u1:(S.addS { One.zero with when:=w,has:=has } up.node a).σ.ones[i]?=some up:=by rw[e1,List.getElem?_append_left hil];exact hup
 have u2:(S.addS { One.zero with when:=W,has:=true,own:=true } up.node a).σ.ones[i]?=some up:=by rw[e2,List.getElem?_append_left hil];exact hup
 have htn:(zL S.σ.tree up.node (!false)).2.1=(S.σ.tree.length:Int):=by
  have hl:S.σ.tree.length<1000:=by have:=wf.len;have:=wf.sz;omega
  exact (X4 hl (.inr (wf.node hup).1)).2.1
 have hset:=zgu (S:=S) { One.zero with when:=w,has:=has } { One.zero with when:=W,has:=true,own:=true } rfl up.node a
 have hfr:({ One.zero with when:=w,has:=has }:One).free=false:=rfl
 rw[hfr,htn]at hset
 unfold CX.beginP at h ⊢
 rw[if_pos (by omega)]at h ⊢
 simp only[Int.toNat_natCast,u1,u2]at h ⊢
 by_cases h0:up.err=0
 ·simp only[h0,if_true,Option.some.injEq,Prod.mk.injEq]at h ⊢
  obtain⟨rfl,rfl⟩:=h
  refine⟨_,f2,rfl,by simp[One.zero],fun _=>⟨rfl,rfl⟩,fun h9=>absurd rfl h9,?_,rfl⟩
  exact hset
 ·simp only[h0,if_false]at h ⊢
  rw[zdw wf hup hlen rfl rfl]at h ⊢
  simp only[Option.some.injEq,Prod.mk.injEq]at h ⊢
  obtain⟨rfl,rfl⟩:=h
  have hl1:S.σ.ones.length<(S.addS { One.zero with when:=w,has:=has } up.node a).σ.ones.length:=by rw[e1];simp
  refine⟨{ One.zero with when:=w,has:=has,c:=some a,node:=S.σ.tree.length,timer:=-1,err:=up.err,cause:=up.cause },?_,rfl,by simp[h0],fun h9=>absurd h9 (by simp),fun _=>rfl,?_,rfl⟩
  ·show ((S.addS { One.zero with when:=w,has:=has } up.node a).σ.ones.set S.σ.ones.length _)[S.σ.ones.length]?=_
   rw[List.getElem?_set_self hl1]
  ·rw[hset]
   simp only[CX.setOne,CX.setTree,List.set_set]
end
section
variable {F:Nat→Option AFn}
section
variable {L K:Lg} {c:Nat} {S:CX}
theorem Vf (τ:Tms)(n:Nat)(when:Int):(τ.make ⟨4,(n:Int),none,0⟩ 0 when).2.2=0:=by
 have hbn:zdI 0=false:=by simp[zdI]
 simp only[Tms.make]
 rw[if_neg (by simp[hbn]),if_neg (by simp)]
theorem Xb (hf:H_f204 F){B:Int}(wf:WF S)(ao:AO S)(tf:TFine S.τ B)(hfb:S.τ.fineB=true)(e:L c=some (.abs (wu c S.σ)))(out:OutR c S L)(id when now:Int) :
  zd F k_f204 [.p (some (c,0)),.i .i64 id,.i .i64 when,.i .i64 now] L fun v Lf=>∃(a:Nat) (r:zcG) (w v2:AV) (sts:List (Int×Int)),(S.σ.room id=0→L a=none)∧S.deadlineP id when now a=some r∧v=.tup [.i .i64 r.2.1,w,.i .i64 r.2.2.2]∧DoneR c S r.1 L Lf∧zdD Lf w v2 r.2.2.1 sts:=by
 refine zr ?_
 intro Q hQ
 apply yR e
 intro nds tv nv cv av K o
 apply r_f204 hf.code
 unfold D_f204_1 D_f204_2
 refine (Vj hf.f63 when K).mono ?_
 rintro _ K' ⟨rfl,rfl⟩
 obtain⟨W,hW⟩:∃W,W=max (zM when 0) 0:=⟨_,rfl⟩
 rw[←hW]
 unfold D_f204_3
 have direct:(S.σ.room id=0→∃up,S.σ.ones[id.toNat]?=some up∧up.has=true∧up.when≤W)→zd F k_f202 [.p (some (c,0)),.i .i64 id] K' fun v18 L18=>za F (.ext 0) [v18] L18 fun v19 L19=>za F (.ext 1) [v18] L19 fun v20 L20=>za F (.ext 2) [v18] L20 fun v21 L21=>zl (some (.tup [v19,v20,v21])) Q L21:=by
  intro hup
  refine (vG hf.f202 wf ao tf o out id).mono ?_
  rintro _ K2 ⟨a,r,L',nds',tv',nv',cv',w,v2,ps,sts,ha,hr,rfl,o',out',fr',rr',hps,tf'⟩
  simp only[zf,yb,List.getElem?_cons_zero,List.getElem?_cons_succ,zh]
  obtain⟨Lf,h1,h2,h3⟩:=zdk (S:=S) o' out' fr' rr' rfl
  refine⟨Lf,h1,hQ _ _ ⟨a,r,w,v2,sts,ha,?_,rfl,h2,by rw[←hps];exact h3⟩⟩
  unfold CX.deadlineP
  by_cases hroom:S.σ.room id=0
  ·rw[if_neg (by rw[hroom];simp)]
   obtain⟨up,h4,h5,h6⟩:=hup hroom
   simp only[h4]
   rw[if_pos ⟨h5,by rw[←hW];exact h6⟩]
   exact hr
  ·rw[if_pos hroom]
   unfold CX.cancelsP at hr
   rw[if_pos hroom]at hr
   exact hr
 have own:(S.σ.room id=0→∃up,S.σ.ones[id.toNat]?=some up∧¬(up.has=true∧up.when≤W))→D_f204_4 F Q (.p (some (c,0))) (.i .i64 id) (.i .i64 W) (.i .i64 now) K':=by
  intro hup
  unfold D_f204_4
  refine (vG hf.f202 wf ao tf o out id).mono ?_
  rintro _ K2 ⟨a,r,L',nds',tv',nv',cv',w,v2,ps,sts,ha,hr,rfl,o',out',fr',rr',hps,tf'⟩
  simp only[zf,yb,List.getElem?_cons_zero,List.getElem?_cons_succ,zh]
  unfold D_f204_5
  by_cases hroom:S.σ.room id=0
  rotate_left
  ·unfold CX.cancelsP at hr
   rw[if_pos hroom]at hr
   cases hr
   simp only[w7]
   rw[decide_eq_true hroom]
   simp only[zZ]
   obtain⟨Lf,h1,h2,h3⟩:=zdk (S:=S) o' out' fr' (RRes.nil _ _ _ _) rfl
   exact⟨Lf,h1,hQ _ _ ⟨a,(S,0,[],S.σ.room id),_,_,[],fun h=>absurd h hroom,by unfold CX.deadlineP;rw[if_pos hroom],rfl,h2,h3⟩⟩
  obtain⟨i,up,rfl,hil,hupi,hhas,hlen⟩:=xM hroom
  obtain⟨n,hn⟩:∃n,n=S.σ.ones.length:=⟨_,rfl⟩
  have hnb:¬(up.has=true∧up.when≤W):=by
   obtain⟨u',h4,h5⟩:=hup hroom
   simp only[Int.toNat_natCast]at h4
   rw[hupi]at h4;cases h4;exact h5
  obtain⟨laps,S',hr',rfl⟩:∃laps S',(S.addS { One.zero with when:=up.when,has:=up.has } up.node a).beginP S.σ.ones.length i=some (S',laps)∧r=(S',(S.σ.ones.length:Int),laps,0):=by
   unfold CX.cancelsP at hr
   rw[if_neg (by rw[hroom];simp),if_pos wf.okAdd]at hr
   simp only[Int.toNat_natCast,hupi]at hr
   cases h9:(S.addS { One.zero with when:=up.when,has:=up.has } up.node a).beginP S.σ.ones.length i with
   | none=>rw[h9]at hr;cases hr
   | some q=>rw[h9]at hr;cases hr;exact⟨q.2,q.1,rfl,rfl⟩
  obtain⟨y,hy,hyn,hye,hz0,hz1,hbg⟩:=zh3 wf hupi hlen a up.when up.has W hr'
  rw[←hn]at hy hbg
  have hdl:∀r:zcG,(if 0<laps.length then some (S'.setOne n { y with when:=W,has:=true,own:=true },(n:Int),laps,(0:Int))else if W≤now then match (S'.setOne n { y with when:=W,has:=true,own:=true }).cancelP 200 n 2 2 with | none=>none | some r2=>some (r2.1,(n:Int),r2.2.1,0)else match (S'.setOne n { y with when:=W,has:=true,own:=true }).armP n W with | none=>none | some S2=>some (S2,(n:Int),[],0))=some r→S.deadlineP i when now a=some r:=by
   intro r h9
   unfold CX.deadlineP
   rw[if_neg (by rw[hroom];simp)]
   simp only[Int.toNat_natCast,hupi]
   rw[←hW,if_neg hnb,if_pos wf.okAdd,←hn,hbg]
   exact h9
  simp only[zf,w7,ne_eq,not_true_eq_false,decide_false,zB,←hn]
  unfold D_f204_6
  have hnd:=o'.n.one n _ y hy hyn
  have hkn:=(List.getElem?_eq_some_iff.1 hnd).1
  refine (xN hf.f195 o' hy hyn hkn).mono ?_
  rintro _ K3 ⟨⟨b,hb,rfl⟩,rfl⟩
  obtain⟨k,hk⟩:∃k,k=S.σ.tree.length:=⟨_,rfl⟩
  rw[←hk]at hyn hnd hkn ⊢
  have hcells:=o'.ns.block hb
  unfold D_f204_7
  simp only[zf,zg,zj,yv]
  rw[zH hcells (by rw[zV RNd.len];omega) rfl]
  have hs7:(zm RNd.cells nds').set (k * 12+7) (.i .i64 W)=zm RNd.cells (nds'.set k (zG n { y with when:=W })):=xj RNd.len nds' k (zG n y) (zG n { y with when:=W }) 7 _ hnd (by omega) rfl
  rw[hs7]
  simp only[zf,zg,zj,yv]
  rw[zH (ze _ _ _) (by rw[zV RNd.len];simp;omega) rfl,zA]
  have hnd7:(nds'.set k (zG n { y with when:=W }))[k]?=some (zG n { y with when:=W }):=List.getElem?_set_self hkn
  have hs8:(zm RNd.cells (nds'.set k (zG n { y with when:=W }))).set (k * 12+8) (.b true)=zm RNd.cells (nds'.set k (zG n { y with when:=W,has:=true })):=by
   have h9:(zm RNd.cells (nds'.set k (zG n { y with when:=W }))).set (k * 12+8) (.b true)=zm RNd.cells ((nds'.set k (zG n { y with when:=W })).set k (zG n { y with when:=W,has:=true })):=xj RNd.len _ k (zG n { y with when:=W }) (zG n { y with when:=W,has:=true }) 8 _ hnd7 (by omega) rfl
   rw[h9,List.set_set]
  rw[hs8]
  simp only[zf,zg,zj,yv]
  rw[zH (ze _ _ _) (by rw[zV RNd.len];simp;omega) rfl,zA]
  have hnd8:(nds'.set k (zG n { y with when:=W,has:=true }))[k]?=some (zG n { y with when:=W,has:=true }):=List.getElem?_set_self hkn
  obtain⟨y2,hy2⟩:∃y2:One,y2={ y with when:=W,has:=true,own:=true }:=⟨_,rfl⟩
  have hs9:(zm RNd.cells (nds'.set k (zG n { y with when:=W,has:=true }))).set (k * 12+9) (.b true)=zm RNd.cells (nds'.set k (zG n y2)):=by
   have h9:(zm RNd.cells (nds'.set k (zG n { y with when:=W,has:=true }))).set (k * 12+9) (.b true)=zm RNd.cells ((nds'.set k (zG n { y with when:=W,has:=true })).set k (zG n y2)):=xj RNd.len _ k (zG n { y with when:=W,has:=true }) (zG n y2) 9 _ hnd8 (by omega) (by rw[hy2];rfl)
   rw[h9,List.set_set]
  rw[hs9]
  rw[←hy2]at hbg hdl
  obtain⟨S2,hS2⟩:∃S2,S2=S'.setOne n y2:=⟨_,rfl⟩
  rw[←hS2]at hbg hdl
  have o2:XR L' c S2.σ (nds'.set k (zG n y2)) tv' nv' cv' av (K3.put b (.raw (.cells (zm RNd.cells (nds'.set k (zG n y2)))))):=by
   rw[hS2]
   exact o'.node hb (by simp) rfl rfl (wm hy (by rw[hy2])) rfl (o'.n.setOne hy hyn (by rw[hy2]))
  have rr2:RRes L' c [tv',nv',cv',av] (K3.put b (.raw (.cells (zm RNd.cells (nds'.set k (zG n y2)))))) w v2 ps sts:=rr'.keep (fun q' z hq hz=>by rw[zb _ _ _ (by rintro rfl;exact hq.2.2 nv' (by simp) hb)];exact hz) (fun q' hq _=>hq.1)
  have hn2:S2.σ.names=S'.σ.names:=by rw[hS2];exact w8 hy (by rw[hy2]) (by rw[hy2])
  have out2:OutR c S2 L':=by
   refine⟨fun s hs=>?_,fun x hx a' ha'=>?_⟩
   ·rw[hS2]at hs ⊢;exact out'.tms s hs
   ·have h1:(x.c,x.node)∈S2.σ.names:=List.mem_map.2 ⟨x,hx,rfl⟩
    rw[hn2]at h1
    obtain⟨p,hp,he⟩:=List.mem_map.1 h1
    simp only[Prod.mk.injEq]at he
    have:=out'.chs p hp a' (by rw[he.1];exact ha')
    rw[hS2];exact this
  have hy2':S2.σ.ones[n]?=some y2:=by rw[hS2];exact List.getElem?_set_self (List.getElem?_eq_some_iff.1 hy).1
  have hy2n:y2.node=(k:Int):=by rw[hy2];exact hyn
  generalize (K3.put b (.raw (.cells (zm RNd.cells (nds'.set k (zG n y2))))))=K4 at o2 rr2
  have hnd2:(nds'.set k (zG n y2))[k]?=some (zG n y2):=List.getElem?_set_self hkn
  generalize nds'.set k (zG n y2)=nds2 at o2 hnd2
  unfold D_f204_8
  have r5:rdL K4 (b,k * 12+5) none=some (.i .i64 y.err):=by rw[o2.rn hb hnd2 (by omega),hy2];rfl
  simp only[zf,zg,zj,zt,r5,zh,w7]
  by_cases h0:up.err=0
  rotate_left
  ·have hy0:y.err≠0:=fun h=>h0 (hye.1 h)
   rw[decide_eq_true hy0]
   simp only[zZ]
   obtain⟨Lf,h1,h2,h3⟩:=zdk (S:=S) o2 out2 fr' rr2 rfl
   refine⟨Lf,h1,hQ _ _ ⟨a,(S2,n,laps,0),w,v2,sts,ha,hdl _ ?_,rfl,h2,by rw[←hps];exact h3⟩⟩
   rw[if_pos (by rw[hz1 h0];omega)]
  have hy0:¬y.err≠0:=fun h=>h (hye.2 h0)
  rw[decide_eq_false hy0]
  simp only[zB]
  obtain⟨hl0,hS'⟩:=hz0 h0
  have hS2a:S2=S.addS { One.zero with when:=W,has:=true,own:=true } up.node a:=by
   unfold CX.beginP at hbg
   obtain⟨_,e2,_⟩:=wf.addS (o:={ One.zero with when:=W,has:=true,own:=true }) hupi hlen rfl a
   rw[if_pos (by omega)]at hbg
   simp only[Int.toNat_natCast]at hbg
   rw[e2,List.getElem?_append_left hil,hupi]at hbg
   simp only[h0,if_true,Option.some.injEq,Prod.mk.injEq]at hbg
   exact hbg.1.symm
  obtain⟨w2,_,d2⟩:=wf.addS (o:={ One.zero with when:=W,has:=true,own:=true }) hupi hlen rfl a
  have ao2:AO S2:=by rw[hS2a];exact ao.add wf rfl d2
  rw[←hS2a]at w2
  have hτ2:S2.τ=S.τ:=by rw[hS2a];rfl
  have ht2:S2.σ.t=S.σ.t:=by rw[hS2a];rfl
  have tf2:TFine S2.τ B:=by rw[hτ2];exact tf
  unfold D_f204_9
  simp only[zbC]
  by_cases hWn:W≤now
  ·rw[decide_eq_true hWn]
   obtain⟨q,z,q1,q2,_⟩:=o2.sC.get (F:=F) (i:=n) (x:=(k:Int)) (by rw[List.getElem?_map,hy2',←hy2n];rfl)
   have rk:rdL K4 (q,z) none=some (.i .i64 k):=(q2 K4 (yd.refl _)).1 0 (by omega)
   simp only[zZ,zf,zg,zj,Nat.zero_add,zt,o2.f3,zh,q1,rk]
   refine (Zw hf.f201 w2 ao2 tf2 o2 out2 hy2' hy2n 2 2).mono ?_
   rintro _ K6 ⟨R,L6,nds6,w1,w3,ps6,hR,rfl,o6,out6,fr6,rr6,hps6,tf6⟩
   simp only[zf,yb,List.getElem?_cons_zero,List.getElem?_cons_succ,zh]
   have fr7:FrR c S.σ L L6:=fun r d h1 h2 h3 h4=>by
    refine fr6 r d h1 (by rw[ht2];exact h2) (fun x hx hxr=>?_) (fr' r d h1 h2 h3 h4)
    rw[hS2a]at hx
    have hx':x∈S.σ.ones++[{ ({ ({ One.zero with when:=W,has:=true,own:=true }:One)with c:=some a }:One)with node:=(zL S.σ.tree up.node (!false)).2.1,timer:=-1 }]:=hx
    rcases List.mem_append.1 hx' with h7 | h7
    ·exact h3 x h7 hxr
    ·simp at h7;subst h7;simp at hxr;subst hxr;rw[ha hroom]at h4;cases h4
   obtain⟨Lf,h1,h2,h3⟩:=zdk (S:=S) o6 out6 fr7 rr6 rfl
   refine⟨Lf,h1,hQ _ _ ⟨a,(R.1,n,R.2.1,0),w1,w3,R.2.2,ha,hdl _ ?_,rfl,h2,by rw[←hps6];exact h3⟩⟩
   rw[if_neg (by omega),if_pos hWn,hR]
  rw[decide_eq_false hWn]
  simp only[zB]
  unfold D_f204_10
  have f0:rdL K4 (c,0) none=some (ptr S.σ.t):=by rw[o2.f0,ht2]
  cases ht:S.σ.t with
  | none =>
   rw[ht]at f0
   have hop:∀k:AV→Lg→Prop,za F (.eq true .ptr) [.p none,.p none] K4 k=k (.b false) K4:=by intro k;simp
   simp only[zf,zg,zj,Nat.zero_add,zt,f0,zh,Xn,hop,zB]
   obtain⟨Lf,h1,h2,h3⟩:=zdk (S:=S) o2 out2 fr' (RRes.nil _ _ _ _) rfl
   refine⟨Lf,h1,hQ _ _ ⟨a,(S2,n,[],0),_,_,[],ha,hdl _ ?_,rfl,h2,h3⟩⟩
   rw[if_neg (by omega),if_neg hWn]
   unfold CX.armP
   rw[ht2,ht]
  | some u =>
   rw[ht]at f0
   have hop:∀k:AV→Lg→Prop,za F (.eq true .ptr) [.p (some (u,0)),.p none] K4 k=k (.b true) K4:=by intro k;simp
   simp only[zf,zg,zj,Nat.zero_add,zt,f0,zh,VQ,hop,zZ]
   obtain⟨u1,u2⟩:=out2.tms u (by rw[ht2,ht])
   have hKu:=o2.g.old u _ u1 u2
   refine (za0 hf.f77 hKu tf2 W n).mono ?_
   rintro _ K5 ⟨rfl,rfl⟩
   obtain⟨mk,hmk⟩:∃mk,mk=S2.τ.make ⟨4,(n:Int),none,0⟩ 0 W:=⟨_,rfl⟩
   rw[←hmk]
   have o3:=o2.putOld u1 u2 (.abs (Yz u mk.1))
   have hcells3:=o3.ns.block hb
   simp only[zf,yb,List.getElem?_cons_zero,List.getElem?_cons_succ,zh,zg,zj,yv]
   rw[zH hcells3 (by rw[zV RNd.len];have:=(List.getElem?_eq_some_iff.1 hnd2).1;omega) rfl]
   have hs10:(zm RNd.cells nds2).set (k * 12+10) (.i .i64 mk.2.1)=zm RNd.cells (nds2.set k (zG n { y2 with timer:=mk.2.1 })):=xj RNd.len nds2 k (zG n y2) (zG n { y2 with timer:=mk.2.1 }) 10 _ hnd2 (by omega) rfl
   rw[hs10]
   obtain⟨S3,hS3⟩:∃S3:CX,S3={ ({ S2 with τ:=mk.1 }:CX).setOne n { y2 with timer:=mk.2.1 }with τ:=mk.1 }:=⟨_,rfl⟩
   have o4:XR (L'.put u (.abs (Yz u mk.1))) c S3.σ (nds2.set k (zG n { y2 with timer:=mk.2.1 })) tv' nv' cv' av ((K4.put u (.abs (Yz u mk.1))).put b (.raw (.cells (zm RNd.cells (nds2.set k (zG n { y2 with timer:=mk.2.1 })))))):=by
    rw[hS3]
    exact o3.node hb (by simp) rfl rfl (wm hy2' rfl) rfl (o2.n.setOne hy2' hy2n rfl)
   have hn3:S3.σ.names=S2.σ.names:=by rw[hS3];exact w8 (S:=S2) hy2' rfl rfl
   have out3:OutR c S3 (L'.put u (.abs (Yz u mk.1))):=by
    refine⟨fun s hs=>?_,fun x hx a' ha'=>?_⟩
    ·have hs':S2.σ.t=some s:=by rw[hS3]at hs;exact hs
     have:s=u:=by rw[ht2,ht]at hs';cases hs';rfl
     subst this
     exact⟨u1,by rw[ze,hS3]⟩
    ·have h1:(x.c,x.node)∈S3.σ.names:=List.mem_map.2 ⟨x,hx,rfl⟩
     rw[hn3]at h1
     obtain⟨p,hp,he⟩:=List.mem_map.1 h1
     simp only[Prod.mk.injEq]at he
     have h4:=out2.chs p hp a' (by rw[he.1];exact ha')
     have hau:a'≠u:=by rintro rfl;exact h4.2.1 (by rw[ht2,ht])
     refine⟨h4.1,by rw[hS3];exact h4.2.1,?_⟩
     rw[zb _ _ _ hau,hS3];exact h4.2.2
   have fr3:FrR c S.σ L (L'.put u (.abs (Yz u mk.1))):=fun r d h1 h2 h3 h4=>by
    rw[zb _ _ _ (by rintro rfl;exact h2 ht)];exact fr' r d h1 h2 h3 h4
   obtain⟨Lf,h1,h2,h3⟩:=zdk (S:=S) o4 out3 fr3 (RRes.nil _ _ _ _) rfl
   refine⟨Lf,h1,hQ _ _ ⟨a,(S3,n,[],0),_,_,[],ha,hdl _ ?_,rfl,h2,h3⟩⟩
   rw[if_neg (by omega),if_neg hWn]
   have hmk2:mk.2.2=0:=by rw[hmk];exact Vf _ _ _
   unfold CX.armP
   rw[ht2,ht]
   simp only
   rw[hτ2,if_pos hfb,←hτ2,←hmk,if_pos hmk2,hy2']
   rw[hS3]
 refine (wz hf.f194 o id).mono ?_
 rintro _ K2 ⟨rfl,rfl⟩
 cases h:S.σ.has id with
 | false =>
  simp only[zf,Ze,xv,zX,zB]
  exact own fun h9=>by simp[Cs.room,h]at h9
 | true =>
 obtain⟨i,up,rfl,hup,_⟩:=xI h
 obtain⟨k,hk,hkl,hwk⟩:=wf.who1 i up hup
 have hkn:k<nds.length:=by rw[o.n.len];exact hkl
 simp only[zf,zx,yk,xG]
 refine (xN hf.f195 o hup hk hkn).mono ?_
 rintro _ K3 ⟨⟨b,hb,rfl⟩,rfl⟩
 have r8:rdL K3 (b,k * 12+8) none=some (.b up.has):=by rw[o.rn hb (o.n.one i k up hup hk) (by omega)];rfl
 have r7:rdL K3 (b,k * 12+7) none=some (.i .i64 up.when):=by rw[o.rn hb (o.n.one i k up hup hk) (by omega)];rfl
 simp only[zf,zx,zg,zj,zt,r8,zh,zT]
 cases hh:up.has with
 | false =>
  simp only[zf,Ze,xv,zX,zB]
  exact own fun _=>⟨up,by simpa using hup,by simp[hh]⟩
 | true =>
  simp only[zf,zx,yk,xG]
  refine (xN hf.f195 o hup hk hkn).mono ?_
  rintro _ K5 ⟨⟨b',hb',rfl⟩,rfl⟩
  have:b'=b:=by rw[hb]at hb';cases hb';rfl
  subst this
  simp only[zf,zx,yk,zg,zj,zt,r7,zh,zbC,zT,zR]
  exact⟨fun h1=>direct fun _=>⟨up,by simpa using hup,hh,h1⟩,fun h1=>own fun _=>⟨up,by simpa using hup,fun h9=>h1 h9.2⟩⟩
end
end
section
def rn (ρ:Nat→Nat)(x:One):One:={ x with c:=x.c.map ρ }
def ren (ρ:Nat→Nat)(t:Option Nat)(σ:Cs):Cs:={ σ with t:=t,ones:=σ.ones.map (rn ρ) }
def xd (S:CX)(a:Nat):Prop:=∃x∈S.σ.ones,x.c=some a
structure Sim (ρ:Nat→Nat)(S S':CX):Prop where
 s:S'.σ=ren ρ S'.σ.t S.σ
 t:S'.σ.t.isSome=S.σ.t.isSome
 x:S'.τ=S.τ
 c:∀a,xd S a→S'.χ (ρ a)=S.χ a
 i:∀a b,xd S a→xd S b→ρ a=ρ b→a=b
section
variable {ρ:Nat→Nat} {S S':CX}
theorem Sim.tree (h:Sim ρ S S'):S'.σ.tree=S.σ.tree:=by
 have:=congrArg Cs.tree h.s
 exact this
theorem Sim.afts (h:Sim ρ S S'):S'.σ.afts=S.σ.afts:=by
 have:=congrArg Cs.afts h.s
 exact this
theorem Sim.who (h:Sim ρ S S'):S'.σ.who=S.σ.who:=by
 have:=congrArg Cs.who h.s
 exact this
theorem Sim.ones (h:Sim ρ S S'):S'.σ.ones=S.σ.ones.map (rn ρ):=congrArg Cs.ones h.s
theorem Sim.len (h:Sim ρ S S'):S'.σ.ones.length=S.σ.ones.length:=by rw[h.ones,List.length_map]
theorem Sim.get (h:Sim ρ S S')(i:Nat):S'.σ.ones[i]?=(S.σ.ones[i]?).map (rn ρ):=by rw[h.ones,List.getElem?_map]
theorem Sim.has (h:Sim ρ S S')(id:Int):S'.σ.has id=S.σ.has id:=by unfold Cs.has;rw[h.len]
theorem Sim.room (h:Sim ρ S S')(id:Int):S'.σ.room id=S.σ.room id:=by unfold Cs.room;rw[h.has,h.len]
theorem Sim.reset (h:Sim ρ S S')(ns:List Nd)(as_:List Aft)(w:Int→Option Int):Sim ρ { S with σ:={ S.σ with tree:=ns,afts:=as_,who:=w } } { S' with σ:={ S'.σ with tree:=ns,afts:=as_,who:=w } }:=by
 refine⟨?_,h.t,h.x,h.c,h.i⟩
 have:=h.ones
 simp only[ren,this]
theorem Sim.setTree (h:Sim ρ S S')(ns:List Nd):Sim ρ (S.setTree ns) (S'.setTree ns):=by
 refine⟨?_,h.t,h.x,h.c,h.i⟩
 have e1:=h.ones
 have e2:=h.afts
 have e3:=h.who
 simp only[CX.setTree,ren,e1,e2,e3]
theorem Sim.setAfts (h:Sim ρ S S')(as_:List Aft):Sim ρ { S with σ:={ S.σ with afts:=as_ } } { S' with σ:={ S'.σ with afts:=as_ } }:=by
 refine⟨?_,h.t,h.x,h.c,h.i⟩
 have e1:=h.ones
 have e2:=h.tree
 have e3:=h.who
 simp only[ren,e1,e2,e3]
theorem Sim.setOne (h:Sim ρ S S'){w:Nat}{x y:One}(hx:S.σ.ones[w]?=some x)(hc:y.c=x.c):Sim ρ (S.setOne w y) (S'.setOne w (rn ρ y)):=by
 have hu:∀a,xd (S.setOne w y) a→xd S a:=by
  rintro a ⟨z,hz,hza⟩
  obtain⟨i,hi⟩:=List.mem_iff_getElem?.1 hz
  rcases we hi with⟨_,rfl,_⟩ | ⟨_,hi⟩
  ·exact⟨x,List.mem_of_getElem? hx,by rw[←hc];exact hza⟩
  ·exact⟨z,List.mem_of_getElem? hi,hza⟩
 refine⟨?_,h.t,h.x,fun a ha=>h.c a (hu a ha),fun a b ha hb=>h.i a b (hu a ha) (hu b hb)⟩
 have e1:=h.ones
 have e2:=h.tree
 have e3:=h.who
 have e4:=h.afts
 simp only[CX.setOne,ren,e1,e2,e3,e4,List.map_set]
theorem Sim.setX (h:Sim ρ S S')(τ:Tms):Sim ρ { S with τ:=τ } { S' with τ:=τ }:=⟨h.s,h.t,rfl,h.c,h.i⟩
theorem Sim.endT (h:Sim ρ S S'){c:Option Nat}(hu:∀a,c=some a→xd S a):Sim ρ (S.endT c).1 (S'.endT (c.map ρ)).1∧(S'.endT (c.map ρ)).2=(S.endT c).2:=by
 cases c with
 | none=>exact⟨h,rfl⟩
 | some a =>
  have ha:=hu a rfl
  have hc:=h.c a ha
  refine⟨⟨h.s,h.t,h.x,fun b hb=>?_,h.i⟩,?_⟩
  ·have hb':xd S b:=hb
   simp only[CX.endT,Option.map_some,y9]
   by_cases e:b=a
   ·subst e;simp[hc]
   ·have:ρ b≠ρ a:=fun h9=>e (h.i b a hb' ha h9)
    rw[if_neg this,if_neg e];exact h.c b hb'
  ·simp only[CX.endT,Option.map_some,hc]
theorem Sim.stopT (h:Sim ρ S S')(id:Int):Sim ρ (S.stopT id) (S'.stopT id):=by
 unfold CX.stopT
 have ht:=h.t
 cases e1:S.σ.t with
 | none =>
  cases e2:S'.σ.t with
  | none=>exact h
  | some s=>rw[e1,e2]at ht;cases ht
 | some s =>
  cases e2:S'.σ.t with
  | none=>rw[e1,e2]at ht;cases ht
  | some s' =>
   simp only
   rw[h.x]
   cases S.τ.one id with
   | none=>exact h
   | some o=>simp only;exact h.setX _
theorem Sim.hit {A A':Zq}(h:Sim ρ A.1 A'.1)(h2:A'.2=A.2)(err cause:Int)(j:Nat):Sim ρ (z9 err cause A j).1 (z9 err cause A' j).1∧(z9 err cause A' j).2=(z9 err cause A j).2:=by
 obtain⟨S,o⟩:=A
 obtain⟨S',o'⟩:=A'
 simp only at h h2
 subst h2
 unfold z9
 simp only[h.who,h.afts]
 generalize (S.σ.who j).getD 0=w
 by_cases hw:w<0
 ·simp only[hw,if_true]
  cases e:S.σ.afts[(-w-1).toNat]? with
  | none=>exact⟨h,rfl⟩
  | some x =>
   have h9:=h.setAfts (S.σ.afts.set (-w-1).toNat { x with over:=true })
   simp only[h.who]at h9 ⊢
   exact⟨h9,trivial⟩
 ·simp only[hw,if_false,h.get]
  cases e:S.σ.ones[w.toNat]? with
  | none=>exact⟨h,rfl⟩
  | some x =>
   simp only[Option.map_some]
   have hs:=h.setOne (y:={ x with err:=err,cause:=cause }) e rfl
   have he:rn ρ { x with err:=err,cause:=cause }={ rn ρ x with err:=err,cause:=cause }:=rfl
   rw[he]at hs
   have hm:(S.setOne w.toNat { x with err:=err,cause:=cause }).σ.ones[w.toNat]?=some { x with err:=err,cause:=cause }:=List.getElem?_set_self (List.getElem?_eq_some_iff.1 e).1
   have hen:=hs.endT (c:=x.c) (fun a ha=>⟨_,List.mem_of_getElem? hm,ha⟩)
   have hcm:(rn ρ x).c=x.c.map ρ:=rfl
   have htm:(rn ρ x).timer=x.timer:=rfl
   rw[hcm,htm]
   exact⟨hen.1.stopT _,congrArg (fun z=>(o'.1++[(⟨w,err,cause,z⟩:Lap)],o'.2)) hen.2⟩
theorem Sim.hits {A A':Zq}(h:Sim ρ A.1 A'.1)(h2:A'.2=A.2)(err cause:Int):∀l:List Nat,Sim ρ (l.foldl (z9 err cause) A).1 (l.foldl (z9 err cause) A').1∧(l.foldl (z9 err cause) A').2=(l.foldl (z9 err cause) A).2:=by
 intro l
 induction l generalizing A A' with
 | nil=>exact⟨h,h2⟩
 | cons a r ih =>
  obtain⟨h3,h4⟩:=h.hit h2 err cause a
  exact ih h3 h4
theorem Sim.walked {A A':Zq}(h:Sim ρ A.1 A'.1)(h2:A'.2=A.2)(T:List Nd)(err cause:Int)(B:Nat→Bool)(l:List Nat):Sim ρ (walked T err cause B l A).1 (walked T err cause B l A').1∧(walked T err cause B l A').2=(walked T err cause B l A).2:=by
 obtain⟨h3,h4⟩:=h.hits h2 err cause l
 exact⟨h3.setTree _,h4⟩
theorem Sim.wf (h:Sim ρ S S')(wf:WF S):WF S':=by
 have fwd:∀{i:Nat} {y:One},S'.σ.ones[i]?=some y→∃x,S.σ.ones[i]?=some x∧y=rn ρ x:=by
  intro i y hy
  rw[h.get]at hy
  cases e:S.σ.ones[i]? with
  | none=>rw[e]at hy;cases hy
  | some x=>rw[e]at hy;simp at hy;exact⟨x,rfl,hy.symm⟩
 refine⟨by rw[h.tree];exact wf.tr,by rw[h.len,h.afts];exact wf.sz,by rw[h.tree,h.len,h.afts];exact wf.len,?_,?_,?_,?_,?_,?_,by rw[h.x];exact wf.tlen⟩
 ·intro i y hy
  obtain⟨x,hx,rfl⟩:=fwd hy
  rw[h.tree,h.who];exact wf.who1 i x hx
 ·intro j y hy
  rw[h.afts]at hy
  rw[h.tree,h.who];exact wf.who2 j y hy
 ·intro k hk
  rw[h.tree]at hk
  rw[h.who,h.afts]
  rcases wf.cover k hk with⟨i,x,c1,c2,c3⟩ | c
  ·exact .inl ⟨i,rn ρ x,c1,by rw[h.get,c2];rfl,c3⟩
  ·exact .inr c
 ·intro i k y n hy hk hn
  obtain⟨x,hx,rfl⟩:=fwd hy
  rw[h.tree]at hn
  exact wf.live i k x n hx hk hn
 ·intro y hy a ha
  obtain⟨i,hi⟩:=List.mem_iff_getElem?.1 hy
  obtain⟨x,hx,rfl⟩:=fwd hi
  have hxc:x.c.map ρ=some a:=ha
  cases e:x.c with
  | none=>rw[e]at hxc;cases hxc
  | some a0 =>
   rw[e]at hxc;simp at hxc;subst hxc
   rw[h.c a0 ⟨x,List.mem_of_getElem? hx,e⟩]
   exact wf.chs x (List.mem_of_getElem? hx) a0 e
 ·intro y hy s o hs ho
  obtain⟨i,hi⟩:=List.mem_iff_getElem?.1 hy
  obtain⟨x,hx,rfl⟩:=fwd hi
  have ht:=h.t
  rw[hs]at ht
  cases e:S.σ.t with
  | none=>rw[e]at ht;cases ht
  | some s0=>rw[h.x]at ho;exact wf.tms x (List.mem_of_getElem? hx) s0 o e ho
theorem Sim.ao (h:Sim ρ S S')(ao:AO S):AO S':=by
 intro j k x n hx hk hn hl
 rw[h.afts]at hx
 rw[h.tree]at hn
 exact ao j k x n hx hk hn hl
theorem Sim.cancelP (h:Sim ρ S S')(wf:WF S){i:Nat}{x:One}(hx:S.σ.ones[i]?=some x)(err cause:Int):∃r r',S.cancelP 200 i err cause=some r∧S'.cancelP 200 i err cause=some r'∧Sim ρ r.1 r'.1∧r'.2=r.2:=by
 have hx':S'.σ.ones[i]?=some (rn ρ x):=by rw[h.get,hx];rfl
 obtain⟨k,hk,_,_⟩:=wf.who1 i x hx
 have wf':=h.wf wf
 by_cases he:x.free=true∨x.err≠0
 ·exact⟨_,_,yK hx he 199 err cause,yK hx' he 199 err cause,h,rfl⟩
 ·simp only[not_or,Bool.not_eq_true,ne_eq,Decidable.not_not]at he
  refine⟨_,_,wf.cancelP hx hk he.1 he.2 err cause,wf'.cancelP hx' hk he.1 he.2 err cause,?_⟩
  rw[h.tree]
  exact Sim.walked (A:=(S,[],[])) (A':=(S',[],[])) h rfl _ _ _ _ _
theorem Sim.addP (h:Sim ρ S S'){o:One}(hc:o.c=none)(p:Int):Sim ρ (S.addP o p) (S'.addP o p):=by
 have hu:∀a,xd (S.addP o p) a→xd S a:=by
  rintro a ⟨z,hz,hza⟩
  have hz':z∈S.σ.ones++[{ o with node:=(zL S.σ.tree p (!o.free)).2.1,timer:=-1 }]:=hz
  rcases List.mem_append.1 hz' with h1 | h1
  ·exact⟨z,h1,hza⟩
  ·simp at h1;subst h1;simp[hc]at hza
 refine⟨?_,h.t,h.x,fun a ha=>h.c a (hu a ha),fun a b ha hb=>h.i a b (hu a ha) (hu b hb)⟩
 have e1:=h.ones
 have e2:=h.tree
 have e3:=h.who
 have e4:=h.afts
 simp only[CX.addP,Cs.add,ren,e1,e2,e3,e4,List.map_append,List.map_cons,List.map_nil,List.length_map,rn,hc,Option.map_none]
theorem Sim.addS (h:Sim ρ S S'){a a':Nat}(ha:¬xd S a)(ha':¬xd S' a')(o:One)(p:Int):Sim (fun b=>if b=a then a' else ρ b) (S.addS o p a) (S'.addS o p a'):=by
 have hu:∀b,xd (S.addS o p a) b→b=a∨(b≠a∧xd S b):=by
  rintro b ⟨z,hz,hzb⟩
  have hz':z∈S.σ.ones++[{ ({ o with c:=some a }:One)with node:=(zL S.σ.tree p (!o.free)).2.1,timer:=-1 }]:=hz
  rcases List.mem_append.1 hz' with h1 | h1
  ·refine .inr ⟨?_,z,h1,hzb⟩
   rintro rfl;exact ha ⟨z,h1,hzb⟩
  ·simp at h1;subst h1;simp at hzb;exact .inl hzb.symm
 have hne:∀b,xd S b→ρ b≠a':=by
  rintro b ⟨z,hz,hzb⟩ h9
  refine ha' ⟨rn ρ z,by rw[h.ones];exact List.mem_map.2 ⟨z,hz,rfl⟩,?_⟩
  simp[rn,hzb,h9]
 refine⟨?_,h.t,h.x,fun b hb=>?_,fun b d hb hd h9=>?_⟩
 ·have e1:=h.ones
  have e2:=h.tree
  have e3:=h.who
  have e4:=h.afts
  have hm:S.σ.ones.map (rn ρ)=S.σ.ones.map (rn fun b=>if b=a then a' else ρ b):=by
   apply List.map_congr_left
   intro z hz
   unfold rn
   congr 1
   cases e:z.c with
   | none=>rfl
   | some b =>
    have:b≠a:=by rintro rfl;exact ha ⟨z,hz,e⟩
    simp[this]
  simp only[CX.addS,Cs.add,ren,e1,e2,e3,e4,hm,List.map_append,List.map_cons,List.map_nil,List.length_map,rn,Option.map_some,if_true]
 ·simp only[CX.addS,y9]
  rcases hu b hb with rfl | ⟨h1,h2⟩
  ·simp
  ·simp only[h1,if_false,hne b h2]
   exact h.c b h2
 ·have h9:(if b=a then a' else ρ b)=(if d=a then a' else ρ d):=h9
  rcases hu b hb with rfl | ⟨h1,h2⟩
  ·rcases hu d hd with rfl | ⟨h3,h4⟩
   ·rfl
   ·simp only[if_true,h3,if_false]at h9
    exact absurd h9.symm (hne d h4)
  ·rcases hu d hd with rfl | ⟨h3,h4⟩
   ·simp only[if_true,h1,if_false]at h9
    exact absurd h9 (hne b h2)
   ·simp only[h1,h3,if_false]at h9
    exact h.i b d h2 h4 h9
theorem Sim.refl (S:CX):Sim id S S:=by
 have hr:S.σ.ones.map (rn id)=S.σ.ones:=by
  have:rn id=id:=by
   funext x
   obtain⟨a,b,c,d⟩:=x
   cases c<;>rfl
  rw[this,List.map_id]
 refine⟨?_,rfl,rfl,fun _ _=>rfl,fun _ _ _ _ h=>h⟩
 show S.σ={ S.σ with t:=S.σ.t,ones:=S.σ.ones.map (rn id) }
 rw[hr]
end
end
section
variable {F:Nat→Option AFn}
theorem zd.outO {f:Nat}{vs:List AV}{L:Lg}{Q Q':AV→Lg→Prop}(h:zd F f vs L Q)(hq:∀v L',Q v L'→∃r P,L' r=some (.abs P)∧∀hm,P hm→∃M:Lg,Sat M hm∧M r≠none∧((∀b c,M b=some c→b≠r→L' b=none)→Q' v (M.over L'))):zd F f vs L Q':=by
 intro S m
 obtain⟨n,v,S',h1,L',h2,h3⟩:=h S m
 obtain⟨r,P,e,hh⟩:=hq v L' h3
 obtain⟨hm,hP,hM⟩:=h2.unfold e
 obtain⟨M,hs,hr,hc⟩:=hh hm hP
 obtain⟨m1,hf⟩:=hM M hs
 exact⟨n,v,S',h1,M.over L',by rw[←zb9 M L' hr];exact m1,hc hf⟩
def zg8 (χ:Nat→Ch)(i:Nat)(y:Ch)(j:Nat):Ch:=if j=i then y else χ j
section
variable {L0 Lb:Lg} {b s u:Nat} {now:Int} {σ ρ:Tms} {χ ψ:Nat→Ch}
theorem zb3 {l:List On}{w w':On}{i:Nat}(h:(l++[w])[i]?=some w'):(i=l.length∧w'=w)∨(i<l.length∧l[i]?=some w'):=by
 by_cases hi:i<l.length
 ·rw[List.getElem?_append_left hi]at h;exact .inr ⟨hi,h⟩
 ·rw[List.getElem?_append_right (by omega)]at h
  have h1:=(List.getElem?_eq_some_iff.1 h).1
  simp at h1
  have e:i-l.length=0:=by omega
  rw[e]at h;simp at h
  exact .inl ⟨by omega,h.symm⟩
end
section
variable {σ ρ:Tms}
end
end
section
def due (now:Int)(l:List It):Nat:=(l.filter fun y=>decide (y.w≤now)).length
theorem zh1 (now:Int)(z:It)(l:List It)(hz:now<z.w):due now (ins z l)=due now l:=by
 unfold due
 rw[((vg z l).filter _).length_eq,List.filter_cons_of_neg (by simp;omega)]
theorem zji (now:Int){y:It}{l:List It}(hy:y∈l)(hw:y.w≤now):due now (yS y.id l)<due now l:=by
 unfold due yS
 rw[List.filter_filter]
 have e:(l.filter fun a=>decide (a.w≤now)&&!decide (a.id=y.id))=(l.filter fun a=>decide (a.w≤now)).filter fun a=>!decide (a.id=y.id):=by
  rw[List.filter_filter];congr 1;funext a;exact Bool.and_comm _ _
 rw[e]
 refine List.length_filter_lt_length_iff_exists.2 ⟨y,?_,by simp⟩
 simp[hy,hw]
theorem zjj (now:Int)(l:List It):due now l≤l.length:=List.length_filter_le _ _
theorem Wj {w p now:Int}(hw:0≤w∧w≤4611686018427387904):(zy w p now).2=0→now<(zy w p now).1→0≤(zy w p now).1∧(zy w p now).1≤4611686018427387904:=by
 unfold zy
 split
 ·intro h;simp at h
 ·rename_i h1
  split
  ·intro _ _;exact hw
  ·intro _ h2
   simp only at h2 ⊢
   have:zM now (p-(now-w).tmod p)≤4611686018427387904:=by unfold zM yx;omega
   omega
theorem XG.takeAny {x:Xs}{K:Int}(h:XG x K)(now:Int) :
  (x.take now=(x,(0,0,0),false)) ∨
  ∃(x':Xs) (y:It),y∈x.l∧y.w≤now∧x.take now=(x',(y.id,y.w,now),true)∧XG x' (K+1)∧due now x'.l<due now x.l∧(∀z∈x'.l,z∈x.l∨z.id=y.id):=by
 cases hl:x.l with
 | nil=>left;simp[Xs.take,hl]
 | cons y r =>
  have hy:y∈x.l:=by rw[hl];simp
  have t0:=h.time y hy
  by_cases hc:now<0∨now<y.w
  ·left;simp[Xs.take,hl,hc]
  ·right
   obtain⟨p,hp1,hp2,hp3⟩:=h.per y hy
   have hst:=h.stop y.id
   have hdue:=zji now hy (by omega)
   rw[hl]at hdue
   by_cases hn:(zy y.w p now).2=0∧now<(zy y.w p now).1
   ·have hr:=Wj t0 hn.1 hn.2
    obtain⟨a1,a2,a3,a4,a5⟩:=hst.arm y.id (zy y.w p now).1 p hr.1 hp2 hr.2 hp3
    refine⟨((x.stop y.id).arm y.id (zy y.w p now).1 p).1,y,by simp,by omega,by simp[Xs.take,hl,hc,hp1,hn],a1,?_,?_⟩
    ·have hb:=zfr hr.1 hp2 hr.2 hp3
     have e:((x.stop y.id).arm y.id (zy y.w p now).1 p).1.l=ins ⟨y.id,(zy y.w p now).1,(x.stop y.id).seq+1⟩ (yS y.id (x.stop y.id).l):=by simp[Xs.arm,hb,Xs.armed]
     rw[e,zh1 _ _ _ hn.2]
     have e2:yS y.id (x.stop y.id).l=yS y.id x.l:=by simp[Xs.stop,yS]
     rw[e2,hl];exact hdue
    ·intro z hz
     rcases (a2 z).1 hz with rfl | ⟨h1,h2⟩
     ·exact .inr rfl
     ·exact .inl (by rw[←hl];exact (VJ.1 h1).1)
   ·refine⟨x.stop y.id,y,by simp,by omega,by simp[Xs.take,hl,hc,hp1,hn],hst.mono (by omega),?_,?_⟩
    ·simp only[Xs.stop];rw[hl];exact hdue
    ·intro z hz;exact .inl (by rw[←hl];exact (VJ.1 hz).1)
theorem zeY:∀(n:Nat) (l:List Int),l.Nodup→(∀x∈l,0≤x∧x<(n:Int))→l.length≤n
 | 0,l,_,h=>by
  cases l with
  | nil=>simp
  | cons a r=>have:=h a (by simp);omega
 | n+1,l,nd,h=>by
  have h1:=zeY n (l.filter fun x=>!decide (x=(n:Int))) (nd.filter _) (fun x hx=>by
   have:=List.mem_filter.1 hx
   have h2:=h x this.1
   have h3:¬x=(n:Int):=by simpa using this.2
   omega)
  have h2:l.count (n:Int)≤1:=List.nodup_iff_count.1 nd _
  have h3:l.length=l.countP (fun x=>decide (x=(n:Int)))+l.countP (fun x=>!decide (x=(n:Int))):=by
   have:=List.length_eq_countP_add_countP (fun x:Int=>decide (x=(n:Int))) (l:=l)
   simpa using this
  have h4:l.countP (fun x=>decide (x=(n:Int)))=l.count (n:Int):=by
   rw[List.count_eq_countP];congr 1
  rw[←List.countP_eq_length_filter]at h1
  omega
structure GoodC (y:Ch)(k:Nat):Prop where
 t:y.timed=true
 cap:y.cap=1
 sends:y.sends=[]
 sig:y.signal=false
 closed:y.closed=false
 vals:y.vals.length≤1
 recvs:y.recvs.length≤k
theorem GoodC.mono {y:Ch}{k k':Nat}(h:GoodC y k)(hk:k≤k'):GoodC y k':=⟨h.t,h.cap,h.sends,h.sig,h.closed,h.vals,Nat.le_trans h.recvs hk⟩
theorem GoodC.tm (k:Nat):GoodC Ch.tm k:=⟨rfl,rfl,rfl,rfl,rfl,by simp[Ch.tm],by simp[Ch.tm]⟩
structure TG (σ:Tms)(χ:Nat→Ch)(k:Nat):Prop where
 g:XG σ.x k
 n:0≤σ.named∧σ.named≤64
 o:σ.ones.length≤k
 ids:∀y∈σ.x.l,∃i:Nat,y.id=(i:Int)∧i<σ.ones.length
 gen:∀(i:Nat) (w:On),σ.ones[i]?=some w→0≤w.gen∧w.gen≤k
 ch:∀i,GoodC (χ i) k
section
variable {σ:Tms} {χ:Nat→Ch} {k:Nat}
theorem TG.mono {k':Nat}(h:TG σ χ k)(hk:k≤k'):TG σ χ k':=⟨h.g.mono (by omega),h.n,Nat.le_trans h.o hk,h.ids,fun i w hw=>⟨(h.gen i w hw).1,by have:=(h.gen i w hw).2;omega⟩,fun i=>(h.ch i).mono hk⟩
theorem TG.tf (h:TG σ χ k)(hk:k≤900000):TFine σ k:=⟨h.g,by omega,by have:=h.o;omega,h.n.1⟩
theorem TG.few (h:TG σ χ k):σ.x.l.length≤σ.ones.length:=by
 have:=zeY σ.ones.length (σ.x.l.map It.id) h.g.nd (fun x hx=>by
  obtain⟨y,hy,rfl⟩:=List.mem_map.1 hx
  obtain⟨i,h1,h2⟩:=h.ids y hy
  omega)
 simpa using this
theorem TG.chan (h:TG σ χ k){i:Nat}{y:Ch}(hy:GoodC y k):TG σ (zg8 χ i y) k:=⟨h.g,h.n,h.o,h.ids,h.gen,fun j=>by unfold zg8;split;exact hy;exact h.ch j⟩
theorem TG.stop (h:TG σ χ k)(id:Int):TG { σ with x:=σ.x.stop id } χ k:=⟨h.g.stop id,h.n,h.o,fun y hy=>h.ids y (VJ.1 hy).1,h.gen,h.ch⟩
theorem zjq {w:On}{now d:Int}(hn:zdI now=false)(hk:w.kind=2→1≤d):0≤zM now (max d 0)∧0≤(if w.kind=2 then min d 4611686018427387904 else 0)∧zM now (max d 0)≤4611686018427387904∧(if w.kind=2 then min d 4611686018427387904 else 0)≤4611686018427387904:=by
 simp[zdI]at hn
 refine⟨by unfold zM yx;omega,?_,by unfold zM yx;omega,?_⟩
 ·split
  ·rename_i h;have:=hk h;omega
  ·omega
 ·split<;>omega
theorem TG.armed (h:TG σ χ k){i:Nat}(hi:i<σ.ones.length){w:On}(hg:0≤w.gen∧w.gen≤k){now d:Int}(hn:zdI now=false)(hk:w.kind=2→1≤d):TG (σ.armed i w now d) χ (k+1):=by
 obtain⟨p1,p2,p3,p4⟩:=zjq hn hk
 obtain⟨a1,a2,a3,a4,a5⟩:=h.g.arm i (zM now (max d 0)) (if w.kind=2 then min d 4611686018427387904 else 0) p1 p2 p3 p4
 refine⟨by have:=a1.mono (K':=((k+1:Nat):Int)) (by omega);exact this,h.n,by have:=h.o;simp[Tms.armed];omega,fun y hy=>?_,fun j v hv=>?_,fun j=>(h.ch j).mono (by omega)⟩
 ·rcases (a2 y).1 hy with rfl | ⟨h1,h2⟩
  ·exact⟨i,rfl,by simp[Tms.armed];exact hi⟩
  ·obtain⟨j,h3,h4⟩:=h.ids y h1
   exact⟨j,h3,by simp[Tms.armed];exact h4⟩
 ·simp only[Tms.armed]at hv
  by_cases hj:i=j
  ·subst hj
   rw[List.getElem?_set_self hi]at hv;cases hv
   exact⟨by simp;omega,by simp;omega⟩
  ·rw[List.getElem?_set_ne hj]at hv
   have:=h.gen j v hv;omega
theorem TG.make (h:TG σ χ k){w:On}(hw:w.gen=0)(now d:Int):TG (σ.make w now d).1 (zg8 χ σ.ones.length .tm) (k+2):=by
 have h':TG σ (zg8 χ σ.ones.length .tm) (k+2):=(h.chan (GoodC.tm k)).mono (by omega)
 simp only[Tms.make]
 split
 ·exact h'
 ·rename_i c1
  simp only[not_or]at c1
  split
  ·exact h'
  ·rename_i c2
   have hb:zdI now=false:=by simpa using c1.1
   have h2:TG { σ with named:=if w.kind=4 then σ.named else σ.named+1,ones:=σ.ones++[w] } (zg8 χ σ.ones.length .tm) (k+1):=by
    refine⟨h.g.mono (by omega),?_,by have:=h.o;simp;omega,fun y hy=>?_,fun j v hv=>?_,fun j=>((h.chan (i:=σ.ones.length) (GoodC.tm k)).ch j).mono (by omega)⟩
    ·have:=h.n
     simp only
     split
     ·exact this
     ·rename_i h4
      have:¬64≤σ.named:=fun h9=>c2 ⟨h4,h9⟩
      omega
    ·obtain⟨i,h3,h4⟩:=h.ids y hy
     exact⟨i,h3,by simp;omega⟩
    ·rcases zb3 hv with⟨_,rfl⟩ | ⟨_,hv'⟩
     ·omega
     ·have:=h.gen j v hv';omega
   exact h2.armed (i:=σ.ones.length) (by simp) (w:=w) (by omega) hb (fun h9=>Int.not_lt.1 (fun h8=>c1.2.2 ⟨h9,h8⟩))
theorem TG.take (h:TG σ χ k){now:Int}{x':Xs}{y:It}(hy:y∈σ.x.l)(hx:XG x' (k+1))(hz:∀z∈x'.l,z∈σ.x.l∨z.id=y.id):TG { σ with x:=x' } χ (k+1):=by
 refine⟨by have:=hx.mono (K':=((k+1:Nat):Int)) (by omega);exact this,h.n,by have:=h.o;simp;omega,fun z hz'=>?_,fun i w hw=>?_,fun j=>(h.ch j).mono (by omega)⟩
 ·rcases hz z hz' with h1 | h1
  ·exact h.ids z h1
  ·rw[h1];exact h.ids y hy
 ·have:=h.gen i w hw;omega
end
end
section
structure GoodS (y:Ch)(k:Nat):Prop where
 sends:y.sends=[]
 vals:y.vals=[]
 timed:y.timed=false
 sig:y.signal=true
 cap:y.cap=0
 recvs:y.recvs.length≤k
theorem GoodS.mono {y:Ch}{k k':Nat}(h:GoodS y k)(hk:k≤k'):GoodS y k':=⟨h.sends,h.vals,h.timed,h.sig,h.cap,Nat.le_trans h.recvs hk⟩
theorem GoodS.sg (k:Nat):GoodS .sg k:=⟨rfl,rfl,rfl,rfl,rfl,by simp[Ch.sg]⟩
theorem GoodS.fin {y:Ch}{k:Nat}(h:GoodS y k):GoodS y.endS.1 k:=by
 unfold Ch.endS
 split
 ·exact⟨rfl,h.vals,h.timed,h.sig,h.cap,by simp[Ch.ended]⟩
 ·exact h
structure CI (S:CX)(k:Nat):Prop where
 wf:WF S
 ao:AO S
 t:S.σ.t.isSome=true
 tg:TG S.τ (fun _=>.tm) k
 on:∀(i:Nat) (o:On),S.τ.ones[i]?=some o→o.c=none
 ch:∀a,GoodS (S.χ a) k
structure Less (τ τ':Tms):Prop where
 l:τ'.x.l.Sublist τ.x.l
 ones:τ'.ones=τ.ones
theorem Less.refl (τ:Tms):Less τ τ:=⟨List.Sublist.refl _,rfl⟩
theorem Less.due {τ τ':Tms}(h:Less τ τ')(now:Int):due now τ'.x.l≤due now τ.x.l:=(h.l.filter _).length_le
theorem zad (P:Tms→Prop)(R:Ch→Prop)(hP:∀τ id,P τ→P { τ with x:=τ.x.stop id })(hR:∀y,R y→R y.endS.1)(err cause:Int)(acc:Zq)(h1:P acc.1.τ)(h2:∀a,R (acc.1.χ a))(j:Nat) :
  P (z9 err cause acc j).1.τ∧∀a,R ((z9 err cause acc j).1.χ a):=by
 have hst:∀(X:CX) (id:Int),P X.τ→(∀a,R (X.χ a))→P (X.stopT id).τ∧∀a,R ((X.stopT id).χ a):=by
  intro X id h3 h4
  unfold CX.stopT
  cases X.σ.t with
  | none=>exact⟨h3,h4⟩
  | some s =>
   simp only
   cases X.τ.one id with
   | none=>exact⟨h3,h4⟩
   | some o=>exact⟨hP _ _ h3,h4⟩
 have hen:∀(X:CX) (c:Option Nat),P X.τ→(∀a,R (X.χ a))→P (X.endT c).1.τ∧∀a,R ((X.endT c).1.χ a):=by
  intro X c h3 h4
  cases c with
  | none=>exact⟨h3,h4⟩
  | some a =>
   refine⟨h3,fun b=>?_⟩
   simp only[CX.endT,y9]
   split
   ·exact hR _ (h4 a)
   ·exact h4 b
 unfold z9
 simp only
 split
 ·cases acc.1.σ.afts[(-(acc.1.σ.who j).getD 0-1).toNat]? with
  | none=>exact⟨h1,h2⟩
  | some x=>exact⟨h1,h2⟩
 ·cases acc.1.σ.ones[((acc.1.σ.who j).getD 0).toNat]? with
  | none=>exact⟨h1,h2⟩
  | some x =>
   obtain⟨h3,h4⟩:=hen (acc.1.setOne ((acc.1.σ.who j).getD 0).toNat { x with err:=err,cause:=cause }) x.c h1 h2
   exact hst _ _ h3 h4
theorem Vo (P:Tms→Prop)(R:Ch→Prop)(hP:∀τ id,P τ→P { τ with x:=τ.x.stop id })(hR:∀y,R y→R y.endS.1)(err cause:Int):∀(l:List Nat) (acc:Zq),P acc.1.τ→(∀a,R (acc.1.χ a))→P (l.foldl (z9 err cause) acc).1.τ∧∀a,R ((l.foldl (z9 err cause) acc).1.χ a)
 | [],acc,h1,h2=>⟨h1,h2⟩
 | j::r,acc,h1,h2=>by
  obtain⟨h3,h4⟩:=zad P R hP hR err cause acc h1 h2 j
  exact Vo P R hP hR err cause r _ h3 h4
structure LapsOk (k:Nat)(laps:List Lap)(sts:List (Int×Int)):Prop where
 l:laps.length≤1000
 s:sts.length≤1000
 w:∀x∈laps,x.wakes.length≤k
theorem LapsOk.nil (k:Nat):LapsOk k [] []:=⟨by simp,by simp,fun x hx=>by simp at hx⟩
theorem WX (b:Bool):∀(l:List Wt) (acc:List Wk),(l.foldl (yr b) acc).length≤acc.length+l.length
 | [],acc=>by simp
 | x::r,acc=>by
  have h1:(yr b acc x).length≤acc.length+1:=by
   unfold yr
   split<;>simp
  have:=WX b r (yr b acc x)
  simp only[List.foldl_cons,List.length_cons]
  omega
theorem GoodS.wakes {y:Ch}{k:Nat}(h:GoodS y k):y.endS.2.length≤k:=by
 unfold Ch.endS
 split
 ·have h1:=h.recvs
  have h2:=h.sends
  simp only[Ch.wakes,h2,List.foldl_nil]
  have:=WX false y.recvs []
  simp at this
  omega
 ·simp
theorem zeQ {k:Nat}(err cause:Int)(acc:Zq)(h2:∀a,GoodS (acc.1.χ a) k)(hw:∀x∈acc.2.1,x.wakes.length≤k)(j:Nat) :
  (z9 err cause acc j).2.1.length≤acc.2.1.length+1∧(z9 err cause acc j).2.2.length≤acc.2.2.length+1∧∀x∈(z9 err cause acc j).2.1,x.wakes.length≤k:=by
 unfold z9
 simp only
 split
 ·cases acc.1.σ.afts[(-(acc.1.σ.who j).getD 0-1).toNat]? with
  | none=>exact⟨by simp,by simp,hw⟩
  | some x=>exact⟨by simp,by simp,hw⟩
 ·cases acc.1.σ.ones[((acc.1.σ.who j).getD 0).toNat]? with
  | none=>exact⟨by simp,by simp,hw⟩
  | some x =>
   refine⟨by simp,by simp,fun y hy=>?_⟩
   simp only[List.mem_append,List.mem_singleton]at hy
   rcases hy with hy | hy
   ·exact hw y hy
   ·subst hy
    simp only
    cases x.c with
    | none=>simp[CX.endT]
    | some a=>exact (h2 a).wakes
theorem zab {k:Nat}(err cause:Int):∀(l:List Nat) (acc:Zq),(∀a,GoodS (acc.1.χ a) k)→(∀x∈acc.2.1,x.wakes.length≤k) →
  (l.foldl (z9 err cause) acc).2.1.length≤acc.2.1.length+l.length∧(l.foldl (z9 err cause) acc).2.2.length≤acc.2.2.length+l.length∧∀x∈(l.foldl (z9 err cause) acc).2.1,x.wakes.length≤k
 | [],acc,_,hw=>⟨by simp,by simp,hw⟩
 | j::r,acc,h2,hw=>by
  obtain⟨a1,a2,a3⟩:=zeQ err cause acc h2 hw j
  have h3:=(zad (fun _=>True) (fun y=>GoodS y k) (fun _ _ _=>trivial) (fun y hy=>hy.fin) err cause acc trivial h2 j).2
  obtain⟨b1,b2,b3⟩:=zab err cause r _ h3 a3
  simp only[List.foldl_cons,List.length_cons]
  exact⟨by omega,by omega,b3⟩
section
variable {ρ:Nat→Nat} {S S':CX} {k:Nat}
theorem CI.cancel (h:CI S k){i:Nat}{x:One}(hx:S.σ.ones[i]?=some x){err cause:Int}(herr:err≠0){r:Zq}(hr:S.cancelP 200 i err cause=some r):CI r.1 k∧Less S.τ r.1.τ∧r.1.σ.t=S.σ.t∧r.1.σ.ones.length=S.σ.ones.length∧LapsOk k r.2.1 r.2.2:=by
 obtain⟨h1,h2,h3,h4,h5⟩:=zdb h.wf h.ao hx herr hr
 obtain⟨q,hq,_,_⟩:=h.wf.who1 i x hx
 have key:(TG r.1.τ (fun _=>.tm) k∧Less S.τ r.1.τ)∧∀a,GoodS (r.1.χ a) k:=by
  by_cases he:x.free=true∨x.err≠0
  ·rw[yK hx he 199]at hr
   cases hr
   exact⟨⟨h.tg,Less.refl _⟩,h.ch⟩
  ·simp only[not_or,Bool.not_eq_true,ne_eq,Decidable.not_not]at he
   rw[h.wf.cancelP hx hq he.1 he.2]at hr
   simp only[Option.some.injEq]at hr
   rw[←hr]
   exact Vo (fun τ=>TG τ (fun _=>.tm) k∧Less S.τ τ) (fun y=>GoodS y k) (fun τ id hp=>⟨hp.1.stop id,⟨List.Sublist.trans (by simp only[Xs.stop,yS];exact List.filter_sublist) hp.2.l,hp.2.ones⟩⟩) (fun y hy=>hy.fin) err cause (pre S.σ.tree 200 q) (S,[],[]) ⟨h.tg,Less.refl _⟩ h.ch
 have laps:LapsOk k r.2.1 r.2.2:=by
  by_cases he:x.free=true∨x.err≠0
  ·rw[yK hx he 199]at hr
   cases hr
   exact LapsOk.nil k
  ·simp only[not_or,Bool.not_eq_true,ne_eq,Decidable.not_not]at he
   obtain⟨k',e1,e2,e3⟩:=h.wf.who1 i x hx
   have:k'=q:=by omega
   subst this
   rw[h.wf.cancelP hx hq he.1 he.2]at hr
   simp only[Option.some.injEq]at hr
   have hsz:=h.wf.sz
   have hlen:=h.wf.len
   have hpl:(pre S.σ.tree 200 k').length≤1000:=by
    have hnd:=xY h.wf.tr 200 k'
    have hsub:pre S.σ.tree 200 k' ⊆ List.range S.σ.tree.length:=fun j hj=>List.mem_range.2 ((vW h.wf.tr _ _ _ hj).2 e2)
    have:=hnd.length_le_of_subset hsub
    simp at this;omega
   obtain⟨b1,b2,b3⟩:=zab err cause (pre S.σ.tree 200 k') (S,[],[]) h.ch (fun x hx=>by simp at hx)
   rw[←hr]
   exact⟨by simp only[walked];simp at b1;omega,by simp only[walked];simp at b2;omega,b3⟩
 exact⟨⟨h1,h2,by rw[h3];exact h.t,key.1.1,fun j o ho=>h.on j o (by rw[←h5];exact ho),key.2⟩,key.1.2,h3,h4,laps⟩
theorem CI.mono (h:CI S k){k':Nat}(hk:k≤k'):CI S k':=⟨h.wf,h.ao,h.t,h.tg.mono hk,h.on,fun a=>(h.ch a).mono hk⟩
theorem CI.addS (h:CI S k){p:Nat}{up o:One}(hup:S.σ.ones[p]?=some up)(hlen:S.σ.ones.length<64)(ho:o.err=0)(a:Nat):CI (S.addS o up.node a) k:=by
 obtain⟨w,_,d⟩:=h.wf.addS hup hlen ho a
 refine⟨w,h.ao.add h.wf rfl d,h.t,h.tg,h.on,fun b=>?_⟩
 simp only[CX.addS,y9]
 split
 ·exact GoodS.sg k
 ·exact h.ch b
theorem CI.addP (h:CI S k){p:Nat}{up o:One}(hup:S.σ.ones[p]?=some up)(hlen:S.σ.ones.length<64)(ho:o.err=0)(hc:o.c=none):CI (S.addP o up.node) k:=by
 obtain⟨w,_,d,_⟩:=h.wf.add (o:=o) (χ':=S.χ) hup hlen ho (fun _ _ hb=>hb) (fun b hb=>by rw[hc]at hb;cases hb)
 exact⟨w,h.ao.add h.wf rfl d,h.t,h.tg,h.on,h.ch⟩
theorem zev (h:CI S k)(m:Sim ρ S S')(id cause:Int):∃r r',S.cancelX id cause=some r∧S'.cancelX id cause=some r'∧Sim ρ r.1 r'.1∧r'.2=r.2∧CI r.1 k∧Less S.τ r.1.τ∧LapsOk k r.2.1 r.2.2.1:=by
 unfold CX.cancelX
 rw[m.has]
 cases hh:S.σ.has id with
 | false=>exact⟨_,_,if_pos rfl,if_pos rfl,m,rfl,h,Less.refl _,LapsOk.nil k⟩
 | true =>
  obtain⟨i,x,rfl,hx,_⟩:=xI hh
  simp only[Bool.true_eq_false,if_false,Int.toNat_natCast,m.get,hx,Option.map_some]
  have hfr:(rn ρ x).free=x.free:=rfl
  rw[hfr]
  cases hf:x.free with
  | true=>exact⟨_,_,if_pos rfl,if_pos rfl,m,rfl,h,Less.refl _,LapsOk.nil k⟩
  | false =>
   obtain⟨r,r',e1,e2,e3,e4⟩:=m.cancelP h.wf hx 1 (if cause<1 then 1 else cause)
   obtain⟨c1,c2,_,c4,c5⟩:=h.cancel hx (by omega) e1
   simp only[Bool.false_eq_true,if_false,e1,e2]
   exact⟨_,_,rfl,rfl,e3,by simp only[e4],c1,c2,c5⟩
theorem zcb (h:CI S k)(m:Sim ρ S S')(id:Int):∃r r',S.lapseX id=some r∧S'.lapseX id=some r'∧Sim ρ r.1 r'.1∧r'.2=r.2∧CI r.1 k∧Less S.τ r.1.τ∧LapsOk k r.2.1 r.2.2.1:=by
 unfold CX.lapseX
 rw[m.has]
 cases hh:S.σ.has id with
 | false=>exact⟨_,_,if_pos rfl,if_pos rfl,m,rfl,h,Less.refl _,LapsOk.nil k⟩
 | true =>
  obtain⟨i,x,rfl,hx,_⟩:=xI hh
  simp only[Bool.true_eq_false,if_false,Int.toNat_natCast,m.get,hx,Option.map_some]
  have hfr:(rn ρ x).own=x.own:=rfl
  rw[hfr]
  cases hf:x.own with
  | false=>exact⟨_,_,if_pos rfl,if_pos rfl,m,rfl,h,Less.refl _,LapsOk.nil k⟩
  | true =>
   obtain⟨r,r',e1,e2,e3,e4⟩:=m.cancelP h.wf hx 2 2
   obtain⟨c1,c2,_,c4,c5⟩:=h.cancel hx (by omega) e1
   simp only[Bool.true_eq_false,if_false,e1,e2]
   exact⟨_,_,rfl,rfl,e3,by simp only[e4],c1,c2,c5⟩
theorem zc3 (h:CI S k)(m:Sim ρ S S')(id:Int):∃r r',S.withoutP id=some r∧S'.withoutP id=some r'∧Sim ρ r.1 r'.1∧r'.2=r.2∧CI r.1 k∧Less S.τ r.1.τ:=by
 unfold CX.withoutP
 rw[m.room]
 by_cases hr:S.σ.room id=0
 ·obtain⟨i,up,rfl,hil,hup,_,hlen⟩:=xM hr
  simp only[hr,ne_eq,not_true_eq_false,if_false,h.wf.okAdd,(m.wf h.wf).okAdd,if_true,Int.toNat_natCast,m.get,hup,Option.map_some]
  refine⟨_,_,rfl,rfl,m.addP rfl _,by simp only[m.len],h.addP hup hlen rfl rfl,Less.refl _⟩
 ·rw[if_pos hr,if_pos hr]
  exact⟨_,_,rfl,rfl,m,rfl,h,Less.refl _⟩
theorem zcc (h:CI S k)(m:Sim ρ S S'){i:Nat}{up:One}(hup:S.σ.ones[i]?=some up){n:Nat}{y:One}(hy:S.σ.ones[n]?=some y):∃r r',S.beginP n i=some r∧S'.beginP n i=some r'∧Sim ρ r.1 r'.1∧r'.2=r.2∧CI r.1 k∧Less S.τ r.1.τ∧r.1.σ.ones.length=S.σ.ones.length∧LapsOk k r.2 []:=by
 unfold CX.beginP
 rw[if_pos (by omega),if_pos (by omega)]
 simp only[Int.toNat_natCast,m.get,hup,Option.map_some]
 have he:(rn ρ up).err=up.err:=rfl
 have hc:(rn ρ up).cause=up.cause:=rfl
 rw[he,hc]
 by_cases h0:up.err=0
 ·simp only[h0,if_true]
  exact⟨_,_,rfl,rfl,m,rfl,h,Less.refl _,rfl,LapsOk.nil k⟩
 ·obtain⟨r,r',e1,e2,e3,e4⟩:=m.cancelP h.wf hy up.err up.cause
  obtain⟨c1,c2,_,c4,c5⟩:=h.cancel hy h0 e1
  simp only[h0,if_false,e1,e2]
  exact⟨_,_,rfl,rfl,e3,by simp only[e4],c1,c2,c4,⟨c5.l,by simp,c5.w⟩⟩
end
end
section
def CX.offA (S:CX)(i:Nat)(x:Aft):CX:={ S with σ:={ S.σ with afts:=S.σ.afts.set i { x with over:=true },tree:=ye S.σ.tree fun k=>decide (k=x.node.toNat) } }
theorem WF.offA {S:CX}(h:WF S){i:Nat}{x:Aft}(hx:S.σ.afts[i]?=some x):WF (S.offA i x)∧S.unafterX i=some (S.offA i x,!x.over,0)∧S.σ.startP i=some ((S.offA i x).σ,((i:Int),x.prog)):=by
 obtain⟨k,h1,h2,h3,h4⟩:=h.who2 i x hx
 have hd:zfj S.σ.tree x.node=some (ye S.σ.tree fun j=>decide (j=k)):=by rw[h1];exact Ua h.tr h2
 have hil:=(List.getElem?_eq_some_iff.1 hx).1
 have hk:x.node.toNat=k:=by omega
 have hget:∀(j:Nat) (y:Aft),(S.offA i x).σ.afts[j]?=some y→∃z,S.σ.afts[j]?=some z∧y.node=z.node:=by
  intro j y hy
  have hy:(S.σ.afts.set i { x with over:=true })[j]?=some y:=hy
  by_cases e:i=j
  ·subst e
   rw[List.getElem?_set_self hil]at hy
   cases hy
   exact⟨x,hx,rfl⟩
  ·rw[List.getElem?_set_ne e]at hy
   exact⟨y,hy,rfl⟩
 have hfwd:∀(j:Nat) (z:Aft),S.σ.afts[j]?=some z→∃y,(S.offA i x).σ.afts[j]?=some y∧y.node=z.node:=by
  intro j z hz
  show ∃y,(S.σ.afts.set i { x with over:=true })[j]?=some y∧_
  by_cases e:i=j
  ·subst e
   rw[List.getElem?_set_self hil]
   rw[hx]at hz;cases hz
   exact⟨_,rfl,rfl⟩
  ·rw[List.getElem?_set_ne e]
   exact⟨z,hz,rfl⟩
 have htl:(S.offA i x).σ.tree.length=S.σ.tree.length:=yC _ _
 refine⟨⟨h.tr.kill _,⟨h.sz.1,?_⟩,?_,?_,?_,?_,?_,h.chs,h.tms,h.tlen⟩,?_,?_⟩
 ·show (S.σ.afts.set i _).length≤64
  rw[List.length_set];exact h.sz.2
 ·rw[htl]
  show _=S.σ.ones.length+(S.σ.afts.set i _).length
  rw[List.length_set];exact h.len
 ·intro j y hy
  rw[htl]
  exact h.who1 j y hy
 ·intro j y hy
  obtain⟨z,hz,hn⟩:=hget j y hy
  obtain⟨k',e1,e2,e3,e4⟩:=h.who2 j z hz
  refine⟨k',by rw[hn];exact e1,by rw[htl];exact e2,e3,?_⟩
  show zI (ye _ _) _=[]
  rw[wQ,e4];rfl
 ·intro k' hk'
  rw[htl]at hk'
  rcases h.cover k' hk' with⟨w,y,c1,c2,c3⟩ | ⟨w,y,c1,c2,c3⟩
  ·exact .inl ⟨w,y,c1,c2,c3⟩
  ·obtain⟨z,hz,hn⟩:=hfwd w y c2
   exact .inr ⟨w,z,c1,hz,by rw[hn];exact c3⟩
 ·intro w k' y n hy hyk hn
  have hn:(ye S.σ.tree fun k=>decide (k=x.node.toNat))[k']?=some n:=hn
  rw[y3]at hn
  cases e:S.σ.tree[k']? with
  | none=>rw[e]at hn;cases hn
  | some m =>
   rw[e]at hn;simp at hn;subst hn
   have hne:=h.not_aft (p:=w) hy hx
   have:¬k'=x.node.toNat:=by omega
   simp only[this,decide_false,Bool.not_false,Bool.and_true]
   exact h.live w k' y m hy hyk e
 ·unfold CX.unafterX
  rw[if_pos ⟨by omega,by omega⟩]
  simp only[Int.toNat_natCast,hx]
  rw[hd]
  simp only[CX.offA,hk]
 ·unfold Cs.startP
  rw[if_pos (by omega)]
  simp only[Int.toNat_natCast,hx]
  rw[hd]
  simp only[CX.offA,hk]
def stay (js:List Nat)(ov:Nat→Bool)(j:Nat):List Nat:=(List.range js.length).filter fun i=>decide (js[i]?=some j)&&!ov i
end
section
section
variable {ρ:Nat→Nat} {S S':CX} {k:Nat}
theorem YG (h:CI S k)(m:Sim ρ S S')(id:Int){a a':Nat}(ha:S.σ.room id=0→¬xd S a)(ha':S.σ.room id=0→¬xd S' a'):∃r r' ρ',S.cancelsP id a=some r∧S'.cancelsP id a'=some r'∧Sim ρ' r.1 r'.1∧r'.2=r.2∧CI r.1 k∧Less S.τ r.1.τ∧LapsOk k r.2.2.1 []:=by
 unfold CX.cancelsP
 rw[m.room]
 by_cases hr:S.σ.room id=0
 ·obtain⟨i,up,rfl,hil,hup,_,hlen⟩:=xM hr
  have h1:=h.addS (o:={ One.zero with when:=up.when,has:=up.has }) hup hlen rfl a
  have m1:=m.addS (ha hr) (ha' hr) { One.zero with when:=up.when,has:=up.has } up.node
  obtain⟨_,e1,_⟩:=h.wf.addS (o:={ One.zero with when:=up.when,has:=up.has }) hup hlen rfl a
  have hup1:(S.addS { One.zero with when:=up.when,has:=up.has } up.node a).σ.ones[i]?=some up:=by rw[e1,List.getElem?_append_left hil];exact hup
  have hy:∃y,(S.addS { One.zero with when:=up.when,has:=up.has } up.node a).σ.ones[S.σ.ones.length]?=some y:=⟨_,by rw[e1,List.getElem?_append_right (Nat.le_refl _),Nat.sub_self];rfl⟩
  obtain⟨y,hy⟩:=hy
  obtain⟨r,r',b1,b2,b3,b4,b5,b6,_,b8⟩:=zcc h1 m1 hup1 hy
  simp only[hr,ne_eq,not_true_eq_false,if_false,h.wf.okAdd,(m.wf h.wf).okAdd,if_true,Int.toNat_natCast,m.get,hup,Option.map_some,m.len]
  have w1:(rn ρ up).when=up.when:=rfl
  have w2:(rn ρ up).has=up.has:=rfl
  have w3:(rn ρ up).node=up.node:=rfl
  rw[w1,w2,w3,b1,b2]
  exact⟨_,_,_,rfl,rfl,b3,by simp only[b4],b5,b6,b8⟩
 ·rw[if_pos hr,if_pos hr]
  exact⟨_,_,ρ,rfl,rfl,m,rfl,h,Less.refl _,LapsOk.nil k⟩
theorem AO.offA (ao:AO S){i:Nat}{x:Aft}(wf:WF S)(hx:S.σ.afts[i]?=some x):AO (S.offA i x):=by
 obtain⟨k0,q1,q2,_⟩:=wf.who2 i x hx
 have hk:x.node.toNat=k0:=by omega
 intro j k y n hy hyk hn hl
 have hn':(ye S.σ.tree fun k=>decide (k=x.node.toNat))[k]?=some n:=hn
 rw[y3]at hn'
 cases e:S.σ.tree[k]? with
 | none=>rw[e]at hn';cases hn'
 | some m =>
  rw[e]at hn';simp at hn';subst hn'
  simp at hl
  have hy':(S.σ.afts.set i { x with over:=true })[j]?=some y:=hy
  rcases we hy' with⟨rfl,rfl,_⟩ | ⟨_,hy'⟩
  ·have:x.node=(k:Int):=hyk
   exfalso;apply hl.2;omega
  ·exact ao j k y m hy' hyk e hl.1
theorem CI.offA (h:CI S k){i:Nat}{x:Aft}(hx:S.σ.afts[i]?=some x):CI (S.offA i x) k:=⟨(h.wf.offA hx).1,h.ao.offA h.wf hx,h.t,h.tg,h.on,h.ch⟩
theorem Sim.offA (m:Sim ρ S S')(i:Nat)(x:Aft):Sim ρ (S.offA i x) (S'.offA i x):=by
 have h1:=(m.setTree (ye S.σ.tree fun k=>decide (k=x.node.toNat))).setAfts (S.σ.afts.set i { x with over:=true })
 have e:S'.offA i x={ (S'.setTree (ye S.σ.tree fun k=>decide (k=x.node.toNat)))with σ:={ (S'.setTree (ye S.σ.tree fun k=>decide (k=x.node.toNat))).σ with afts:=S.σ.afts.set i { x with over:=true } } }:=by
  simp only[CX.offA,CX.setTree,m.tree,m.afts]
 rw[e]
 exact h1
theorem zc4 (h:CI S k)(m:Sim ρ S S')(j:Int):∃r r',S.unafterX j=some r∧S'.unafterX j=some r'∧Sim ρ r.1 r'.1∧r'.2=r.2∧CI r.1 k∧Less S.τ r.1.τ:=by
 by_cases hj:0≤j∧j<(S.σ.afts.length:Int)
 ·obtain⟨i,rfl⟩:=Int.eq_ofNat_of_zero_le hj.1
  have hx:S.σ.afts[i]?=some S.σ.afts[i]:=List.getElem?_eq_getElem (by omega)
  generalize S.σ.afts[i]=x at hx
  have hx':S'.σ.afts[i]?=some x:=by rw[m.afts];exact hx
  obtain⟨_,e1,_⟩:=h.wf.offA hx
  obtain⟨_,e2,_⟩:=(m.wf h.wf).offA hx'
  exact⟨_,_,e1,e2,m.offA i x,rfl,h.offA hx,Less.refl _⟩
 ·refine⟨(S,false,4),(S',false,4),?_,?_,m,rfl,h,Less.refl _⟩
  ·unfold CX.unafterX;rw[if_neg hj]
  ·unfold CX.unafterX;rw[m.afts,if_neg hj]
theorem Sim.aft (m:Sim ρ S S')(up:One)(prog:Int):Sim ρ { S with σ:=S.σ.aft up prog } { S' with σ:=S'.σ.aft (rn ρ up) prog }:=by
 have h1:=m.reset (zL S.σ.tree up.node true).1 (S.σ.afts++[⟨(zL S.σ.tree up.node true).2.1,prog,false⟩]) (yN S.σ.who (zL S.σ.tree up.node true).2.1 (some (-(S.σ.afts.length:Int)-1)))
 have e:({ S' with σ:=S'.σ.aft (rn ρ up) prog }:CX)={ S' with σ:={ S'.σ with tree:=(zL S.σ.tree up.node true).1,afts:=S.σ.afts++[⟨(zL S.σ.tree up.node true).2.1,prog,false⟩],who:=yN S.σ.who (zL S.σ.tree up.node true).2.1 (some (-(S.σ.afts.length:Int)-1)) } }:=by
  have w3:(rn ρ up).node=up.node:=rfl
  simp only[Cs.aft,m.tree,m.afts,m.who,w3]
 rw[e]
 exact h1
theorem zf3 (h:CI S k)(m:Sim ρ S S')(id prog:Int):∃r r',S.afterX id prog=some r∧S'.afterX id prog=some r'∧Sim ρ r.1 r'.1∧r'.2=r.2∧CI r.1 k∧Less S.τ r.1.τ∧r.2.2.1.length≤1000:=by
 unfold CX.afterX
 rw[m.has]
 cases hh:S.σ.has id with
 | false=>exact⟨_,_,if_pos rfl,if_pos rfl,m,rfl,h,Less.refl _,by simp⟩
 | true =>
  simp only[Bool.true_eq_false,if_false,m.afts,m.tree]
  by_cases hp:prog<0
  ·simp only[hp,if_true];exact⟨_,_,rfl,rfl,m,rfl,h,Less.refl _,by simp⟩
  by_cases hl:64≤S.σ.afts.length
  ·simp only[hp,hl,if_true,if_false];exact⟨_,_,rfl,rfl,m,rfl,h,Less.refl _,by simp⟩
  obtain⟨i,up,rfl,hup,_⟩:=xI hh
  simp only[hp,hl,if_false,h.wf.tr.kok,if_true,Int.toNat_natCast,m.get,hup,Option.map_some]
  have hlen:S.σ.afts.length<64:=by omega
  have he:(rn ρ up).err=up.err:=rfl
  rw[he]
  have m1:=m.aft up prog
  obtain⟨w1,a1,_,_⟩:=h.wf.aft hup hlen prog
  have c1:CI ({ S with σ:=S.σ.aft up prog }:CX) k:=⟨w1,h.ao.aft h.wf hup hlen prog,h.t,h.tg,h.on,h.ch⟩
  by_cases h0:up.err=0
  ·simp only[h0,ne_eq,not_true_eq_false,if_false]
   exact⟨_,_,rfl,rfl,m1,rfl,c1,Less.refl _,by simp⟩
  ·simp only[h0,ne_eq,not_false_eq_true,if_true]
   obtain⟨x,hx⟩:∃x,(S.σ.aft up prog).afts[S.σ.afts.length]?=some x:=⟨⟨(S.σ.tree.length:Int),prog,false⟩,by rw[a1];simp⟩
   have hx':(S'.σ.aft (rn ρ up) prog).afts[S.σ.afts.length]?=some x:=by have:=m1.afts;simp only at this;rw[this];exact hx
   obtain⟨_,_,e1⟩:=w1.offA (S:=({ S with σ:=S.σ.aft up prog }:CX)) hx
   obtain⟨_,_,e2⟩:=(m1.wf w1).offA (S:=({ S' with σ:=S'.σ.aft (rn ρ up) prog }:CX)) hx'
   rw[e1,e2]
   exact⟨_,_,rfl,rfl,m1.offA S.σ.afts.length x,rfl,c1.offA hx,Less.refl _,by simp⟩
end
end
section
variable {F:Nat→Option AFn}
section
variable {L0 K:Lg} {b s u k:Nat} {now:Int} {σ ρ:Tms} {χ ψ:Nat→Ch}
theorem zeC {σ:Tms}{w:On}(hc:w.c=none){n d:Int}:∀(j:Nat) (w':On) (a:Nat),(σ.make w n d).1.ones[j]?=some w'→w'.c=some a→∃w,σ.ones[j]?=some w∧w.c=some a:=by
 intro j w' a h1 h2
 by_cases h0:(σ.make w n d).2.2=0
 ·rw[(zeD h0).2]at h1
  rcases zb3 h1 with⟨_,rfl⟩ | ⟨_,h1'⟩
  ·simp[hc]at h2
  ·exact⟨w',h1',h2⟩
 ·rw[(zck h0).1]at h1;exact⟨w',h1,h2⟩
theorem ziM {l:List Wk}{v:AV}{X:Lg}(h:(l=[]∧v=.sl none 0 0 0)∨∃q ex,v=.sl (some (q,0)) l.length l.length ex∧X q=some (.raw (.cells (yp l)))):SlV Wk.cells 5 X v l:=by
 rcases h with⟨rfl,rfl⟩ | ⟨q,ex,rfl,h⟩
 ·exact⟨none,0,0,rfl,.inl rfl⟩
 ·rw[YR]at h
  refine⟨some (q,0),l.length,ex,rfl,.inr ⟨q,0,zm Wk.cells l,rfl,.inl h,by rw[zV vI];omega,fun i x hi=>?_⟩⟩
  have:=wa (f:=Wk.cells) (k:=5) (fun _=>rfl) l i x hi
  simpa using this.1
end
end
section
variable {F:Nat→Option AFn}
theorem zf8 {σ:Tms}{w:On}{n d:Int}{m:Nat}(h:σ.ones.length≤m):(σ.make w n d).1.ones.length≤m+1:=by
 by_cases h0:(σ.make w n d).2.2=0
 ·rw[(zeD h0).2];simp;exact h
 ·rw[(zck h0).1];omega
section
variable {L0 K:Lg} {b s u k m x3:Nat} {now:Int} {σ ρ:Tms} {χ:Nat→Ch} {Q:AV→Lg→Prop} {kd n d:Int}
end
end
section
section
variable {ρ:Nat→Nat} {S S':CX} {k:Nat}
theorem CI.fineB (h:CI S k)(hk:k≤900000):S.τ.fineB=true:=by
 have h1:=h.tg.g.len
 have h2:=h.tg.g.seq
 have h3:=h.tg.g.pos
 have h4:=h.tg.n
 have h5:=h.tg.o
 unfold Tms.fineB
 simp
 omega
theorem ziQ (h:CI S k)(m:Sim ρ S S')(hk:k≤900000){n:Nat}{y:One}(hy:S.σ.ones[n]?=some y)(W:Int):∃S2 S2',S.armP n W=some S2∧S'.armP n W=some S2'∧Sim ρ S2 S2'∧CI S2 (k+2)∧S2.τ.ones.length≤S.τ.ones.length+1:=by
 obtain⟨mk,hmk⟩:∃mk,mk=S.τ.make ⟨4,(n:Int),none,0⟩ 0 W:=⟨_,rfl⟩
 have h2:mk.2.2=0:=by rw[hmk];exact Vf _ _ _
 have hf:=h.fineB hk
 have ht:=h.t
 have ht':=m.t
 cases e1:S.σ.t with
 | none=>rw[e1]at ht;cases ht
 | some s =>
  cases e2:S'.σ.t with
  | none=>rw[e1,e2]at ht';cases ht'
  | some s' =>
   unfold CX.armP
   rw[e1,e2]
   simp only
   rw[m.x,hf,if_pos rfl,if_pos rfl,←hmk,if_pos h2,if_pos h2,m.get,hy]
   have e3:(rn ρ y).timer=y.timer:=rfl
   refine⟨_,_,rfl,rfl,?_,?_,by show mk.1.ones.length≤_;rw[hmk];exact zf8 (Nat.le_refl _)⟩
   ·have:=((m.setX mk.1).setOne (w:=n) (x:=y) (y:={ y with timer:=mk.2.1 }) hy rfl)
    exact this
   ·have tg:=h.tg.make (w:=⟨4,(n:Int),none,0⟩) rfl 0 W
    rw[←hmk]at tg
    have hc:(zg8 (fun _=>Ch.tm) S.τ.ones.length .tm)=fun _=>Ch.tm:=by funext i;unfold zg8;split<;>rfl
    rw[hc]at tg
    have on:∀(j:Nat) (o:On),mk.1.ones[j]?=some o→o.c=none:=by
     intro j o ho
     cases hoc:o.c with
     | none=>rfl
     | some a =>
      rw[hmk]at ho
      obtain⟨w,hw,hwc⟩:=zeC (σ:=S.τ) (w:=⟨4,(n:Int),none,0⟩) rfl j o a ho hoc
      rw[h.on j w hw]at hwc;cases hwc
    have hl:mk.1.x.l.length≤1000000:=by have:=tg.g.len;omega
    have w:=h.wf.setT (k:=mk.2.1) hy hl on
    exact⟨w,h.ao,by show S.σ.t.isSome=true;exact h.t,tg,on,fun a=>(h.ch a).mono (by omega)⟩
theorem XO (h:CI S k)(m:Sim ρ S S')(hk:k≤900000)(id when now:Int){a a':Nat}(ha:S.σ.room id=0→¬xd S a)(ha':S.σ.room id=0→¬xd S' a'):∃r r' ρ',S.deadlineP id when now a=some r∧S'.deadlineP id when now a'=some r'∧Sim ρ' r.1 r'.1∧r'.2=r.2∧CI r.1 (k+2)∧LapsOk k r.2.2.1 []∧r.1.τ.ones.length≤S.τ.ones.length+1:=by
 by_cases hr:S.σ.room id=0
 rotate_left
 ·refine⟨(S,0,[],S.σ.room id),(S',0,[],S.σ.room id),ρ,?_,?_,m,rfl,h.mono (by omega),LapsOk.nil k,by simp⟩
  ·unfold CX.deadlineP;rw[if_pos hr]
  ·unfold CX.deadlineP;rw[m.room,if_pos hr]
 obtain⟨i,up,rfl,hil,hup,_,hlen⟩:=xM hr
 unfold CX.deadlineP
 rw[m.room,if_neg (fun h9=>h9 hr),if_neg (fun h9=>h9 hr)]
 simp only[Int.toNat_natCast,m.get,hup,Option.map_some]
 have w1:(rn ρ up).when=up.when:=rfl
 have w2:(rn ρ up).has=up.has:=rfl
 have w3:(rn ρ up).node=up.node:=rfl
 rw[w1,w2,w3]
 obtain⟨W,hW⟩:∃W,W=max (zM when 0) 0:=⟨_,rfl⟩
 rw[←hW]
 by_cases hc:up.has=true∧up.when≤W
 ·rw[if_pos hc,if_pos hc]
  obtain⟨r,r',ρ',e1,e2,e3,e4,e5,e6,e7⟩:=YG h m i ha ha'
  exact⟨r,r',ρ',e1,e2,e3,e4,e5.mono (by omega),e7,by rw[e6.ones];omega⟩
 rw[if_neg hc,if_neg hc,if_pos h.wf.okAdd,if_pos (m.wf h.wf).okAdd,m.len]
 have h1:=h.addS (o:={ One.zero with when:=W,has:=true,own:=true }) hup hlen rfl a
 have m1:=m.addS (ha hr) (ha' hr) { One.zero with when:=W,has:=true,own:=true } up.node
 obtain⟨_,e1,_⟩:=h.wf.addS (o:={ One.zero with when:=W,has:=true,own:=true }) hup hlen rfl a
 have hup1:(S.addS { One.zero with when:=W,has:=true,own:=true } up.node a).σ.ones[i]?=some up:=by rw[e1,List.getElem?_append_left hil];exact hup
 have hy:∃y,(S.addS { One.zero with when:=W,has:=true,own:=true } up.node a).σ.ones[S.σ.ones.length]?=some y:=⟨_,by rw[e1,List.getElem?_append_right (Nat.le_refl _),Nat.sub_self];rfl⟩
 obtain⟨y,hy⟩:=hy
 obtain⟨r,r',b1,b2,b3,b4,b5,b6,b7,b8⟩:=zcc h1 m1 hup1 hy
 have b9:r.1.τ.ones=S.τ.ones:=b6.ones
 rw[b1,b2]
 simp only[b4]
 have hy2:∃y2,r.1.σ.ones[S.σ.ones.length]?=some y2:=⟨_,List.getElem?_eq_getElem (by rw[b7,e1];simp)⟩
 obtain⟨y2,hy2⟩:=hy2
 by_cases hl:0<r.2.length
 ·rw[if_pos hl,if_pos hl]
  exact⟨_,_,_,rfl,rfl,b3,rfl,b5.mono (by omega),b8,by rw[b9];omega⟩
 rw[if_neg hl,if_neg hl]
 by_cases hn:W≤now
 ·rw[if_pos hn,if_pos hn]
  obtain⟨q,q',c1,c2,c3,c4⟩:=b3.cancelP b5.wf hy2 2 2
  obtain⟨d1,d2,_,_,d5⟩:=b5.cancel hy2 (by omega) c1
  rw[c1,c2]
  exact⟨_,_,_,rfl,rfl,c3,by simp only[c4],d1.mono (by omega),⟨d5.l,by simp,d5.w⟩,by rw[d2.ones,b9];omega⟩
 rw[if_neg hn,if_neg hn]
 obtain⟨S2,S2',c1,c2,c3,c4,c5⟩:=ziQ b5 b3 hk hy2 W
 rw[c1,c2]
 exact⟨_,_,_,rfl,rfl,c3,rfl,c4,LapsOk.nil k,by rw[b9]at c5;exact c5⟩
theorem CI.take (h:CI S k)(hk:k≤900000){x':Xs}{y:It}(hy:y∈S.τ.x.l)(hx:XG x' (k+1))(hz:∀z∈x'.l,z∈S.τ.x.l∨z.id=y.id):CI ({ S with τ:={ S.τ with x:=x' } }:CX) (k+1):=by
 have tg:=h.tg.take (now:=0) hy hx hz
 have hwf:WF ({ S with τ:={ S.τ with x:=x' } }:CX):=⟨h.wf.tr,h.wf.sz,h.wf.len,h.wf.who1,h.wf.who2,h.wf.cover,h.wf.live,h.wf.chs,h.wf.tms,by
  have h1:=hx.len
  show x'.l.length≤1000000
  omega⟩
 exact⟨hwf,h.ao,h.t,tg,h.on,fun a=>(h.ch a).mono (by omega)⟩
theorem zhA (h:CI S k)(m:Sim ρ S S'){a:Nat}(ha:xd S a){y:Ch}(hy:GoodS y (k+1))(hk:k≤900000):Sim ρ ({ S with χ:=y9 S.χ a y }:CX) ({ S' with χ:=y9 S'.χ (ρ a) y }:CX)∧CI ({ S with χ:=y9 S.χ a y }:CX) (k+1):=by
 refine⟨⟨m.s,m.t,m.x,fun b hb=>?_,m.i⟩,?_⟩
 ·have hb':xd S b:=hb
  simp only[y9]
  by_cases e:b=a
  ·subst e;simp
  ·have:ρ b≠ρ a:=fun h9=>e (m.i b a hb' ha h9)
   rw[if_neg this,if_neg e];exact m.c b hb'
 ·have hg:∀b,GoodS (y9 S.χ a y b) (k+1):=fun b=>by
   unfold y9
   split
   ·exact hy
   ·exact (h.ch b).mono (by omega)
  have hwf:WF ({ S with χ:=y9 S.χ a y }:CX):=⟨h.wf.tr,h.wf.sz,h.wf.len,h.wf.who1,h.wf.who2,h.wf.cover,h.wf.live,fun x hx b hb=>by
   have:=hg b
   have h1:=this.recvs
   have h2:=this.sends
   show ((y9 S.χ a y) b).recvs.length+((y9 S.χ a y) b).sends.length≤1000000
   rw[h2];simp;omega,h.wf.tms,h.wf.tlen⟩
  exact⟨hwf,h.ao,h.t,h.tg.mono (by omega),h.on,hg⟩
end
end
section
section
variable {S S':CX}
theorem yY {S S':CX}(h:S'.σ.names=S.σ.names){a:Nat}(u:xd S' a):xd S a:=by
 obtain⟨x,hx,hc⟩:=u
 have h1:(x.c,x.node)∈S'.σ.names:=List.mem_map.2 ⟨x,hx,rfl⟩
 rw[h]at h1
 obtain⟨y,hy,he⟩:=List.mem_map.1 h1
 simp only[Prod.mk.injEq]at he
 exact⟨y,hy,by rw[he.1];exact hc⟩
theorem ve (wf:WF S){i:Nat}{x:One}(hx:S.σ.ones[i]?=some x){err cause:Int}(herr:err≠0){r:Zq}(hr:S.cancelP 200 i err cause=some r):r.1.σ.names=S.σ.names:=by
 obtain⟨k,hk,_,_⟩:=wf.who1 i x hx
 by_cases he:x.free=true∨x.err≠0
 ·rw[yK hx he 199]at hr
  cases hr;rfl
 ·simp only[not_or,Bool.not_eq_true,ne_eq,Decidable.not_not]at he
  rw[wf.cancelP hx hk he.1 he.2]at hr
  simp only[Option.some.injEq]at hr
  obtain⟨_,_,_,_,_,h6,_⟩:=wf.walk hx hk he.1 he.2 herr hr
  apply List.ext_getElem?
  intro j
  simp only[Cs.names,List.getElem?_map,h6]
  cases S.σ.ones[j]? with
  | none=>rfl
  | some y=>simp only[Option.map_some];split<;>rfl
def zdF (S S1:CX)(a:Nat):Prop:=∀x,xd S1 x→xd S x∨x=a
theorem zdF.same {S S1:CX}(h:S1.σ.names=S.σ.names)(a:Nat):zdF S S1 a:=fun x hx=>.inl (yY h hx)
theorem zdF.addS (S:CX)(o:One)(p:Int)(a:Nat):zdF S (S.addS o p a) a:=by
 rintro x ⟨z,hz,hzx⟩
 have hz':z∈S.σ.ones++[{ ({ o with c:=some a }:One)with node:=(zL S.σ.tree p (!o.free)).2.1,timer:=-1 }]:=hz
 rcases List.mem_append.1 hz' with h1 | h1
 ·exact .inl ⟨z,h1,hzx⟩
 ·simp at h1;subst h1;simp at hzx;exact .inr hzx.symm
theorem zdF.then {S S1 S2:CX}{a:Nat}(h:zdF S S1 a)(k:S2.σ.names=S1.σ.names):zdF S S2 a:=fun x hx=>h x (yY k hx)
theorem ZL (wf:WF S){i n:Nat}{up y:One}(hup:S.σ.ones[i]?=some up)(hy:S.σ.ones[n]?=some y){r:CX×List Lap}(hr:S.beginP n i=some r):r.1.σ.names=S.σ.names∧WF r.1∧r.1.σ.ones.length=S.σ.ones.length:=by
 unfold CX.beginP at hr
 rw[if_pos (by omega)]at hr
 simp only[Int.toNat_natCast,hup]at hr
 by_cases h0:up.err=0
 ·simp only[h0,if_true,Option.some.injEq]at hr
  subst hr;exact⟨rfl,wf,rfl⟩
 ·simp only[h0,if_false]at hr
  cases e:S.cancelP 200 n up.err up.cause with
  | none=>rw[e]at hr;cases hr
  | some q =>
   rw[e]at hr
   simp only[Option.some.injEq]at hr
   subst hr
   have h1:=ve wf hy h0 e
   have:q.1.σ.ones.length=S.σ.ones.length:=by simpa[Cs.names]using congrArg List.length h1
   refine⟨h1,?_,this⟩
   obtain⟨k,hk,_,_⟩:=wf.who1 n y hy
   by_cases he:y.free=true∨y.err≠0
   ·rw[yK hy he 199]at e
    cases e;exact wf
   ·simp only[not_or,Bool.not_eq_true,ne_eq,Decidable.not_not]at he
    rw[wf.cancelP hy hk he.1 he.2]at e
    simp only[Option.some.injEq]at e
    exact (wf.walk hy hk he.1 he.2 h0 e).1
theorem ZK (wf:WF S){id:Int}{a:Nat}{r:zcG}(hr:S.cancelsP id a=some r):zdF S r.1 a∧(S.σ.room id≠0→r.1=S):=by
 unfold CX.cancelsP at hr
 by_cases h0:S.σ.room id=0
 ·obtain⟨i,up,rfl,hil,hup,_,hlen⟩:=xM h0
  simp only[h0,ne_eq,not_true_eq_false,if_false,wf.okAdd,if_true,Int.toNat_natCast,hup]at hr
  obtain⟨w,e1,_⟩:=wf.addS (o:={ One.zero with when:=up.when,has:=up.has }) hup hlen rfl a
  cases e:(S.addS { One.zero with when:=up.when,has:=up.has } up.node a).beginP S.σ.ones.length i with
  | none=>rw[e]at hr;cases hr
  | some q =>
   rw[e]at hr
   simp only[Option.some.injEq]at hr
   subst hr
   have:=ZL w (i:=i) (n:=S.σ.ones.length) (by rw[e1,List.getElem?_append_left hil];exact hup) (by rw[e1,List.getElem?_append_right (Nat.le_refl _),Nat.sub_self];rfl) e
   exact⟨(zdF.addS S _ _ a).then this.1,fun h9=>absurd h0 h9⟩
 ·rw[if_pos h0]at hr
  simp only[Option.some.injEq]at hr
  subst hr
  exact⟨zdF.same rfl a,fun _=>rfl⟩
theorem XS (wf:WF S){id:Int}{r:CX×Int×Int}(hr:S.withoutP id=some r)(a:Nat):∀x,xd r.1 x→xd S x:=by
 unfold CX.withoutP at hr
 by_cases h0:S.σ.room id=0
 ·obtain⟨i,up,rfl,hil,hup,_,hlen⟩:=xM h0
  simp only[h0,ne_eq,not_true_eq_false,if_false,wf.okAdd,if_true,Int.toNat_natCast,hup,Option.some.injEq]at hr
  subst hr
  rintro x ⟨z,hz,hzx⟩
  have hz':z∈S.σ.ones++[{ ({ One.zero with free:=true }:One)with node:=(zL S.σ.tree up.node (!true)).2.1,timer:=-1 }]:=hz
  rcases List.mem_append.1 hz' with h1 | h1
  ·exact⟨z,h1,hzx⟩
  ·simp at h1;subst h1;cases hzx
 ·rw[if_pos h0]at hr
  simp only[Option.some.injEq]at hr
  subst hr
  exact fun x h=>h
theorem Yk (wf:WF S){id cause:Int}{r:CX×List Lap×List (Int×Int)×Int}(hr:S.cancelX id cause=some r):r.1.σ.names=S.σ.names:=by
 unfold CX.cancelX at hr
 cases hh:S.σ.has id with
 | false=>rw[if_pos hh]at hr;simp only[Option.some.injEq]at hr;subst hr;rfl
 | true =>
  obtain⟨i,x,rfl,hx,_⟩:=xI hh
  rw[if_neg (by rw[hh];simp)]at hr
  simp only[Int.toNat_natCast,hx]at hr
  cases hf:x.free with
  | true=>rw[if_pos hf]at hr;simp only[Option.some.injEq]at hr;subst hr;rfl
  | false =>
   rw[if_neg (by rw[hf];simp)]at hr
   cases e:S.cancelP 200 i 1 (if cause<1 then 1 else cause)with
   | none=>rw[e]at hr;cases hr
   | some q=>rw[e]at hr;simp only[Option.some.injEq]at hr;subst hr;exact ve wf hx (by omega) e
theorem vd (wf:WF S){id:Int}{r:CX×List Lap×List (Int×Int)×Int}(hr:S.lapseX id=some r):r.1.σ.names=S.σ.names:=by
 unfold CX.lapseX at hr
 cases hh:S.σ.has id with
 | false=>rw[if_pos hh]at hr;simp only[Option.some.injEq]at hr;subst hr;rfl
 | true =>
  obtain⟨i,x,rfl,hx,_⟩:=xI hh
  rw[if_neg (by rw[hh];simp)]at hr
  simp only[Int.toNat_natCast,hx]at hr
  cases hf:x.own with
  | false=>rw[if_pos hf]at hr;simp only[Option.some.injEq]at hr;subst hr;rfl
  | true =>
   rw[if_neg (by rw[hf];simp)]at hr
   cases e:S.cancelP 200 i 2 2 with
   | none=>rw[e]at hr;cases hr
   | some q=>rw[e]at hr;simp only[Option.some.injEq]at hr;subst hr;exact ve wf hx (by omega) e
theorem Yj (wf:WF S){j:Int}{r:CX×Bool×Int}(hr:S.unafterX j=some r):r.1.σ.names=S.σ.names:=by
 by_cases hj:0≤j∧j<(S.σ.afts.length:Int)
 ·obtain⟨i,rfl⟩:=Int.eq_ofNat_of_zero_le hj.1
  have hx:S.σ.afts[i]?=some S.σ.afts[i]:=List.getElem?_eq_getElem (by omega)
  generalize S.σ.afts[i]=x at hx
  rw[(wf.offA hx).2.1]at hr
  simp only[Option.some.injEq]at hr
  subst hr;rfl
 ·unfold CX.unafterX at hr
  rw[if_neg hj]at hr
  simp only[Option.some.injEq]at hr
  subst hr;rfl
theorem XV (wf:WF S){id prog:Int}{r:CX×Int×List (Int×Int)×Int}(hr:S.afterX id prog=some r):r.1.σ.names=S.σ.names:=by
 unfold CX.afterX at hr
 cases hh:S.σ.has id with
 | false=>rw[if_pos hh]at hr;simp only[Option.some.injEq]at hr;subst hr;rfl
 | true =>
  rw[if_neg (by rw[hh];simp)]at hr
  by_cases hp:prog<0
  ·rw[if_pos hp]at hr;simp only[Option.some.injEq]at hr;subst hr;rfl
  rw[if_neg hp]at hr
  by_cases hl:64≤S.σ.afts.length
  ·rw[if_pos hl]at hr;simp only[Option.some.injEq]at hr;subst hr;rfl
  rw[if_neg hl,if_pos wf.tr.kok]at hr
  obtain⟨i,up,rfl,hup,_⟩:=xI hh
  simp only[Int.toNat_natCast,hup]at hr
  by_cases h0:up.err=0
  ·simp only[h0,ne_eq,not_true_eq_false,if_false,Option.some.injEq]at hr
   subst hr;rfl
  ·simp only[h0,ne_eq,not_false_eq_true,if_true]at hr
   obtain⟨w1,a1,_,_⟩:=wf.aft hup (by omega) prog
   have hx:(S.σ.aft up prog).afts[S.σ.afts.length]?=some ⟨(S.σ.tree.length:Int),prog,false⟩:=by rw[a1];simp
   obtain⟨_,_,e1⟩:=w1.offA (S:=({ S with σ:=S.σ.aft up prog }:CX)) hx
   simp only at e1
   rw[e1]at hr
   simp only[Option.some.injEq]at hr
   subst hr;rfl
theorem zey {n:Nat}{W:Int}{S2:CX}(h:S.armP n W=some S2):S2.σ.names=S.σ.names:=by
 unfold CX.armP at h
 split at h
 ·cases h;rfl
 ·split at h
  ·split at h
   ·split at h
    ·cases h
    ·rename_i o ho
     cases h
     exact w8 (S:=S) ho rfl rfl
   ·cases h;rfl
  ·cases h
theorem YY (wf:WF S){id when now:Int}{a:Nat}{r:zcG}(hr:S.deadlineP id when now a=some r):zdF S r.1 a∧(S.σ.room id≠0→r.1=S):=by
 by_cases h0:S.σ.room id=0
 rotate_left
 ·unfold CX.deadlineP at hr
  rw[if_pos h0]at hr
  simp only[Option.some.injEq]at hr
  subst hr
  exact⟨zdF.same rfl a,fun _=>rfl⟩
 refine⟨?_,fun h9=>absurd h0 h9⟩
 obtain⟨i,up,rfl,hil,hup,_,hlen⟩:=xM h0
 unfold CX.deadlineP at hr
 rw[if_neg (fun h9=>h9 h0)]at hr
 simp only[Int.toNat_natCast,hup]at hr
 obtain⟨W,hW⟩:∃W,W=max (zM when 0) 0:=⟨_,rfl⟩
 rw[←hW]at hr
 by_cases hc:up.has=true∧up.when≤W
 ·rw[if_pos hc]at hr
  exact (ZK wf hr).1
 rw[if_neg hc,if_pos wf.okAdd]at hr
 obtain⟨w,e1,_⟩:=wf.addS (o:={ One.zero with when:=W,has:=true,own:=true }) hup hlen rfl a
 cases e:(S.addS { One.zero with when:=W,has:=true,own:=true } up.node a).beginP S.σ.ones.length i with
 | none=>rw[e]at hr;cases hr
 | some q =>
  rw[e]at hr
  simp only at hr
  obtain⟨b1,b2,b3⟩:=ZL w (i:=i) (n:=S.σ.ones.length) (by rw[e1,List.getElem?_append_left hil];exact hup) (by rw[e1,List.getElem?_append_right (Nat.le_refl _),Nat.sub_self];rfl) e
  have hN:=(zdF.addS S { One.zero with when:=W,has:=true,own:=true } up.node a).then b1
  split at hr
  ·simp only[Option.some.injEq]at hr
   subst hr;exact hN
  ·split at hr
   ·have hy2:∃y2,q.1.σ.ones[S.σ.ones.length]?=some y2:=⟨_,List.getElem?_eq_getElem (by rw[b3,e1];simp)⟩
    obtain⟨y2,hy2⟩:=hy2
    cases e3:q.1.cancelP 200 S.σ.ones.length 2 2 with
    | none=>rw[e3]at hr;cases hr
    | some q2 =>
     rw[e3]at hr
     simp only[Option.some.injEq]at hr
     subst hr
     exact hN.then (ve b2 hy2 (by omega) e3)
   ·cases e3:q.1.armP S.σ.ones.length W with
    | none=>rw[e3]at hr;cases hr
    | some q2 =>
     rw[e3]at hr
     simp only[Option.some.injEq]at hr
     subst hr
     exact hN.then (zey e3)
end
end
section
section
variable {S S':CX}
theorem Xj (wf:WF S){i:Nat}{x:One}(hx:S.σ.ones[i]?=some x){err cause:Int}(herr:err≠0){r:Zq}(hr:S.cancelP 200 i err cause=some r):r.1.σ.t=S.σ.t:=by
 obtain⟨k,hk,_,_⟩:=wf.who1 i x hx
 by_cases he:x.free=true∨x.err≠0
 ·rw[yK hx he 199]at hr
  cases hr;rfl
 ·simp only[not_or,Bool.not_eq_true,ne_eq,Decidable.not_not]at he
  rw[wf.cancelP hx hk he.1 he.2]at hr
  simp only[Option.some.injEq]at hr
  exact (wf.walk hx hk he.1 he.2 herr hr).2.2.1
theorem zdY (wf:WF S){i n:Nat}{up y:One}(hup:S.σ.ones[i]?=some up)(hy:S.σ.ones[n]?=some y){r:CX×List Lap}(hr:S.beginP n i=some r):r.1.σ.t=S.σ.t:=by
 unfold CX.beginP at hr
 rw[if_pos (by omega)]at hr
 simp only[Int.toNat_natCast,hup]at hr
 by_cases h0:up.err=0
 ·simp only[h0,if_true,Option.some.injEq]at hr
  subst hr;rfl
 ·simp only[h0,if_false]at hr
  cases e:S.cancelP 200 n up.err up.cause with
  | none=>rw[e]at hr;cases hr
  | some q =>
   rw[e]at hr
   simp only[Option.some.injEq]at hr
   subst hr
   exact Xj wf hy h0 e
theorem UJ (wf:WF S){id:Int}{a:Nat}{r:zcG}(hr:S.cancelsP id a=some r):r.1.σ.t=S.σ.t:=by
 unfold CX.cancelsP at hr
 by_cases h0:S.σ.room id=0
 ·obtain⟨i,up,rfl,hil,hup,_,hlen⟩:=xM h0
  simp only[h0,ne_eq,not_true_eq_false,if_false,wf.okAdd,if_true,Int.toNat_natCast,hup]at hr
  obtain⟨w,e1,_⟩:=wf.addS (o:={ One.zero with when:=up.when,has:=up.has }) hup hlen rfl a
  cases e:(S.addS { One.zero with when:=up.when,has:=up.has } up.node a).beginP S.σ.ones.length i with
  | none=>rw[e]at hr;cases hr
  | some q =>
   rw[e]at hr
   simp only[Option.some.injEq]at hr
   subst hr
   exact zdY w (i:=i) (n:=S.σ.ones.length) (by rw[e1,List.getElem?_append_left hil];exact hup) (by rw[e1,List.getElem?_append_right (Nat.le_refl _),Nat.sub_self];rfl) e
 ·rw[if_pos h0]at hr
  simp only[Option.some.injEq]at hr
  subst hr;rfl
theorem zdV (wf:WF S){id:Int}{r:CX×Int×Int}(hr:S.withoutP id=some r):r.1.σ.t=S.σ.t:=by
 unfold CX.withoutP at hr
 by_cases h0:S.σ.room id=0
 ·obtain⟨i,up,rfl,hil,hup,_,hlen⟩:=xM h0
  simp only[h0,ne_eq,not_true_eq_false,if_false,wf.okAdd,if_true,Int.toNat_natCast,hup,Option.some.injEq]at hr
  subst hr;rfl
 ·rw[if_pos h0]at hr
  simp only[Option.some.injEq]at hr
  subst hr;rfl
theorem zdX (wf:WF S){id cause:Int}{r:CX×List Lap×List (Int×Int)×Int}(hr:S.cancelX id cause=some r):r.1.σ.t=S.σ.t:=by
 unfold CX.cancelX at hr
 cases hh:S.σ.has id with
 | false=>rw[if_pos hh]at hr;simp only[Option.some.injEq]at hr;subst hr;rfl
 | true =>
  obtain⟨i,x,rfl,hx,_⟩:=xI hh
  rw[if_neg (by rw[hh];simp)]at hr
  simp only[Int.toNat_natCast,hx]at hr
  cases hf:x.free with
  | true=>rw[if_pos hf]at hr;simp only[Option.some.injEq]at hr;subst hr;rfl
  | false =>
   rw[if_neg (by rw[hf];simp)]at hr
   cases e:S.cancelP 200 i 1 (if cause<1 then 1 else cause)with
   | none=>rw[e]at hr;cases hr
   | some q=>rw[e]at hr;simp only[Option.some.injEq]at hr;subst hr;exact Xj wf hx (by omega) e
theorem zbN (wf:WF S){id:Int}{r:CX×List Lap×List (Int×Int)×Int}(hr:S.lapseX id=some r):r.1.σ.t=S.σ.t:=by
 unfold CX.lapseX at hr
 cases hh:S.σ.has id with
 | false=>rw[if_pos hh]at hr;simp only[Option.some.injEq]at hr;subst hr;rfl
 | true =>
  obtain⟨i,x,rfl,hx,_⟩:=xI hh
  rw[if_neg (by rw[hh];simp)]at hr
  simp only[Int.toNat_natCast,hx]at hr
  cases hf:x.own with
  | false=>rw[if_pos hf]at hr;simp only[Option.some.injEq]at hr;subst hr;rfl
  | true =>
   rw[if_neg (by rw[hf];simp)]at hr
   cases e:S.cancelP 200 i 2 2 with
   | none=>rw[e]at hr;cases hr
   | some q=>rw[e]at hr;simp only[Option.some.injEq]at hr;subst hr;exact Xj wf hx (by omega) e
theorem zdW (wf:WF S){j:Int}{r:CX×Bool×Int}(hr:S.unafterX j=some r):r.1.σ.t=S.σ.t:=by
 by_cases hj:0≤j∧j<(S.σ.afts.length:Int)
 ·obtain⟨i,rfl⟩:=Int.eq_ofNat_of_zero_le hj.1
  have hx:S.σ.afts[i]?=some S.σ.afts[i]:=List.getElem?_eq_getElem (by omega)
  generalize S.σ.afts[i]=x at hx
  rw[(wf.offA hx).2.1]at hr
  simp only[Option.some.injEq]at hr
  subst hr;rfl
 ·unfold CX.unafterX at hr
  rw[if_neg hj]at hr
  simp only[Option.some.injEq]at hr
  subst hr;rfl
theorem zhe (wf:WF S){id prog:Int}{r:CX×Int×List (Int×Int)×Int}(hr:S.afterX id prog=some r):r.1.σ.t=S.σ.t:=by
 unfold CX.afterX at hr
 cases hh:S.σ.has id with
 | false=>rw[if_pos hh]at hr;simp only[Option.some.injEq]at hr;subst hr;rfl
 | true =>
  rw[if_neg (by rw[hh];simp)]at hr
  by_cases hp:prog<0
  ·rw[if_pos hp]at hr;simp only[Option.some.injEq]at hr;subst hr;rfl
  rw[if_neg hp]at hr
  by_cases hl:64≤S.σ.afts.length
  ·rw[if_pos hl]at hr;simp only[Option.some.injEq]at hr;subst hr;rfl
  rw[if_neg hl,if_pos wf.tr.kok]at hr
  obtain⟨i,up,rfl,hup,_⟩:=xI hh
  simp only[Int.toNat_natCast,hup]at hr
  by_cases h0:up.err=0
  ·simp only[h0,ne_eq,not_true_eq_false,if_false,Option.some.injEq]at hr
   subst hr;rfl
  ·simp only[h0,ne_eq,not_false_eq_true,if_true]at hr
   obtain⟨w1,a1,_,_⟩:=wf.aft hup (by omega) prog
   have hx:(S.σ.aft up prog).afts[S.σ.afts.length]?=some ⟨(S.σ.tree.length:Int),prog,false⟩:=by rw[a1];simp
   obtain⟨_,_,e1⟩:=w1.offA (S:=({ S with σ:=S.σ.aft up prog }:CX)) hx
   simp only at e1
   rw[e1]at hr
   simp only[Option.some.injEq]at hr
   subst hr;rfl
theorem t_arm {n:Nat}{W:Int}{S2:CX}(h:S.armP n W=some S2):S2.σ.t=S.σ.t:=by
 unfold CX.armP at h
 split at h
 ·cases h;rfl
 ·split at h
  ·split at h
   ·split at h
    ·cases h
    ·cases h;rfl
   ·cases h;rfl
  ·cases h
theorem zcP (wf:WF S){id when now:Int}{a:Nat}{r:zcG}(hr:S.deadlineP id when now a=some r):r.1.σ.t=S.σ.t:=by
 by_cases h0:S.σ.room id=0
 rotate_left
 ·unfold CX.deadlineP at hr
  rw[if_pos h0]at hr
  simp only[Option.some.injEq]at hr
  subst hr
  rfl
 obtain⟨i,up,rfl,hil,hup,_,hlen⟩:=xM h0
 unfold CX.deadlineP at hr
 rw[if_neg (fun h9=>h9 h0)]at hr
 simp only[Int.toNat_natCast,hup]at hr
 obtain⟨W,hW⟩:∃W,W=max (zM when 0) 0:=⟨_,rfl⟩
 rw[←hW]at hr
 by_cases hc:up.has=true∧up.when≤W
 ·rw[if_pos hc]at hr
  exact UJ wf hr
 rw[if_neg hc,if_pos wf.okAdd]at hr
 obtain⟨w,e1,_⟩:=wf.addS (o:={ One.zero with when:=W,has:=true,own:=true }) hup hlen rfl a
 cases e:(S.addS { One.zero with when:=W,has:=true,own:=true } up.node a).beginP S.σ.ones.length i with
 | none=>rw[e]at hr;cases hr
 | some q =>
  rw[e]at hr
  simp only at hr
  obtain⟨b1,b2,b3⟩:=ZL w (i:=i) (n:=S.σ.ones.length) (by rw[e1,List.getElem?_append_left hil];exact hup) (by rw[e1,List.getElem?_append_right (Nat.le_refl _),Nat.sub_self];rfl) e
  have hN:q.1.σ.t=S.σ.t:=zdY w (i:=i) (n:=S.σ.ones.length) (by rw[e1,List.getElem?_append_left hil];exact hup) (by rw[e1,List.getElem?_append_right (Nat.le_refl _),Nat.sub_self];rfl) e
  split at hr
  ·simp only[Option.some.injEq]at hr
   subst hr;exact hN
  ·split at hr
   ·have hy2:∃y2,q.1.σ.ones[S.σ.ones.length]?=some y2:=⟨_,List.getElem?_eq_getElem (by rw[b3,e1];simp)⟩
    obtain⟨y2,hy2⟩:=hy2
    cases e3:q.1.cancelP 200 S.σ.ones.length 2 2 with
    | none=>rw[e3]at hr;cases hr
    | some q2 =>
     rw[e3]at hr
     simp only[Option.some.injEq]at hr
     subst hr
     exact (Xj b2 hy2 (by omega) e3).trans hN
   ·cases e3:q.1.armP S.σ.ones.length W with
    | none=>rw[e3]at hr;cases hr
    | some q2 =>
     rw[e3]at hr
     simp only[Option.some.injEq]at hr
     subst hr
     exact (t_arm e3).trans hN
end
end
end Go.AM
