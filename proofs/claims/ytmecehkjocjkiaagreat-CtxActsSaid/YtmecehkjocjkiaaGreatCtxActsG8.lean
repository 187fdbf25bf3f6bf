/- The texts LawCtxActsA, LawCtxActsB, LawCtxActsC, LawCtxActsD, LawCtxActsE, LawCtxActsF, LawCtxActsG of a proof of CtxActs, merged. -/
import Derived.Test.YtmecehkjocjkiaaGreatCtxActsG7
set_option linter.unusedVariables false
set_option linter.unusedSimpArgs false
namespace Go.AM
section
variable {F:Nat→Option AFn}
def zbw (K:Lg)(v:AV)(laps:List Lap):Prop:=∃ps:List (Lap×AV),ps.map (·.1)=laps∧SlV zaD 4 K v ps∧∀p∈ps,SlV Wk.cells 5 K p.2 p.1.wakes
theorem SlV.of_G {α:Type}{f:α→List AV}{z:Nat}{K:Lg}{v:AV}{l:List α}(h:SlG f z K v l):SlV f z K v l:=by
 obtain⟨a,cap,ex,rfl,_,_,h1⟩:=h
 refine⟨a,cap,ex,rfl,?_⟩
 rcases h1 with⟨h1,_⟩ | h1
 ·exact .inl h1
 ·exact .inr h1
theorem zdD.laps {K:Lg}{v1 v2:AV}{laps:List Lap}{sts:List (Int×Int)}(h:zdD K v1 v2 laps sts):zbw K v1 laps∧SlV stc 2 K v2 sts:=by
 obtain⟨ps,h1,h2,h3,h4⟩:=h
 exact⟨⟨ps,h1,.of_G (yy zcm h2),fun p hp=>.of_G (OSe.slG (fun _=>rfl) (h4 p hp))⟩,.of_G (yy zaO h3)⟩
theorem Us.laps {L0 K:Lg}{v1 v2:AV}{laps:List Lap}{sts:List (Int×Int)}(h:Us L0 K v1 v2 laps sts):zbw K v1 laps∧SlV stc 2 K v2 sts:=by
 obtain⟨ps,h1,h2⟩:=h
 refine⟨⟨ps,h1,.of_G (yy zcm h2.o1),fun p hp=>ziM ?_⟩,.of_G (yy zaO h2.o2)⟩
 rcases (h2.ins p hp).1 with⟨e1,e2⟩ | ⟨b,ex,e1,e2⟩
 ·exact .inl ⟨e1,e2⟩
 ·exact .inr ⟨b,ex,e1,e2⟩
theorem zbw.mono {K K':Lg}{v:AV}{laps:List Lap}(h:zbw K v laps)(e:∀b x,K b=some (.raw x)→K' b=some (.raw x)):zbw K' v laps:=by
 have key:∀{α:Type} {f:α→List AV} {z:Nat} {v:AV} {l:List α},SlV f z K v l→SlV f z K' v l:=by
  intro α f z v l h
  obtain⟨a,cap,ex,h1,h2⟩:=h
  refine⟨a,cap,ex,h1,?_⟩
  rcases h2 with h2 | ⟨b,off,cs,h2,h3,h4⟩
  ·exact .inl h2
  ·exact .inr ⟨b,off,cs,h2,h3.imp (e _ _) (e _ _),h4⟩
 obtain⟨ps,h1,h2,h3⟩:=h
 exact⟨ps,h1,key h2,fun p hp=>key (h3 p hp)⟩
theorem SlV.monoR {α:Type}{f:α→List AV}{z:Nat}{K K':Lg}{v:AV}{l:List α}(h:SlV f z K v l)(e:∀b x,K b=some (.raw x)→K' b=some (.raw x)):SlV f z K' v l:=by
 obtain⟨a,cap,ex,h1,h2⟩:=h
 refine⟨a,cap,ex,h1,?_⟩
 rcases h2 with h2 | ⟨b,off,cs,h2,h3,h4⟩
 ·exact .inl h2
 ·exact .inr ⟨b,off,cs,h2,h3.imp (e _ _) (e _ _),h4⟩
theorem wP (hf:H_f203 F){K:Lg}{a b:AV}{laps:List Lap}{sts:List (Int×Int)}{k:Nat}(ha:zbw K a laps)(hb:zbw K b laps)(ok:LapsOk k laps sts)(hk:k≤1000000):zd F k_f203 [a,b] K fun v K'=>v=.b true∧K'=K:=by
 refine zr ?_
 intro Q hQ
 obtain⟨ps,hp1,hp2,hp3⟩:=ha
 obtain⟨qs,hq1,hq2,hq3⟩:=hb
 have hpl:ps.length=laps.length:=by rw[←hp1,List.length_map]
 have hql:qs.length=laps.length:=by rw[←hq1,List.length_map]
 have hll:=ok.l
 apply r_f203 hf.code
 generalize hE:zJ [a,b] 0=E
 have e0:E 0=a:=by rw[←hE];simp[zJ]
 have e1:E 1=b:=by rw[←hE];simp[zJ]
 clear hE
 have hlenA:=fun X k=>hp2.len (F:=F) X k
 have hlenB:=fun X k=>hq2.len (F:=F) X k
 unfold D_f203_1 D_f203_2
 have p0:(Env.put E 4 (.b false)) 0=a:=by simp[e0]
 have p1:(Env.put E 4 (.b false)) 1=b:=by simp[e1]
 generalize Env.put E 4 (.b false)=E1 at p0 p1
 have hne:¬((ps.length:Int)≠(qs.length:Int)):=by omega
 simp only[zf,p0,p1,hlenA,hlenB,w7]
 rw[decide_eq_false hne]
 simp only[zB]
 unfold D_f203_5 D_f203_7
 obtain⟨I,hI⟩:∃I:Nat→Env→Lg→Prop,I=fun n E K'=>∃i:Nat,n+i=ps.length∧E 0=a∧E 1=b∧E 5=.i .i64 i∧K'=K:=⟨_,rfl⟩
 refine zQ I ps.length ?_ ?_
 ·rw[hI];exact⟨0,by omega,by simp[p0],by simp[p1],by simp,rfl⟩
 intro n E t K' hi
 rw[hI]at hi
 obtain⟨i,hm,e0,e1,e5,rfl⟩:=hi
 unfold D_f203_8
 rw[e0,e5]
 simp only[zf,hlenA,y0,zR]
 refine⟨fun hlt=>?_,fun hnl=>?_⟩
 rotate_left
 ·unfold D_f203_4
  exact⟨K',zu.refl _,hQ _ _ ⟨rfl,rfl⟩⟩
 unfold D_f203_12
 rw[e0,e1,e5]
 have hil:i<ps.length:=by omega
 have hx:ps[i]?=some ps[i]:=List.getElem?_eq_getElem hil
 have hy:qs[i]?=some (qs[i]'(by omega)):=List.getElem?_eq_getElem (by omega)
 generalize ps[i]=p at hx
 generalize qs[i]'(by omega)=q at hy
 have hpq:p.1=q.1:=by
  have h1:laps[i]?=some p.1:=by rw[←hp1,List.getElem?_map,hx];rfl
  have h2:laps[i]?=some q.1:=by rw[←hq1,List.getElem?_map,hy];rfl
  rw[h1]at h2;exact Option.some.inj h2
 have w1:wr .i64 ((i:Int)+1)=((i+1:Nat):Int):=by rw[zS (by omega) (by omega)];omega
 obtain⟨b1,o1,g1,g2,_⟩:=hp2.get (F:=F) hx
 obtain⟨b2,o2,g3,g4,_⟩:=hq2.get (F:=F) hy
 have ra:=fun (j:Nat) (hj:j<4)=>(g2 K' (yd.refl _)).1 j hj
 have rb:=fun (j:Nat) (hj:j<4)=>(g4 K' (yd.refl _)).1 j hj
 have a0:rdL K' (b1,o1) none=some (.i .i64 p.1.id):=ra 0 (by omega)
 have a1:rdL K' (b1,o1+1) none=some (.i .i64 p.1.err):=ra 1 (by omega)
 have a2:rdL K' (b1,o1+2) none=some (.i .i64 p.1.cause):=ra 2 (by omega)
 have a3:rdL K' (b1,o1+3) none=some p.2:=ra 3 (by omega)
 have c0:rdL K' (b2,o2) none=some (.i .i64 p.1.id):=by rw[hpq];exact rb 0 (by omega)
 have c1:rdL K' (b2,o2+1) none=some (.i .i64 p.1.err):=by rw[hpq];exact rb 1 (by omega)
 have c2:rdL K' (b2,o2+2) none=some (.i .i64 p.1.cause):=by rw[hpq];exact rb 2 (by omega)
 have c3:rdL K' (b2,o2+3) none=some q.2:=rb 3 (by omega)
 have hwp:=hp3 p (List.mem_of_getElem? hx)
 have hwq:=hq3 q (List.mem_of_getElem? hy)
 rw[←hpq]at hwq
 have hmem:p.1∈laps:=by rw[←hp1];exact List.mem_map.2 ⟨p,List.mem_of_getElem? hx,rfl⟩
 simp only[zf,g1,g3,zj,Nat.add_zero,zt,a0,c0,a1,c1,a2,c2,a3,c3,zh,w7,ne_eq,not_true_eq_false,decide_false,zx,yk,zX,xG]
 refine (zaI hf.f88 hwp hwq (Nat.le_trans (ok.w _ hmem) hk)).mono ?_
 rintro _ K2 ⟨rfl,rfl⟩
 rw[decide_eq_true (rfl:p.1.wakes=p.1.wakes)]
 simp only[zf,zx,yf,Bool.not_true,zX]
 unfold D_f203_13 D_f203_10
 simp only[zf,zB,e5,xl,w1]
 rw[hI]
 exact⟨n-1,by omega,i+1,by omega,by simp[e0],by simp[e1],by simp,rfl⟩
theorem vu (hf:H_f207 F){K:Lg}{a b:AV}{sts:List (Int×Int)}(ha:SlV stc 2 K a sts)(hb:SlV stc 2 K b sts)(hl:sts.length≤1000):zd F k_f207 [a,b] K fun v K'=>v=.b true∧K'=K:=by
 refine zr ?_
 intro Q hQ
 apply r_f207 hf.code
 generalize hE:zJ [a,b] 0=E
 have e0:E 0=a:=by rw[←hE];simp[zJ]
 have e1:E 1=b:=by rw[←hE];simp[zJ]
 clear hE
 have hlenA:=fun X k=>ha.len (F:=F) X k
 have hlenB:=fun X k=>hb.len (F:=F) X k
 unfold D_f207_1 D_f207_2
 have p0:(Env.put E 4 (.b false)) 0=a:=by simp[e0]
 have p1:(Env.put E 4 (.b false)) 1=b:=by simp[e1]
 generalize Env.put E 4 (.b false)=E1 at p0 p1
 simp only[zf,p0,p1,hlenA,hlenB,w7,ne_eq,not_true_eq_false,decide_false,zB]
 unfold D_f207_5 D_f207_7
 obtain⟨I,hI⟩:∃I:Nat→Env→Lg→Prop,I=fun n E K'=>∃i:Nat,n+i=sts.length∧E 0=a∧E 1=b∧E 5=.i .i64 i∧K'=K:=⟨_,rfl⟩
 refine zQ I sts.length ?_ ?_
 ·rw[hI];exact⟨0,by omega,by simp[p0],by simp[p1],by simp,rfl⟩
 intro n E t K' hi
 rw[hI]at hi
 obtain⟨i,hm,e0,e1,e5,rfl⟩:=hi
 unfold D_f207_8
 rw[e0,e1,e5]
 simp only[zf,hlenA,y0,zR]
 refine⟨fun hlt=>?_,fun hnl=>?_⟩
 rotate_left
 ·unfold D_f207_4
  exact⟨K',zu.refl _,hQ _ _ ⟨rfl,rfl⟩⟩
 have hil:i<sts.length:=by omega
 have hx:sts[i]?=some sts[i]:=List.getElem?_eq_getElem hil
 generalize sts[i]=p at hx
 have w1:wr .i64 ((i:Int)+1)=((i+1:Nat):Int):=by rw[zS (by omega) (by omega)];omega
 obtain⟨b1,o1,g1,g2,_⟩:=ha.get (F:=F) hx
 obtain⟨b2,o2,g3,g4,_⟩:=hb.get (F:=F) hx
 have a0:rdL K' (b1,o1) none=some (.i .i64 p.1):=(g2 K' (yd.refl _)).1 0 (by omega)
 have a1:rdL K' (b1,o1+1) none=some (.i .i64 p.2):=(g2 K' (yd.refl _)).1 1 (by omega)
 have c0:rdL K' (b2,o2) none=some (.i .i64 p.1):=(g4 K' (yd.refl _)).1 0 (by omega)
 have c1:rdL K' (b2,o2+1) none=some (.i .i64 p.2):=(g4 K' (yd.refl _)).1 1 (by omega)
 simp only[zf,g1,g3,zj,Nat.add_zero,zt,a0,c0,a1,c1,zh,w7,ne_eq,not_true_eq_false,decide_false,zx,yk,zX,zB,xl,w1]
 rw[hI]
 exact⟨n-1,by omega,i+1,by omega,by simp[e0],by simp[e1],by simp,rfl⟩
end
section
variable {F:Nat→Option AFn}
theorem ZP (z:Int)(X:Lg)(k:AV→Lg→Prop):za F (.bin .eql) [.i .i64 z,.i .i64 z] X k=k (.b true) X:=by simp
def PN (c:Nat)(S:CX)(r:Nat):Prop:=r=c∨S.σ.t=some r∨xd S r
structure CB (L:Lg)(b s c u m:Nat)(now:Int)(S S':CX):Prop where
 bed:L b=some (.raw (.cells [.p (some (s,0)),.p (some (c,0)),.p (some (u,0)),.p (some (m,0)),.i .i64 now]))
 pe:L c=some (.abs (YA c S.σ))
 po:OutC c S L
 re:L m=some (.abs (wu m S'.σ))
 ro:OutR m S' L
 t:S.σ.t=some s
 t':S'.σ.t=some u
 ap:∀r,PN c S r→PN m S' r→False
section
variable {L L2:Lg} {b s c u m:Nat} {now:Int} {S S' S1:CX} {ρ:Nat→Nat} {k:Nat}
theorem CB.pHas (h:CB L b s c u m now S S'){r:Nat}(hr:PN c S r):∃P,L r=some (.abs P):=by
 rcases hr with rfl | hr | ⟨x,hx,hc⟩
 ·exact⟨_,h.pe⟩
 ·exact⟨_,(h.po.tms r hr).2⟩
 ·exact⟨_,(h.po.chs x hx r hc).2.2⟩
theorem CB.rHas (h:CB L b s c u m now S S'){r:Nat}(hr:PN m S' r):∃P,L r=some (.abs P):=by
 rcases hr with rfl | hr | ⟨x,hx,hc⟩
 ·exact⟨_,h.re⟩
 ·exact⟨_,(h.ro.tms r hr).2⟩
 ·exact⟨_,(h.ro.chs x hx r hc).2.2⟩
theorem CB.rawP (h:CB L b s c u m now S S'){r:Nat}{x:AB}(hr:L r=some (.raw x)):¬PN c S r:=fun h9=>by obtain⟨P,hP⟩:=h.pHas h9;rw[hr]at hP;cases hP
theorem CB.rawR (h:CB L b s c u m now S S'){r:Nat}{x:AB}(hr:L r=some (.raw x)):¬PN m S' r:=fun h9=>by obtain⟨P,hP⟩:=h.rHas h9;rw[hr]at hP;cases hP
theorem CB.prog (h:CB L b s c u m now S S')(d:CDone c S S1 L L2)(hn:∀r,xd S1 r→xd S r∨L r=none):CB L2 b s c u m now S1 S':=by
 have keep:∀r d,¬PN c S r→L r=some d→L2 r=some d:=fun r d' h1 h2=>by
  rw[d.fr r (by rw[h2];simp) (fun h9=>h1 (.inl h9)) (fun h9=>h1 (.inr (.inl h9))) (fun o ho h9=>h1 (.inr (.inr ⟨o,ho,h9⟩))),h2]
 have notP:∀r,PN m S' r→¬PN c S r:=fun r h1 h2=>h.ap r h2 h1
 refine⟨keep _ _ (h.rawP h.bed) h.bed,d.own,d.out,keep _ _ (notP m (.inl rfl)) h.re,⟨fun s' hs=>⟨(h.ro.tms s' hs).1,keep _ _ (notP s' (.inr (.inl hs))) (h.ro.tms s' hs).2⟩,fun o ho a ha=>⟨(h.ro.chs o ho a ha).1,(h.ro.chs o ho a ha).2.1,keep _ _ (notP a (.inr (.inr ⟨o,ho,ha⟩))) (h.ro.chs o ho a ha).2.2⟩⟩,by rw[d.sub.t];exact h.t,h.t',fun r h1 h2=>?_⟩
 rcases h1 with h1 | h1 | h1
 ·exact h.ap r (.inl h1) h2
 ·exact h.ap r (.inr (.inl (by rw[←d.sub.t];exact h1))) h2
 ·rcases hn r h1 with h3 | h3
  ·exact h.ap r (.inr (.inr h3)) h2
  ·obtain⟨P,hP⟩:=h.rHas h2
   rw[h3]at hP;cases hP
theorem CB.rawProg (h:CB L b s c u m now S S')(d:CDone c S S1 L L2){r:Nat}{x:AB}(hr:L r=some (.raw x)):L2 r=some (.raw x):=d.raw h.pe h.po hr
theorem CB.refd (h:CB L b s c u m now S S')(d:DoneR m S' S1 L L2)(ht:S1.σ.t=S'.σ.t)(hn:∀r,xd S1 r→xd S' r∨L r=none):CB L2 b s c u m now S S1:=by
 have keep:∀r d,¬PN m S' r→L r=some d→L2 r=some d:=fun r d' h1 h2=>d.fr r d' (fun h9=>h1 (.inl h9)) (fun h9=>h1 (.inr (.inl h9))) (fun o ho h9=>h1 (.inr (.inr ⟨o,ho,h9⟩))) h2
 have notR:∀r,PN c S r→¬PN m S' r:=fun r h1 h2=>h.ap r h1 h2
 refine⟨keep _ _ (h.rawR h.bed) h.bed,keep _ _ (notR c (.inl rfl)) h.pe,⟨fun s' hs=>⟨(h.po.tms s' hs).1,keep _ _ (notR s' (.inr (.inl hs))) (h.po.tms s' hs).2⟩,fun o ho a ha=>⟨(h.po.chs o ho a ha).1,(h.po.chs o ho a ha).2.1,keep _ _ (notR a (.inr (.inr ⟨o,ho,ha⟩))) (h.po.chs o ho a ha).2.2⟩⟩,d.e,d.out,h.t,by rw[ht];exact h.t',fun r h1 h2=>?_⟩
 rcases h2 with h2 | h2 | h2
 ·exact h.ap r h1 (.inl h2)
 ·exact h.ap r h1 (.inr (.inl (by rw[←ht];exact h2)))
 ·rcases hn r h2 with h3 | h3
  ·exact h.ap r h1 (.inr (.inr h3))
  ·obtain⟨P,hP⟩:=h.pHas h1
   rw[h3]at hP;cases hP
theorem CB.rawRef (h:CB L b s c u m now S S')(d:DoneR m S' S1 L L2){r:Nat}{x:AB}(hr:L r=some (.raw x)):L2 r=some (.raw x):=by
 have h1:=h.rawR hr
 exact d.fr r _ (fun h9=>h1 (.inl h9)) (fun h9=>h1 (.inr (.inl h9))) (fun o ho h9=>h1 (.inr (.inr ⟨o,ho,h9⟩))) hr
theorem CB.fresh (h:CB L b s c u m now S S'){a:Nat}(ha:L a=none):¬xd S a∧¬xd S' a:=by
 refine⟨fun h9=>?_,fun h9=>?_⟩
 ·obtain⟨P,hP⟩:=h.pHas (.inr (.inr h9));rw[ha]at hP;cases hP
 ·obtain⟨P,hP⟩:=h.rHas (.inr (.inr h9));rw[ha]at hP;cases hP
theorem CB.b0 (h:CB L b s c u m now S S'):rdL L (b,0) none=some (.p (some (s,0))):=by rw[zk h.bed];rfl
theorem CB.b1 (h:CB L b s c u m now S S'):rdL L (b,1) none=some (.p (some (c,0))):=by rw[zk h.bed];rfl
theorem CB.b2 (h:CB L b s c u m now S S'):rdL L (b,2) none=some (.p (some (u,0))):=by rw[zk h.bed];rfl
theorem CB.b3 (h:CB L b s c u m now S S'):rdL L (b,3) none=some (.p (some (m,0))):=by rw[zk h.bed];rfl
theorem CB.b4 (h:CB L b s c u m now S S'):rdL L (b,4) none=some (.i .i64 now):=by rw[zk h.bed];rfl
end
def wX (L0:Lg)(b s c u m k cn:Nat)(L:Lg):Prop:=(∃now ρ S S',CB L b s c u m now S S'∧Sim ρ S S'∧CI S k∧S.τ.ones.length≤cn)∧∀q x,q≠b→L0 q=some (.raw x)→L q=some (.raw x)
section
variable {L L0:Lg} {b s c u m x3:Nat} {now:Int} {S S':CX} {ρ:Nat→Nat} {k cn:Nat} {kd n d:Int} {Q:AV→Lg→Prop}
theorem zam (h1:H_f143 F)(h2:H_f202 F)(h3:H_f203 F)(cb:CB L b s c u m now S S')(sim:Sim ρ S S')(ci:CI S k)(hk:k≤800000)(hcn:S.τ.ones.length≤cn)(hx:L x3=some (.raw (.cells [.i .i64 kd,.i .i64 n,.i .i64 d])))
  (hl:∀q x,q≠b→L0 q=some (.raw x)→L q=some (.raw x)) (hQ:∀L2,wX L0 b s c u m (k+100) (cn+1) L2→Q (.b true) L2):D_f212_8 F Q (.p (some (b,0))) (.p (some (x3,0))) L:=by
 unfold D_f212_8
 have x1:rdL L (x3,1) none=some (.i .i64 n):=by rw[zk hx];rfl
 simp only[zf,zg,zj,Nat.zero_add,zt,cb.b1,x1,zh]
 refine (zas h1 (fun a ha=>?_) cb.pe cb.po).mono ?_
 ·obtain⟨r,_,_,e,_⟩:=YG ci (Sim.refl S) n (a:=a) (a':=a) (fun _=>(cb.fresh ha).1) (fun _=>(cb.fresh ha).1)
  exact⟨r,e⟩
 rintro _ K1 ⟨a,r,v1,v2,sts,ha,hr,rfl,cd,rw1⟩
 have cb1:=cb.prog cd (fun q hq=>by
  obtain⟨g1,g2⟩:=ZK ci.wf hr
  by_cases h0:S.σ.room n=0
  ·rcases g1 q hq with h | rfl
   ·exact .inl h
   ·exact .inr (ha h0)
  ·rw[g2 h0]at hq;exact .inl hq)
 have hx1:=cb.rawProg cd hx
 simp only[zf,yb,List.getElem?_cons_zero,List.getElem?_cons_succ,zh]
 unfold D_f212_9
 have x1':rdL K1 (x3,1) none=some (.i .i64 n):=by rw[zk hx1];rfl
 simp only[zf,zg,zj,Nat.zero_add,zt,cb1.b3,x1',zh]
 have tf:TFine S'.τ k:=by rw[sim.x];exact ci.tg.tf (by omega)
 have wf':=sim.wf ci.wf
 refine (XK h2 wf' (sim.ao ci.ao) tf cb1.re cb1.ro n).mono ?_
 rintro _ K2 ⟨a',r',w,v2',sts',ha',hr',rfl,dr,rr,_⟩
 have hroom:S'.σ.room n=S.σ.room n:=sim.room n
 obtain⟨q,q',ρ',e1,e2,e3,e4,e5,e6,e7⟩:=YG ci sim n (a:=a) (a':=a') (fun h0=>(cb.fresh (ha h0)).1) (fun h0=>(cb1.fresh (ha' (by rw[hroom];exact h0))).2)
 rw[hr]at e1
 rw[hr']at e2
 cases e1
 cases e2
 have cb2:=cb1.refd dr (UJ wf' hr') (fun q hq=>by
  obtain⟨g1,g2⟩:=ZK wf' hr'
  by_cases h0:S'.σ.room n=0
  ·rcases g1 q hq with h | rfl
   ·exact .inl h
   ·exact .inr (ha' h0)
  ·rw[g2 h0]at hq;exact .inl hq)
 have l1:=rw1.laps.1.mono (K':=K2) (fun q x hq=>cb1.rawRef dr hq)
 rw[e4]at rr ⊢
 have l2:=rr.laps.1
 simp only[zf,yb,List.getElem?_cons_zero,List.getElem?_cons_succ,zh,ZP,zx,yk,xG]
 refine (wP h3 l1 l2 e7 (by omega)).mono ?_
 rintro _ K3 ⟨rfl,rfl⟩
 simp only[zf,zT,zx,yk,ZP]
 exact⟨K3,zu.refl _,hQ _ ⟨⟨now,ρ',r.1,r'.1,cb2,e3,e5.mono (by omega),by rw[e6.ones];omega⟩,fun q x hq hq0=>cb1.rawRef dr (cb.rawProg cd (hl q x hq hq0))⟩⟩
end
end
section
variable {F:Nat→Option AFn}
theorem zhU (t:Bool)(X:Lg)(k:AV→Lg→Prop):za F (.eq false .bool) [.b t,.b t] X k=k (.b true) X:=by cases t<;>simp
section
variable {L L0:Lg} {b s c u m x3:Nat} {now:Int} {S S':CX} {ρ:Nat→Nat} {k cn:Nat} {kd n d:Int} {Q:AV→Lg→Prop}
theorem V9 (h1:H_f144 F)(h2:H_f204 F)(h3:H_f203 F)(cb:CB L b s c u m now S S')(sim:Sim ρ S S')(ci:CI S k)(hk:k≤800000)(hcn:S.τ.ones.length≤cn)(hx:L x3=some (.raw (.cells [.i .i64 kd,.i .i64 n,.i .i64 d])))
  (hl:∀q x,q≠b→L0 q=some (.raw x)→L q=some (.raw x)) (hQ:∀L2,wX L0 b s c u m (k+100) (cn+1) L2→Q (.b true) L2):D_f212_12 F Q (.p (some (b,0))) (.p (some (x3,0))) L:=by
 unfold D_f212_12
 have x1:rdL L (x3,1) none=some (.i .i64 n):=by rw[zk hx];rfl
 have x2:rdL L (x3,2) none=some (.i .i64 d):=by rw[zk hx];rfl
 simp only[zf,zg,zj,Nat.zero_add,zt,cb.b1,x1,x2,cb.b4,zh]
 refine (Ub h1 (fun a ha=>?_) cb.pe cb.po).mono ?_
 ·obtain⟨r,_,_,e,_⟩:=XO ci (Sim.refl S) (by omega) n d now (a:=a) (a':=a) (fun _=>(cb.fresh ha).1) (fun _=>(cb.fresh ha).1)
  exact⟨r,e⟩
 rintro _ K1 ⟨a,r,v1,v2,sts,ha,hr,rfl,cd,rw1⟩
 have cb1:=cb.prog cd (fun q hq=>by
  obtain⟨g1,g2⟩:=YY ci.wf hr
  by_cases h0:S.σ.room n=0
  ·rcases g1 q hq with h | rfl
   ·exact .inl h
   ·exact .inr (ha h0)
  ·rw[g2 h0]at hq;exact .inl hq)
 have hx1:=cb.rawProg cd hx
 simp only[zf,yb,List.getElem?_cons_zero,List.getElem?_cons_succ,zh]
 unfold D_f212_13
 have x1':rdL K1 (x3,1) none=some (.i .i64 n):=by rw[zk hx1];rfl
 have x2':rdL K1 (x3,2) none=some (.i .i64 d):=by rw[zk hx1];rfl
 simp only[zf,zg,zj,Nat.zero_add,zt,cb1.b3,x1',x2',cb1.b4,zh]
 have tf:TFine S'.τ k:=by rw[sim.x];exact ci.tg.tf (by omega)
 have wf':=sim.wf ci.wf
 refine (Xb h2 wf' (sim.ao ci.ao) tf (by rw[sim.x];exact ci.fineB (by omega)) cb1.re cb1.ro n d now).mono ?_
 rintro _ K2 ⟨a',r',w,v2',sts',ha',hr',rfl,dr,rr⟩
 have hroom:S'.σ.room n=S.σ.room n:=sim.room n
 obtain⟨q,q',ρ',e1,e2,e3,e4,e5,e7,e8⟩:=XO ci sim (by omega) n d now (a:=a) (a':=a') (fun h0=>(cb.fresh (ha h0)).1) (fun h0=>(cb1.fresh (ha' (by rw[hroom];exact h0))).2)
 rw[hr]at e1
 rw[hr']at e2
 cases e1
 cases e2
 have cb2:=cb1.refd dr (zcP wf' hr') (fun q hq=>by
  obtain⟨g1,g2⟩:=YY wf' hr'
  by_cases h0:S'.σ.room n=0
  ·rcases g1 q hq with h | rfl
   ·exact .inl h
   ·exact .inr (ha' h0)
  ·rw[g2 h0]at hq;exact .inl hq)
 have l1:=rw1.laps.1.mono (K':=K2) (fun q x hq=>cb1.rawRef dr hq)
 rw[e4]at rr ⊢
 have l2:=rr.laps.1
 simp only[zf,yb,List.getElem?_cons_zero,List.getElem?_cons_succ,zh,ZP,zx,yk,xG]
 refine (wP h3 l1 l2 e7 (by omega)).mono ?_
 rintro _ K3 ⟨rfl,rfl⟩
 simp only[zf,zT,zx,yk,ZP]
 exact⟨K3,zu.refl _,hQ _ ⟨⟨now,ρ',r.1,r'.1,cb2,e3,e5.mono (by omega),by omega⟩,fun q x hq hq0=>cb1.rawRef dr (cb.rawProg cd (hl q x hq hq0))⟩⟩
theorem zak (h1:H_f145 F)(h2:H_f205 F)(cb:CB L b s c u m now S S')(sim:Sim ρ S S')(ci:CI S k)(hk:k≤800000)(hcn:S.τ.ones.length≤cn)(hx:L x3=some (.raw (.cells [.i .i64 kd,.i .i64 n,.i .i64 d])))
  (hl:∀q x,q≠b→L0 q=some (.raw x)→L q=some (.raw x)) (hQ:∀L2,wX L0 b s c u m (k+100) (cn+1) L2→Q (.b true) L2):D_f212_16 F Q (.p (some (b,0))) (.p (some (x3,0))) L:=by
 unfold D_f212_16
 have x1:rdL L (x3,1) none=some (.i .i64 n):=by rw[zk hx];rfl
 obtain⟨r,r',hr,e2,e3,e4,e5,e6⟩:=zc3 ci sim n
 simp only[zf,zg,zj,Nat.zero_add,zt,cb.b1,x1,zh]
 refine (Ux h1 hr cb.pe cb.po).mono ?_
 rintro _ K1 ⟨rfl,cd⟩
 have cb1:=cb.prog cd (fun q hq=>.inl (XS ci.wf hr 0 q hq))
 have hx1:=cb.rawProg cd hx
 have x1':rdL K1 (x3,1) none=some (.i .i64 n):=by rw[zk hx1];rfl
 simp only[zf,yb,List.getElem?_cons_zero,List.getElem?_cons_succ,zh,zg,zj,Nat.zero_add,zt,cb1.b3,x1']
 have tf:TFine S'.τ k:=by rw[sim.x];exact ci.tg.tf (by omega)
 have wf':=sim.wf ci.wf
 refine (XI h2 wf' tf cb1.re cb1.ro n).mono ?_
 rintro _ K2 ⟨q',hr',rfl,dr,_⟩
 rw[hr']at e2
 cases e2
 have cb2:=cb1.refd dr (zdV wf' hr') (fun q hq=>.inl (XS wf' hr' 0 q hq))
 rw[e4]
 simp only[zf,yb,List.getElem?_cons_zero,List.getElem?_cons_succ,zh,ZP,zx,yk,zT]
 exact⟨K2,zu.refl _,hQ _ ⟨⟨now,ρ,r.1,r'.1,cb2,e3,e5.mono (by omega),by rw[e6.ones];omega⟩,fun q x hq hq0=>cb1.rawRef dr (cb.rawProg cd (hl q x hq hq0))⟩⟩
theorem zan (h1:H_f148 F)(h2:H_f206 F)(h3:H_f203 F)(h4:H_f207 F)(cb:CB L b s c u m now S S')(sim:Sim ρ S S')(ci:CI S k)(hk:k≤800000)(hcn:S.τ.ones.length≤cn)(hx:L x3=some (.raw (.cells [.i .i64 kd,.i .i64 n,.i .i64 d])))
  (hl:∀q x,q≠b→L0 q=some (.raw x)→L q=some (.raw x)) (hQ:∀L2,wX L0 b s c u m (k+100) (cn+1) L2→Q (.b true) L2):D_f212_19 F Q (.p (some (b,0))) (.p (some (x3,0))) L:=by
 unfold D_f212_19
 have x1:rdL L (x3,1) none=some (.i .i64 n):=by rw[zk hx];rfl
 have x2:rdL L (x3,2) none=some (.i .i64 d):=by rw[zk hx];rfl
 obtain⟨r,r',hr,e2,e3,e4,e5,e6,e7⟩:=zev ci sim n d
 simp only[zf,zg,zj,Nat.zero_add,zt,cb.b1,x1,x2,zh]
 refine (zau h1 hr cb.pe cb.po).mono ?_
 rintro _ K1 ⟨v1,v2,rfl,cd,rw1⟩
 have cb1:=cb.prog cd (fun q hq=>.inl (yY (Yk ci.wf hr) hq))
 have hx1:=cb.rawProg cd hx
 simp only[zf,yb,List.getElem?_cons_zero,List.getElem?_cons_succ,zh]
 unfold D_f212_20
 have x1':rdL K1 (x3,1) none=some (.i .i64 n):=by rw[zk hx1];rfl
 have x2':rdL K1 (x3,2) none=some (.i .i64 d):=by rw[zk hx1];rfl
 simp only[zf,zg,zj,Nat.zero_add,zt,cb1.b3,x1',x2',zh]
 have tf:TFine S'.τ k:=by rw[sim.x];exact ci.tg.tf (by omega)
 have wf':=sim.wf ci.wf
 refine (WD h2 wf' (sim.ao ci.ao) tf cb1.re cb1.ro n d).mono ?_
 rintro _ K2 ⟨q',w1,w2,hr',rfl,dr,rr,_⟩
 rw[hr']at e2
 cases e2
 have cb2:=cb1.refd dr (zdX wf' hr') (fun q hq=>.inl (yY (Yk wf' hr') hq))
 have l1:=rw1.laps.1.mono (K':=K2) (fun q x hq=>cb1.rawRef dr hq)
 have m1:=rw1.laps.2.monoR (K':=K2) (fun q x hq=>cb1.rawRef dr hq)
 rw[e4]at rr ⊢
 have l2:=rr.laps.1
 have m2:=rr.laps.2
 simp only[zf,yb,List.getElem?_cons_zero,List.getElem?_cons_succ,zh]
 refine (wP h3 l1 l2 e7 (by omega)).mono ?_
 rintro _ K3 ⟨rfl,rfl⟩
 simp only[zf,zx,yk,xG]
 refine (vu h4 m1 m2 e7.s).mono ?_
 rintro _ K4 ⟨rfl,rfl⟩
 simp only[zf,zT,zx,yk,ZP]
 exact⟨K4,zu.refl _,hQ _ ⟨⟨now,ρ,r.1,r'.1,cb2,e3,e5.mono (by omega),by rw[e6.ones];omega⟩,fun q x hq hq0=>cb1.rawRef dr (cb.rawProg cd (hl q x hq hq0))⟩⟩
theorem zbe (h1:H_f160 F)(h2:H_f210 F)(h3:H_f203 F)(h4:H_f207 F)(cb:CB L b s c u m now S S')(sim:Sim ρ S S')(ci:CI S k)(hk:k≤800000)(hcn:S.τ.ones.length≤cn)(hx:L x3=some (.raw (.cells [.i .i64 kd,.i .i64 n,.i .i64 d])))
  (hl:∀q x,q≠b→L0 q=some (.raw x)→L q=some (.raw x)) (hQ:∀L2,wX L0 b s c u m (k+100) (cn+1) L2→Q (.b true) L2):D_f212_52 F Q (.p (some (b,0))) (.p (some (x3,0))) L:=by
 unfold D_f212_52
 have x1:rdL L (x3,1) none=some (.i .i64 n):=by rw[zk hx];rfl
 have x2:rdL L (x3,2) none=some (.i .i64 d):=by rw[zk hx];rfl
 obtain⟨r,r',hr,e2,e3,e4,e5,e6,e7⟩:=zcb ci sim n
 simp only[zf,zg,zj,Nat.zero_add,zt,cb.b1,x1,x2,zh]
 refine (XX h1 hr cb.pe cb.po).mono ?_
 rintro _ K1 ⟨v1,v2,rfl,cd,rw1⟩
 have cb1:=cb.prog cd (fun q hq=>.inl (yY (vd ci.wf hr) hq))
 have hx1:=cb.rawProg cd hx
 simp only[zf,yb,List.getElem?_cons_zero,List.getElem?_cons_succ,zh]
 unfold D_f212_53
 have x1':rdL K1 (x3,1) none=some (.i .i64 n):=by rw[zk hx1];rfl
 have x2':rdL K1 (x3,2) none=some (.i .i64 d):=by rw[zk hx1];rfl
 simp only[zf,zg,zj,Nat.zero_add,zt,cb1.b3,x1',x2',zh]
 have tf:TFine S'.τ k:=by rw[sim.x];exact ci.tg.tf (by omega)
 have wf':=sim.wf ci.wf
 refine (Ya h2 wf' (sim.ao ci.ao) tf cb1.re cb1.ro n).mono ?_
 rintro _ K2 ⟨q',w1,w2,hr',rfl,dr,rr,_⟩
 rw[hr']at e2
 cases e2
 have cb2:=cb1.refd dr (zbN wf' hr') (fun q hq=>.inl (yY (vd wf' hr') hq))
 have l1:=rw1.laps.1.mono (K':=K2) (fun q x hq=>cb1.rawRef dr hq)
 have m1:=rw1.laps.2.monoR (K':=K2) (fun q x hq=>cb1.rawRef dr hq)
 rw[e4]at rr ⊢
 have l2:=rr.laps.1
 have m2:=rr.laps.2
 simp only[zf,yb,List.getElem?_cons_zero,List.getElem?_cons_succ,zh]
 refine (wP h3 l1 l2 e7 (by omega)).mono ?_
 rintro _ K3 ⟨rfl,rfl⟩
 simp only[zf,zx,yk,xG]
 refine (vu h4 m1 m2 e7.s).mono ?_
 rintro _ K4 ⟨rfl,rfl⟩
 simp only[zf,zT,zx,yk,ZP]
 exact⟨K4,zu.refl _,hQ _ ⟨⟨now,ρ,r.1,r'.1,cb2,e3,e5.mono (by omega),by rw[e6.ones];omega⟩,fun q x hq hq0=>cb1.rawRef dr (cb.rawProg cd (hl q x hq hq0))⟩⟩
theorem zdt (h1:H_f146 F)(h2:H_f208 F)(h4:H_f207 F)(cb:CB L b s c u m now S S')(sim:Sim ρ S S')(ci:CI S k)(hk:k≤800000)(hcn:S.τ.ones.length≤cn)(hx:L x3=some (.raw (.cells [.i .i64 kd,.i .i64 n,.i .i64 d])))
  (hl:∀q x,q≠b→L0 q=some (.raw x)→L q=some (.raw x)) (hQ:∀L2,wX L0 b s c u m (k+100) (cn+1) L2→Q (.b true) L2):D_f212_23 F Q (.p (some (b,0))) (.p (some (x3,0))) L:=by
 unfold D_f212_23
 have x1:rdL L (x3,1) none=some (.i .i64 n):=by rw[zk hx];rfl
 have x2:rdL L (x3,2) none=some (.i .i64 d):=by rw[zk hx];rfl
 obtain⟨r,r',hr,e2,e3,e4,e5,e6,e7⟩:=zf3 ci sim n d
 simp only[zf,zg,zj,Nat.zero_add,zt,cb.b1,x1,x2,zh]
 refine (zbq h1 hr cb.pe cb.po).mono ?_
 rintro _ K1 ⟨v2,rfl,cd,ov,_⟩
 have cb1:=cb.prog cd (fun q hq=>.inl (yY (XV ci.wf hr) hq))
 have hx1:=cb.rawProg cd hx
 simp only[zf,yb,List.getElem?_cons_zero,List.getElem?_cons_succ,zh]
 unfold D_f212_24
 have x1':rdL K1 (x3,1) none=some (.i .i64 n):=by rw[zk hx1];rfl
 have x2':rdL K1 (x3,2) none=some (.i .i64 d):=by rw[zk hx1];rfl
 simp only[zf,zg,zj,Nat.zero_add,zt,cb1.b3,x1',x2',zh]
 have tf:TFine S'.τ k:=by rw[sim.x];exact ci.tg.tf (by omega)
 have wf':=sim.wf ci.wf
 refine (VO h2 wf' (sim.ao ci.ao) tf cb1.re cb1.ro n d).mono ?_
 rintro _ K2 ⟨q',w1,w2,hr',rfl,dr,rr⟩
 rw[hr']at e2
 cases e2
 have cb2:=cb1.refd dr (zhe wf' hr') (fun q hq=>.inl (yY (XV wf' hr') hq))
 have m1:=(SlV.of_G (yy zaO ov)).monoR (K':=K2) (fun q x hq=>cb1.rawRef dr hq)
 rw[e4]at rr ⊢
 have m2:=rr.laps.2
 simp only[zf,yb,List.getElem?_cons_zero,List.getElem?_cons_succ,zh,ZP,zx,yk,xG]
 refine (vu h4 m1 m2 e7).mono ?_
 rintro _ K4 ⟨rfl,rfl⟩
 simp only[zf,zT,zx,yk,ZP]
 exact⟨K4,zu.refl _,hQ _ ⟨⟨now,ρ,r.1,r'.1,cb2,e3,e5.mono (by omega),by rw[e6.ones];omega⟩,fun q x hq hq0=>cb1.rawRef dr (cb.rawProg cd (hl q x hq hq0))⟩⟩
theorem zal (h1:H_f151 F)(h2:H_f209 F)(cb:CB L b s c u m now S S')(sim:Sim ρ S S')(ci:CI S k)(hk:k≤800000)(hcn:S.τ.ones.length≤cn)(hx:L x3=some (.raw (.cells [.i .i64 kd,.i .i64 n,.i .i64 d])))
  (hl:∀q x,q≠b→L0 q=some (.raw x)→L q=some (.raw x)) (hQ:∀L2,wX L0 b s c u m (k+100) (cn+1) L2→Q (.b true) L2):D_f212_27 F Q (.p (some (b,0))) (.p (some (x3,0))) L:=by
 unfold D_f212_27
 have x1:rdL L (x3,1) none=some (.i .i64 n):=by rw[zk hx];rfl
 obtain⟨r,r',hr,e2,e3,e4,e5,e6⟩:=zc4 ci sim n
 simp only[zf,zg,zj,Nat.zero_add,zt,cb.b1,x1,zh]
 refine (VE h1 hr cb.pe cb.po).mono ?_
 rintro _ K1 ⟨rfl,cd⟩
 have cb1:=cb.prog cd (fun q hq=>.inl (yY (Yj ci.wf hr) hq))
 have hx1:=cb.rawProg cd hx
 have x1':rdL K1 (x3,1) none=some (.i .i64 n):=by rw[zk hx1];rfl
 simp only[zf,yb,List.getElem?_cons_zero,List.getElem?_cons_succ,zh,zg,zj,Nat.zero_add,zt,cb1.b3,x1']
 have tf:TFine S'.τ k:=by rw[sim.x];exact ci.tg.tf (by omega)
 have wf':=sim.wf ci.wf
 refine (XJ h2 wf' tf cb1.re cb1.ro n).mono ?_
 rintro _ K2 ⟨q',hr',rfl,dr,_⟩
 rw[hr']at e2
 cases e2
 have cb2:=cb1.refd dr (zdW wf' hr') (fun q hq=>.inl (yY (Yj wf' hr') hq))
 rw[e4]
 simp only[zf,yb,List.getElem?_cons_zero,List.getElem?_cons_succ,zh,zhU,ZP,zx,yk,zT]
 exact⟨K2,zu.refl _,hQ _ ⟨⟨now,ρ,r.1,r'.1,cb2,e3,e5.mono (by omega),by rw[e6.ones];omega⟩,fun q x hq hq0=>cb1.rawRef dr (cb.rawProg cd (hl q x hq hq0))⟩⟩
end
end
section
variable {F:Nat→Option AFn}
theorem Y9 {f:Nat}{vs:List AV}{L:Lg}{u:Nat}{Q Q':AV→Lg→Prop}(h:zd F f vs L Q)(hq:∀v L',Q v L'→∃τ,L' u=some (.abs (Yz u τ))∧∀per sv pv ov K,ROpen L' u τ per sv pv ov K→PerOk per τ.x→Q' v K):zd F f vs L Q':=by
 refine h.outO ?_
 intro v L' hv
 obtain⟨ρ',e,hh⟩:=hq v L' hv
 refine⟨u,_,e,?_⟩
 rintro hm ⟨per',sv',pv',ov',M,o',pk',hs⟩
 refine⟨M,hs,by rw[o'.root];simp,fun hf=>?_⟩
 have hi:∀b d,M b=some d→(M.over L') b=some d:=fun b d h=>by simp[Lg.over,h]
 have sb:∀{v:AV} {cs:List AV} {n z:Nat},OSe M v cs n z→OSe (M.over L') v cs n z:=fun h=>h.sub fun b d _ hd=>hi b d hd
 refine hh per' sv' pv' ov' (M.over L') ⟨hi _ _ o'.root,sb o'.hs,sb o'.ps,o'.os.sub fun b d _ hd=>hi b d hd,fun b hb=>⟨(o'.a1 b hb).1,hf b _ (o'.hs.block hb) (o'.a1 b hb).1⟩,fun b hb=>⟨(o'.a2 b hb).1,hf b _ (o'.ps.block hb) (o'.a2 b hb).1,(o'.a2 b hb).2.2⟩,
  fun b hb=>⟨(o'.a3 b hb).1,hf b _ (o'.os.block hb) (o'.a3 b hb).1,(o'.a3 b hb).2.2⟩,fun r d hr hd=>?_⟩ pk'
 have:M r=none:=by
  cases h:M r with
  | none=>rfl
  | some e=>have:=hf r e h hr;rw[hd]at this;cases this
 simp[Lg.over,this,hd]
section
variable {L L2:Lg} {b s c u m:Nat} {now:Int} {S S' S1:CX} {ρ:Nat→Nat} {k:Nat}
theorem CB.sub (h:CB L b s c u m now S S')(e:∀r d,L r=some d→L2 r=some d):CB L2 b s c u m now S S' :=
 ⟨e _ _ h.bed,e _ _ h.pe,⟨fun s' hs=>⟨(h.po.tms s' hs).1,e _ _ (h.po.tms s' hs).2⟩,fun o ho a ha=>⟨(h.po.chs o ho a ha).1,(h.po.chs o ho a ha).2.1,e _ _ (h.po.chs o ho a ha).2.2⟩⟩,e _ _ h.re,⟨fun s' hs=>⟨(h.ro.tms s' hs).1,e _ _ (h.ro.tms s' hs).2⟩,fun o ho a ha=>⟨(h.ro.chs o ho a ha).1,(h.ro.chs o ho a ha).2.1,e _ _ (h.ro.chs o ho a ha).2.2⟩⟩,h.t,h.t',h.ap⟩
theorem xW {L:Lg}{x:Nat}(hx:L x=none)(d:LC):∀r e,L r=some e→(L.put x d) r=some e:=fun r e hr=>by
 rw[zb _ _ _ (by rintro rfl;rw[hx]at hr;cases hr)];exact hr
theorem CB.pSet (h:CB L b s c u m now S S'):L s=some (.abs (ZT s S.τ)):=(h.po.tms s h.t).2
theorem CB.rSet (h:CB L b s c u m now S S'):L u=some (.abs (Yz u S'.τ)):=(h.ro.tms u h.t').2
theorem CB.putS (h:CB L b s c u m now S S')(τ':Tms):CB (L.put s (.abs (ZT s τ'))) b s c u m now ({ S with τ:=τ' }:CX) S':=by
 have hs:=h.po.tms s h.t
 have ne:∀r d,r≠s→L r=some d→(L.put s (.abs (ZT s τ'))) r=some d:=fun r d h1 h2=>by rw[zb _ _ _ h1];exact h2
 have pn:PN c S s:=.inr (.inl h.t)
 have rn':∀r,PN m S' r→r≠s:=fun r hr=>by rintro rfl;exact h.ap r pn hr
 refine⟨ne _ _ (by rintro rfl;exact h.rawP h.bed pn) h.bed,ne _ _ (Ne.symm hs.1) h.pe,⟨fun s' hs'=>?_,fun o ho a ha=>?_⟩,ne _ _ (rn' m (.inl rfl)) h.re,⟨fun s' hs'=>⟨(h.ro.tms s' hs').1,ne _ _ (rn' s' (.inr (.inl hs'))) (h.ro.tms s' hs').2⟩,fun o ho a ha=>⟨(h.ro.chs o ho a ha).1,(h.ro.chs o ho a ha).2.1,ne _ _ (rn' a (.inr (.inr ⟨o,ho,ha⟩))) (h.ro.chs o ho a ha).2.2⟩⟩,h.t,h.t',h.ap⟩
 ·have:s'=s:=by have h1:S.σ.t=some s':=hs';rw[h.t]at h1;cases h1;rfl
  subst this
  exact⟨hs.1,ze _ _ _⟩
 ·obtain⟨g1,g2,g3⟩:=h.po.chs o ho a ha
  exact⟨g1,g2,ne _ _ (by rintro rfl;exact g2 h.t) g3⟩
theorem CB.putU (h:CB L b s c u m now S S')(τ':Tms):CB (L.put u (.abs (Yz u τ'))) b s c u m now S ({ S' with τ:=τ' }:CX):=by
 have hs:=h.ro.tms u h.t'
 have ne:∀r d,r≠u→L r=some d→(L.put u (.abs (Yz u τ'))) r=some d:=fun r d h1 h2=>by rw[zb _ _ _ h1];exact h2
 have pn:PN m S' u:=.inr (.inl h.t')
 have rn':∀r,PN c S r→r≠u:=fun r hr=>by rintro rfl;exact h.ap r hr pn
 refine⟨ne _ _ (by rintro rfl;exact h.rawR h.bed pn) h.bed,ne _ _ (rn' c (.inl rfl)) h.pe,⟨fun s' hs'=>⟨(h.po.tms s' hs').1,ne _ _ (rn' s' (.inr (.inl hs'))) (h.po.tms s' hs').2⟩,fun o ho a ha=>⟨(h.po.chs o ho a ha).1,(h.po.chs o ho a ha).2.1,ne _ _ (rn' a (.inr (.inr ⟨o,ho,ha⟩))) (h.po.chs o ho a ha).2.2⟩⟩,ne _ _ (Ne.symm hs.1) h.re,⟨fun s' hs'=>?_,fun o ho a ha=>?_⟩,h.t,h.t',h.ap⟩
 ·have:s'=u:=by have h1:S'.σ.t=some s':=hs';rw[h.t']at h1;cases h1;rfl
  subst this
  exact⟨hs.1,ze _ _ _⟩
 ·obtain⟨g1,g2,g3⟩:=h.ro.chs o ho a ha
  exact⟨g1,g2,ne _ _ (by rintro rfl;exact g2 h.t') g3⟩
theorem CB.putNow (h:CB L b s c u m now S S')(now':Int):CB (L.put b (.raw (.cells [.p (some (s,0)),.p (some (c,0)),.p (some (u,0)),.p (some (m,0)),.i .i64 now']))) b s c u m now' S S':=by
 have np:∀r,PN c S r→r≠b:=fun r hr=>by rintro rfl;exact h.rawP h.bed hr
 have nr:∀r,PN m S' r→r≠b:=fun r hr=>by rintro rfl;exact h.rawR h.bed hr
 have ne:∀r d,r≠b→L r=some d→(L.put b (.raw (.cells [.p (some (s,0)),.p (some (c,0)),.p (some (u,0)),.p (some (m,0)),.i .i64 now']))) r=some d:=fun r d h1 h2=>by rw[zb _ _ _ h1];exact h2
 exact⟨ze _ _ _,ne _ _ (np c (.inl rfl)) h.pe,⟨fun s' hs=>⟨(h.po.tms s' hs).1,ne _ _ (np s' (.inr (.inl hs))) (h.po.tms s' hs).2⟩,fun o ho a ha=>⟨(h.po.chs o ho a ha).1,(h.po.chs o ho a ha).2.1,ne _ _ (np a (.inr (.inr ⟨o,ho,ha⟩))) (h.po.chs o ho a ha).2.2⟩⟩,ne _ _ (nr m (.inl rfl)) h.re,⟨fun s' hs=>⟨(h.ro.tms s' hs).1,ne _ _ (nr s' (.inr (.inl hs))) (h.ro.tms s' hs).2⟩,fun o ho a ha=>⟨(h.ro.chs o ho a ha).1,(h.ro.chs o ho a ha).2.1,ne _ _ (nr a (.inr (.inr ⟨o,ho,ha⟩))) (h.ro.chs o ho a ha).2.2⟩⟩,h.t,h.t',h.ap⟩
end
def fcc (id kind when now data:Int):List AV:=[.i .i64 id,.i .i64 kind,.i .i64 when,.i .i64 now,.i .i64 data,.sl none 0 0 0,.b false]
theorem W7 {l:List AV}(h:l.length=7):zo [AV.i .i64 0,.i .i64 0,.i .i64 0,.i .i64 0,.i .i64 0,.sl none 0 0 0,.b false] 0 l=l:=by simp[zo,h]
section
variable {L L0:Lg} {b s c u m x3:Nat} {now:Int} {S S':CX} {ρ:Nat→Nat} {k cn:Nat} {kd n d:Int} {Q:AV→Lg→Prop}
structure FireC (F:Nat→Option AFn)(N:Nat→Nat)(b s c u m:Nat)(now:Int)(S S':CX)(k:Nat):Prop where
 p:(∀L,CB L b s c u m now S S'→zd F k_f48 [.p (some (s,0)),.i .i64 now] L fun v L'=>v=.tup [.agg (fcc 0 0 0 0 0),.b false]∧L'=L)∧(∀L,CB L b s c u m now S S'→zd F k_f87 [.p (some (u,0)),.i .i64 now] L fun v L'=>v=.tup [.agg (fcc 0 0 0 0 0),.b false]∧L'=L) ∨
  ∃(x':Xs) (id kind when data:Int),CI ({ S with τ:={ S.τ with x:=x' } }:CX) (k+1)∧due now x'.l<due now S.τ.x.l∧(∀L,CB L b s c u m now S S'→zd F k_f48 [.p (some (s,0)),.i .i64 now] L fun v L'=>v=.tup [.agg (fcc id kind when now data),.b true]∧L'=L.put s (.abs (ZT s { S.τ with x:=x' }))) ∧
   (∀(L:Lg) (S1:CX),CB L b s c u m now S1 S'→zd F k_f87 [.p (some (u,0)),.i .i64 now] L fun v L'=>v=.tup [.agg (fcc id kind when now data),.b true]∧L'=L.put u (.abs (Yz u { S.τ with x:=x' })))
theorem zag {L:Lg}{v:AV}{L':Lg}(h:xu L v (yp []) ([]:List Wk).length 5 L'):v=.sl none 0 0 0∧L'=L:=by
 rcases h with⟨h1,h2,rfl,rfl⟩ | ⟨b,ex,h1,h2,rfl,h3,rfl⟩
 ·exact⟨rfl,rfl⟩
 ·simp at h2
theorem zjb (h1:H_f48 F)(h2:H_f87 F)(sim:Sim ρ S S')(ci:CI S k)(hk:k≤890000)(now:Int):FireC F N b s c u m now S S' k:=by
 have tf:=ci.tg.tf (by omega)
 have hq:0≤S.τ.x.seq∧S.τ.x.seq<4611686018427387904:=⟨ci.tg.g.pos,by have:=ci.tg.g.seq;omega⟩
 refine⟨?_⟩
 rcases ci.tg.g.takeAny now with tk | ⟨x',y,hy,hyw,tk,hx',hdue,hz⟩
 ·left
  refine⟨fun L cb=>?_,fun L cb=>?_⟩
  ·exact zeW h1 cb.pSet ci.tg.g.sorted tf.ll hq now (by rw[tk])
  ·have e:=cb.rSet
   rw[sim.x]at e
   exact zdh h2 e tf now (by rw[tk])
 ·right
  obtain⟨i,hid,hi⟩:=ci.tg.ids y hy
  have hw:S.τ.ones[i]?=some (S.τ.ones[i]):=List.getElem?_eq_getElem hi
  obtain⟨w,hwe⟩:∃w,w=S.τ.ones[i]:=⟨_,rfl⟩
  rw[←hwe]at hw
  have o1:S.τ.one y.id=some w:=by rw[hid];exact zhb hw
  have hc:=ci.on i w hw
  refine⟨x',y.id,w.kind,y.w,w.data,ci.take (by omega) hy hx' hz,hdue,fun L cb=>?_,fun L S1 cb=>?_⟩
  ·refine (zeV h1 cb.pSet ci.tg.g.sorted tf.ll hq now tk o1 (x:=.tm) (fun a ha=>by rw[hc]at ha;cases ha)).mono ?_
   rintro _ L' ⟨sl,rfl,hfs⟩
   rw[hc]at hfs ⊢
   obtain⟨rfl,rfl⟩:=zag hfs
   exact⟨rfl,rfl⟩
  ·have e:=cb.rSet
   rw[sim.x]at e
   refine (zdg h2 e tf now tk o1 (x:=.tm) rfl (by simp[Ch.tm]) (by simp[Ch.tm]) (fun a ha=>by rw[hc]at ha;cases ha)).mono ?_
   rintro _ L' ⟨sl,rfl,hfs⟩
   rw[hc]at hfs ⊢
   obtain⟨rfl,rfl⟩:=zag hfs
   exact⟨rfl,rfl⟩
theorem zdr (h0:H_f65 F)(h1:H_f48 F)(h2:H_f87 F)(h3:H_f160 F)(h4:H_f210 F)(h5:H_f203 F)(h6:H_f207 F)
  (cb:CB L b s c u m now S S') (sim:Sim ρ S S') (ci:CI S k) (hk:k≤800000) (hcn:S.τ.ones.length≤cn) (hcn6:cn≤90) (hx:L x3=some (.raw (.cells [.i .i64 kd,.i .i64 n,.i .i64 d])))
  (hl:∀q x,q≠b→L0 q=some (.raw x)→L q=some (.raw x)) (hQ:∀L2,wX L0 b s c u m (k+100) (cn+1) L2→Q (.b true) L2) {E:Env} (e0:E 0=.p (some (b,0))) (e3:E 3=.p (some (x3,0))):D_f212_30 F Q E L:=by
 unfold D_f212_30
 have x2:rdL L (x3,2) none=some (.i .i64 d):=by rw[zk hx];rfl
 rw[e0,e3]
 have hmax:∀k:AV→Lg→Prop,za F .max [.i .i64 d,.i .i64 0] L k=k (.i .i64 (max d 0)) L:=by intro k;simp
 simp only[zf,zg,zj,Nat.zero_add,zt,cb.b4,x2,zh,hmax]
 refine Y9 (u:=u) (zfz h0 now (max d 0) L) ?_
 rintro _ L' ⟨rfl,rfl⟩
 refine⟨_,cb.rSet,fun per sv pv ov K o pk=>?_⟩
 have hbu:b≠u:=by rintro rfl;exact cb.rawR cb.bed (.inr (.inl cb.t'))
 have kb:=o.old b _ hbu cb.bed
 obtain⟨now',hnow⟩:∃now',now'=zM now (max d 0):=⟨_,rfl⟩
 rw[←hnow]
 simp only[zf,zg,zj,Nat.zero_add,yv]
 rw[zH kb (by simp) rfl]
 simp only[List.set_cons_succ,List.set_cons_zero]
 have o1:=o.putOld hbu cb.bed (.raw (.cells [.p (some (s,0)),.p (some (c,0)),.p (some (u,0)),.p (some (m,0)),.i .i64 now']))
 have cb1:=cb.putNow now'
 have hl1:∀q x,q≠b→L0 q=some (.raw x)→(L'.put b (.raw (.cells [.p (some (s,0)),.p (some (c,0)),.p (some (u,0)),.p (some (m,0)),.i .i64 now']))) q=some (.raw x):=fun q x hq hq0=>by rw[zb _ _ _ hq];exact hl q x hq hq0
 generalize (K.put b (.raw (.cells [.p (some (s,0)),.p (some (c,0)),.p (some (u,0)),.p (some (m,0)),.i .i64 now'])))=K1 at o1
 generalize (L'.put b (.raw (.cells [.p (some (s,0)),.p (some (c,0)),.p (some (u,0)),.p (some (m,0)),.i .i64 now'])))=L1 at o1 cb1 hl1
 unfold D_f212_33 D_f212_35
 obtain⟨I,hI⟩:∃I:Nat→Env→Lg→Prop,I=fun q E K'=>∃(j:Nat) (Lb:Lg) (per:List (Int×Int)) (sv pv ov:AV) (S1 S1':CX) (ρ1:Nat→Nat),q=due now' S1.τ.x.l∧ROpen Lb u S1'.τ per sv pv ov K'∧PerOk per S1'.τ.x∧CB Lb b s c u m now' S1 S1'∧Sim ρ1 S1 S1'∧CI S1 (k+j)∧j+due now' S1.τ.x.l≤S.τ.ones.length∧S1.τ.ones.length=S.τ.ones.length ∧
   (∀q x,q≠b→L0 q=some (.raw x)→Lb q=some (.raw x))∧E 0=.p (some (b,0))∧E 37=.i .i64 j:=⟨_,rfl⟩
 refine zQ I (due now' S.τ.x.l) ?_ ?_
 ·rw[hI]
  exact⟨0,L1,per,sv,pv,ov,S,S',ρ,rfl,o1,pk,cb1,sim,ci,by have:=ci.tg.few;have:=zjj now' S.τ.x.l;omega,rfl,hl1,by simp[e0],by simp⟩
 clear o1 cb1 hl1 kb o pk
 intro q E t K' hi
 rw[hI]at hi
 obtain⟨j,Lb,per,sv,pv,ov,S1,S1',ρ1,rfl,o,pk,cb,sim1,ci1,hj,hlen,hl1,e0,e37⟩:=hi
 have rd:∀i,i<5→rdL K' (b,i) none=([AV.p (some (s,0)),.p (some (c,0)),.p (some (u,0)),.p (some (m,0)),.i .i64 now'])[i]?:=fun i _=>zk (o.old b _ hbu cb.bed)
 have r0:rdL K' (b,0) none=some (.p (some (s,0))):=rd 0 (by omega)
 have r2:rdL K' (b,2) none=some (.p (some (u,0))):=rd 2 (by omega)
 have r4:rdL K' (b,4) none=some (.i .i64 now'):=rd 4 (by omega)
 have hl3:=fun X k=>o.slO.len (F:=F) X k
 unfold D_f212_36
 rw[e0,e37]
 have hle:(j:Int)≤(S1'.τ.ones.length:Int):=by rw[sim1.x];omega
 simp only[zf,zg,zj,Nat.zero_add,Nat.add_zero,zt,r2,o.r3,zh,hl3,zbC]
 rw[decide_eq_true hle]
 simp only[zZ]
 unfold D_f212_40
 rw[e0]
 simp only[zf,zg,zj,Nat.zero_add,Nat.add_zero,zt,r0,r4,zh]
 have hpre:zu K' Lb:=o.back pk cb.rSet
 have hk1:k+j≤890000:=by omega
 have body:∀(ok:Bool) (fa:List AV) (Sa Sa':CX) (La:Lg),fa.length=7→fa.all AV.one=true→CB La b s c u m now' Sa S1'→(∀q x,q≠b→L0 q=some (.raw x)→La q=some (.raw x)) →
   (∀Lc:Lg,CB Lc b s c u m now' Sa S1'→zd F k_f87 [.p (some (u,0)),.i .i64 now'] Lc fun v L'=>v=.tup [.agg fa,.b ok]∧CB L' b s c u m now' Sa Sa'∧∀q x,Lc q=some (.raw x)→L' q=some (.raw x)) →
   (∀(x8:Nat) (Lc:Lg),Lc x8=some (.raw (.cells fa))→CB Lc b s c u m now' Sa Sa'→(∀q x,q≠b→L0 q=some (.raw x)→Lc q=some (.raw x))→∀E2:Env,E2 0=.p (some (b,0))→E2 37=.i .i64 j→E2 38=.p (some (x8,0))→E2 39=.b ok→(∃x9,E2 40=.p (some (x9,0))∧Lc x9=some (.raw (.cells fa)))→D_f212_43 F Q (fun E2 K2=>∃m,m<due now' S1.τ.x.l∧I m E2 K2) E2 Lc) →
   (∃w0 w1 w2 w4:Int,fa[0]?=some (.i .i64 w0)∧fa[1]?=some (.i .i64 w1)∧fa[2]?=some (.i .i64 w2)∧fa[4]?=some (.i .i64 w4)) →
   za F (.ext 0) [.tup [.agg fa,.b ok]] La fun v8 L8=>za F (.ext 1) [.tup [.agg fa,.b ok]] L8 fun v9 L9=>za F (.alloc [.i .i64 0,.i .i64 0,.i .i64 0,.i .i64 0,.i .i64 0,.sl none 0 0 0,.b false]) [] L9 fun v10 L10=>za F (.st 7) [v10,v8] L10 fun _ L11=>D_f212_41 F Q (fun E2 K2=>∃m,m<due now' S1.τ.x.l∧I m E2 K2) (Env.put (Env.put E 38 v10) 39 v9) L11:=by
  intro ok fa Sa Sa' La f7 f1 cba hla hfire next ⟨w0,w1,w2,w4,fa0,fa1,fa2,fa4⟩
  simp only[zf,yb,List.getElem?_cons_zero,List.getElem?_cons_succ,zh,xa]
  intro x8 hx8
  rw[yv,zw (ze _ _ _) f1 f7 (by simp),zA,W7 f7]
  have cbb:=cba.sub (xW hx8 (.raw (.cells fa)))
  have hlb:∀q x,q≠b→L0 q=some (.raw x)→(La.put x8 (.raw (.cells fa))) q=some (.raw x):=fun q x h8 h9=>xW hx8 _ _ _ (hla q x h8 h9)
  have k8:(La.put x8 (.raw (.cells fa))) x8=some (.raw (.cells fa)):=ze _ _ _
  generalize (La.put x8 (.raw (.cells fa)))=Lc at cbb hlb k8
  unfold D_f212_41
  have g0:(Env.put (Env.put E 38 (.p (some (x8,0)))) 39 (.b ok)) 0=.p (some (b,0)):=by simp[e0]
  have g37:(Env.put (Env.put E 38 (.p (some (x8,0)))) 39 (.b ok)) 37=.i .i64 j:=by simp[e37]
  have g38:(Env.put (Env.put E 38 (.p (some (x8,0)))) 39 (.b ok)) 38=.p (some (x8,0)):=by simp
  have g39:(Env.put (Env.put E 38 (.p (some (x8,0)))) 39 (.b ok)) 39=.b ok:=by simp
  generalize (Env.put (Env.put E 38 (.p (some (x8,0)))) 39 (.b ok))=E1 at g0 g37 g38 g39
  rw[g0]
  simp only[zf,zg,zj,Nat.zero_add,Nat.add_zero,zt,cbb.b2,cbb.b4,zh]
  refine (hfire Lc cbb).mono ?_
  rintro _ Ld ⟨rfl,cbd,keep⟩
  simp only[zf,yb,List.getElem?_cons_zero,List.getElem?_cons_succ,zh,xa]
  intro x9 hx9
  rw[yv,zw (ze _ _ _) f1 f7 (by simp),zA,W7 f7]
  have cbe:=cbd.sub (xW hx9 (.raw (.cells fa)))
  have hle:∀q x,q≠b→L0 q=some (.raw x)→(Ld.put x9 (.raw (.cells fa))) q=some (.raw x):=fun q x h8 h9=>xW hx9 _ _ _ (keep q x (hlb q x h8 h9))
  have k9:(Ld.put x9 (.raw (.cells fa))) x9=some (.raw (.cells fa)):=ze _ _ _
  have k8':(Ld.put x9 (.raw (.cells fa))) x8=some (.raw (.cells fa)):=xW hx9 _ _ _ (keep _ _ k8)
  generalize (Ld.put x9 (.raw (.cells fa)))=Le at cbe hle k9 k8'
  unfold D_f212_42
  have i0:(Env.put (Env.put E1 40 (.p (some (x9,0)))) 41 (.b ok)) 0=.p (some (b,0)):=by simp[g0]
  have i37:(Env.put (Env.put E1 40 (.p (some (x9,0)))) 41 (.b ok)) 37=.i .i64 j:=by simp[g37]
  have i38:(Env.put (Env.put E1 40 (.p (some (x9,0)))) 41 (.b ok)) 38=.p (some (x8,0)):=by simp[g38]
  have i39:(Env.put (Env.put E1 40 (.p (some (x9,0)))) 41 (.b ok)) 39=.b ok:=by simp[g39]
  have i40:(Env.put (Env.put E1 40 (.p (some (x9,0)))) 41 (.b ok)) 40=.p (some (x9,0)):=by simp
  have i41:(Env.put (Env.put E1 40 (.p (some (x9,0)))) 41 (.b ok)) 41=.b ok:=by simp
  generalize (Env.put (Env.put E1 40 (.p (some (x9,0)))) 41 (.b ok))=E2 at i0 i37 i38 i39 i40 i41
  rw[i38,i39,i40,i41]
  have hneq:∀k:AV→Lg→Prop,za F (.eq true .bool) [.b ok,.b ok] Le k=k (.b false) Le:=by intro k;cases ok<;>simp
  have p0:rdL Le (x8,0) none=some (.i .i64 w0):=by rw[zk k8',fa0]
  have p1:rdL Le (x8,1) none=some (.i .i64 w1):=by rw[zk k8',fa1]
  have p2:rdL Le (x8,2) none=some (.i .i64 w2):=by rw[zk k8',fa2]
  have p4:rdL Le (x8,4) none=some (.i .i64 w4):=by rw[zk k8',fa4]
  have q0:rdL Le (x9,0) none=some (.i .i64 w0):=by rw[zk k9,fa0]
  have q1:rdL Le (x9,1) none=some (.i .i64 w1):=by rw[zk k9,fa1]
  have q2:rdL Le (x9,2) none=some (.i .i64 w2):=by rw[zk k9,fa2]
  have q4:rdL Le (x9,4) none=some (.i .i64 w4):=by rw[zk k9,fa4]
  simp only[zf,hneq,zx,zj,Nat.zero_add,Nat.add_zero,zt,p0,p1,p2,p4,q0,q1,q2,q4,zh,w7,ne_eq,not_true_eq_false,decide_false,zX,zB]
  exact next x8 Le k8' cbe hle E2 i0 i37 i38 i39 ⟨x9,i40,k9⟩
 refine zd.pre hpre ?_
 rcases (zjb (b:=b) (s:=s) (c:=c) (u:=u) (m:=m) h1 h2 sim1 ci1 hk1 now').p with⟨f1,f2⟩ | ⟨x',id,kind,when,data,ci2,hdue,f1,f2⟩
 ·refine (f1 Lb cb).mono ?_
  rintro _ La ⟨rfl,rfl⟩
  refine body false (fcc 0 0 0 0 0) S1 S1' La rfl rfl cb hl1 (fun Lc cbc=>(f2 Lc cbc).mono ?_) ?_ ⟨0,0,0,0,rfl,rfl,rfl,rfl⟩
  ·rintro _ L' ⟨rfl,rfl⟩
   exact⟨rfl,cbc,fun _ _ h=>h⟩
  ·intro x8 Lc k8 cbc hlc E2 g0 g37 g38 g39 _
   unfold D_f212_43
   rw[g39]
   simp only[zf,yf,Bool.not_false,zZ]
   exact⟨Lc,zu.refl _,hQ _ ⟨⟨now',ρ1,S1,S1',cbc,sim1,ci1.mono (by omega),by omega⟩,hlc⟩⟩
 ·refine (f1 Lb cb).mono ?_
  rintro _ La ⟨rfl,rfl⟩
  have cba:=cb.putS { S1.τ with x:=x' }
  have sim2:Sim ρ1 ({ S1 with τ:={ S1.τ with x:=x' } }:CX) ({ S1' with τ:={ S1.τ with x:=x' } }:CX):=sim1.setX _
  have hna:∀q x,Lb q=some (.raw x)→(Lb.put s (.abs (ZT s { S1.τ with x:=x' }))) q=some (.raw x):=fun q x hq=>by
   rw[zb _ _ _ (by rintro rfl;rw[cb.pSet]at hq;cases hq)];exact hq
  refine body true (fcc id kind when now' data) _ ({ S1' with τ:={ S1.τ with x:=x' } }:CX) _ rfl rfl cba (fun q x h8 h9=>hna q x (hl1 q x h8 h9)) (fun Lc cbc=>(f2 Lc _ cbc).mono ?_) ?_ ⟨id,kind,when,data,rfl,rfl,rfl,rfl⟩
  ·rintro _ L' ⟨rfl,rfl⟩
   exact⟨rfl,cbc.putU _,fun q x hq=>by rw[zb _ _ _ (by rintro rfl;rw[cbc.rSet]at hq;cases hq)];exact hq⟩
  ·intro x8 Lc k8 cbc hlc E2 g0 g37 g38 g39 ⟨x9,g40,k9⟩
   unfold D_f212_43
   rw[g39]
   simp only[zf,yf,Bool.not_true,zB]
   unfold D_f212_44
   rw[g0,g38]
   have p4:rdL Lc (x8,4) none=some (.i .i64 data):=by rw[zk k8];rfl
   obtain⟨r,r',hr,e2,e3,e4,e5,e6,e7⟩:=zcb ci2 sim2 data
   simp only[zf,zg,zj,Nat.zero_add,zt,cbc.b1,p4,zh]
   refine (XX h3 hr cbc.pe cbc.po).mono ?_
   rintro _ L3 ⟨v1,v2,rfl,cd,rw1⟩
   have cb3:=cbc.prog cd (fun q hq=>.inl (yY (vd ci2.wf hr) hq))
   have k9':=cbc.rawProg cd k9
   simp only[zf,yb,List.getElem?_cons_zero,List.getElem?_cons_succ,zh]
   unfold D_f212_45
   have j0:(Env.put (Env.put (Env.put E2 42 v1) 43 v2) 44 (.i .i64 r.2.2.2)) 0=.p (some (b,0)):=by simp[g0]
   have j37:(Env.put (Env.put (Env.put E2 42 v1) 43 v2) 44 (.i .i64 r.2.2.2)) 37=.i .i64 j:=by simp[g37]
   have j40:(Env.put (Env.put (Env.put E2 42 v1) 43 v2) 44 (.i .i64 r.2.2.2)) 40=.p (some (x9,0)):=by simp[g40]
   have j42:(Env.put (Env.put (Env.put E2 42 v1) 43 v2) 44 (.i .i64 r.2.2.2)) 42=v1:=by simp
   have j43:(Env.put (Env.put (Env.put E2 42 v1) 43 v2) 44 (.i .i64 r.2.2.2)) 43=v2:=by simp
   have j44:(Env.put (Env.put (Env.put E2 42 v1) 43 v2) 44 (.i .i64 r.2.2.2)) 44=.i .i64 r.2.2.2:=by simp
   generalize (Env.put (Env.put (Env.put E2 42 v1) 43 v2) 44 (.i .i64 r.2.2.2))=E3 at j0 j37 j40 j42 j43 j44
   rw[j0,j40,j42,j43,j44]
   have p9:rdL L3 (x9,4) none=some (.i .i64 data):=by rw[zk k9'];rfl
   simp only[zf,zg,zj,Nat.zero_add,zt,cb3.b3,p9,zh]
   have wf':=sim2.wf ci2.wf
   have tf:TFine ({ S1' with τ:={ S1.τ with x:=x' } }:CX).τ ((k+j+1:Nat):Int):=ci2.tg.tf (by omega)
   refine (Ya h4 wf' (sim2.ao ci2.ao) tf cb3.re cb3.ro data).mono ?_
   rintro _ L4 ⟨q',y1,y2,hr',rfl,dr,rr,_⟩
   rw[hr']at e2
   cases e2
   have cb4:=cb3.refd dr (zbN wf' hr') (fun q hq=>.inl (yY (vd wf' hr') hq))
   have l1:=rw1.laps.1.mono (K':=L4) (fun q x hq=>cb3.rawRef dr hq)
   have m1:=rw1.laps.2.monoR (K':=L4) (fun q x hq=>cb3.rawRef dr hq)
   rw[e4]at rr ⊢
   have l2:=rr.laps.1
   have m2:=rr.laps.2
   simp only[zf,yb,List.getElem?_cons_zero,List.getElem?_cons_succ,zh]
   refine (wP h5 l1 l2 e7 (by omega)).mono ?_
   rintro _ L5 ⟨rfl,rfl⟩
   simp only[zf,yf,Bool.not_true,zx,yk,xG]
   refine Y9 (u:=u) (vu h6 m1 m2 e7.s) ?_
   rintro _ L6 ⟨rfl,rfl⟩
   refine⟨_,cb4.rSet,fun per' sv' pv' ov' K6 o6 pk6=>?_⟩
   simp only[zf,yf,Bool.not_true,zx,yk,w7,ne_eq,not_true_eq_false,decide_false,zX,zB]
   unfold D_f212_38
   have w1:wr .i64 ((j:Int)+1)=((j+1:Nat):Int):=by rw[zS (by omega) (by omega)];omega
   have z37:(Env.put (Env.put (Env.put E3 45 y1) 46 y2) 47 (.i .i64 r.2.2.2)) 37=.i .i64 j:=by simp[j37]
   have z0:(Env.put (Env.put (Env.put E3 45 y1) 46 y2) 47 (.i .i64 r.2.2.2)) 0=.p (some (b,0)):=by simp[j0]
   generalize (Env.put (Env.put (Env.put E3 45 y1) 46 y2) 47 (.i .i64 r.2.2.2))=E4 at z37 z0
   rw[z37]
   simp only[zf,xl,w1]
   have hd2:=e6.due now'
   have ho2:=e6.ones
   simp only at hd2 ho2
   rw[hI]
   exact⟨due now' r.1.τ.x.l,by omega,j+1,L6,per',sv',pv',ov',r.1,r'.1,ρ1,rfl,o6,pk6,cb4,e3,by rw[show k+(j+1)=k+j+1 by omega];exact e5,by omega,by rw[ho2];exact hlen,fun q x h8 h9=>cb3.rawRef dr (cbc.rawProg cd (hlc q x h8 h9)),by simp[z0],by simp⟩
end
end
section
variable {F:Nat→Option AFn}
theorem GoodS.waits {y:Ch}{k:Nat}(h:GoodS y k)(w:Wt):GoodS (y.waits w false).1 (k+1):=by
 have h':=h.mono (Nat.le_succ k)
 unfold Ch.waits
 split
 ·exact h'
 ·split
  ·exact h'
  ·split
   ·exact h'
   ·exact⟨h.sends,h.vals,h.timed,h.sig,h.cap,by have:=h.recvs;simp;omega⟩
theorem WA (hf:H_f98 F)(L:Lg)(w:Wt)(send:Bool):zd F k_f98 [.p none,w.av,.b send] L fun v L'=>v=.i .i64 6∧L'=L:=by
 refine zr ?_
 intro Q hQ
 apply r_f98 hf.code
 unfold D_f94 Wt.av
 simp only[zf,ZB]
 rw[zN _ _ _ (Wt.one3 w)]
 intro b0 hb0
 simp only[zf,Z4,Bool.not_false,zZ]
 exact⟨L,((yd.refl L).put hb0 _).sees,hQ _ _ ⟨rfl,rfl⟩⟩
def dn (σ:Cs)(id:Int):Option Nat:=match σ.one id with | some o=>o.c | none=>none
section
variable {L L2:Lg} {b s c u m:Nat} {now:Int} {S S' S1:CX} {ρ:Nat→Nat} {k:Nat}
theorem Vt (hf:H_f157 F)(e:L c=some (.abs (YA c S.σ)))(id:Int):zd F k_f157 [.p (some (c,0)),.i .i64 id] L fun v L'=>v=.tup [ptr (dn S.σ id),.i .i64 (if S.σ.has id=true then 0 else 4)]∧L'=L:=zaq hf e id
theorem YK (hf:H_f211 F)(e:L m=some (.abs (wu m S.σ)))(hn:zbv S.σ)(id:Int):zd F k_f211 [.p (some (m,0)),.i .i64 id] L fun v L'=>v=.tup [ptr (dn S.σ id),.i .i64 (if S.σ.has id=true then 0 else 4)]∧L'=L:=zdp hf e hn id
theorem Sim.one (h:Sim ρ S S')(id:Int):S'.σ.one id=(S.σ.one id).map (rn ρ):=by
 unfold Cs.one
 rw[h.has,h.get]
 split<;>rfl
theorem Sim.dn (h:Sim ρ S S')(id:Int):dn S'.σ id=(dn S.σ id).map ρ:=by
 unfold Go.AM.dn
 rw[h.one]
 cases S.σ.one id<;>rfl
theorem zfi {id:Int}{a:Nat}(h:dn S.σ id=some a):xd S a:=by
 unfold dn Cs.one at h
 split at h
 ·rename_i o ho
  split at ho
  ·exact⟨o,List.mem_of_getElem? ho,h⟩
  ·cases ho
 ·cases h
theorem zdS (h:Sim ρ S S'){a:Nat}(u:xd S a):xd S' (ρ a):=by
 obtain⟨x,hx,hc⟩:=u
 exact⟨rn ρ x,by rw[h.ones];exact List.mem_map.2 ⟨x,hx,rfl⟩,by simp[rn,hc]⟩
theorem CB.putP (h:CB L b s c u m now S S'){a:Nat}(ha:xd S a)(y:Ch):CB (L.put a (.abs (yu a y))) b s c u m now ({ S with χ:=y9 S.χ a y }:CX) S':=by
 have pa:PN c S a:=.inr (.inr ha)
 obtain⟨x,hx,hc⟩:=ha
 have hch:=h.po.chs x hx a hc
 have ne:∀r d,r≠a→L r=some d→(L.put a (.abs (yu a y))) r=some d:=fun r d h1 h2=>by rw[zb _ _ _ h1];exact h2
 have rn':∀r,PN m S' r→r≠a:=fun r hr=>by rintro rfl;exact h.ap r pa hr
 exact⟨ne _ _ (by rintro rfl;exact h.rawP h.bed pa) h.bed,ne _ _ (Ne.symm hch.1) h.pe,h.po.chan ⟨x,hx,hc⟩ y,ne _ _ (rn' m (.inl rfl)) h.re,⟨fun s' hs'=>⟨(h.ro.tms s' hs').1,ne _ _ (rn' s' (.inr (.inl hs'))) (h.ro.tms s' hs').2⟩,fun o ho a' ha'=>⟨(h.ro.chs o ho a' ha').1,(h.ro.chs o ho a' ha').2.1,ne _ _ (rn' a' (.inr (.inr ⟨o,ho,ha'⟩))) (h.ro.chs o ho a' ha').2.2⟩⟩,h.t,h.t',h.ap⟩
theorem CB.putR (h:CB L b s c u m now S S'){a:Nat}(ha:xd S' a)(y:Ch):CB (L.put a (.abs (ZW a y))) b s c u m now S ({ S' with χ:=y9 S'.χ a y }:CX):=by
 have pa:PN m S' a:=.inr (.inr ha)
 obtain⟨x,hx,hc⟩:=ha
 have hch:=h.ro.chs x hx a hc
 have ne:∀r d,r≠a→L r=some d→(L.put a (.abs (ZW a y))) r=some d:=fun r d h1 h2=>by rw[zb _ _ _ h1];exact h2
 have rn':∀r,PN c S r→r≠a:=fun r hr=>by rintro rfl;exact h.ap r hr pa
 refine⟨ne _ _ (by rintro rfl;exact h.rawR h.bed pa) h.bed,ne _ _ (rn' c (.inl rfl)) h.pe,⟨fun s' hs'=>⟨(h.po.tms s' hs').1,ne _ _ (rn' s' (.inr (.inl hs'))) (h.po.tms s' hs').2⟩,fun o ho a' ha'=>⟨(h.po.chs o ho a' ha').1,(h.po.chs o ho a' ha').2.1,ne _ _ (rn' a' (.inr (.inr ⟨o,ho,ha'⟩))) (h.po.chs o ho a' ha').2.2⟩⟩,ne _ _ (Ne.symm hch.1) h.re,⟨fun s' hs'=>⟨(h.ro.tms s' hs').1,ne _ _ (by rintro rfl;exact hch.2.1 hs') (h.ro.tms s' hs').2⟩,fun o ho a' ha'=>?_⟩,h.t,h.t',h.ap⟩
 obtain⟨g1,g2,g3⟩:=h.ro.chs o ho a' ha'
 refine⟨g1,g2,?_⟩
 by_cases e:a'=a
 ·subst e;rw[ze];simp[y9]
 ·rw[zb _ _ _ e,g3];simp[y9,e]
theorem CB.chP (h:CB L b s c u m now S S'){a:Nat}(ha:xd S a):L a=some (.abs (yu a (S.χ a))):=by obtain⟨x,hx,hc⟩:=ha;exact (h.po.chs x hx a hc).2.2
theorem CB.chR (h:CB L b s c u m now S S'){a:Nat}(ha:xd S' a):L a=some (.abs (ZW a (S'.χ a))):=by obtain⟨x,hx,hc⟩:=ha;exact (h.ro.chs x hx a hc).2.2
end
section
variable {L L0:Lg} {b s c u m x3:Nat} {now:Int} {S S':CX} {ρ:Nat→Nat} {k cn:Nat} {kd n d:Int} {Q:AV→Lg→Prop}
theorem zdq (h1:H_f157 F)(h2:H_f211 F)(h3:H_f98 F)(h4:H_f100 F)(cb:CB L b s c u m now S S')(sim:Sim ρ S S')(ci:CI S k)(hk:k≤800000)(hcn:S.τ.ones.length≤cn)(hx:L x3=some (.raw (.cells [.i .i64 kd,.i .i64 n,.i .i64 d])))
  (hl:∀q x,q≠b→L0 q=some (.raw x)→L q=some (.raw x)) (hQ:∀L2,wX L0 b s c u m (k+100) (cn+1) L2→Q (.b true) L2):D_f212_48 F Q (.p (some (b,0))) (.p (some (x3,0))) L:=by
 unfold D_f212_48
 have x1:rdL L (x3,1) none=some (.i .i64 n):=by rw[zk hx];rfl
 have x2:rdL L (x3,2) none=some (.i .i64 d):=by rw[zk hx];rfl
 simp only[zf,zg,zj,Nat.zero_add,zt,cb.b1,x1,zh]
 refine (Vt h1 cb.pe n).mono ?_
 rintro _ K1 ⟨rfl,rfl⟩
 simp only[zf,yb,List.getElem?_cons_zero,List.getElem?_cons_succ,zh]
 unfold D_f212_49
 simp only[zf,zg,zj,Nat.zero_add,zt,cb.b3,x1,zh]
 refine (YK h2 cb.re (sim.wf ci.wf).nodes n).mono ?_
 rintro _ K2 ⟨rfl,rfl⟩
 rw[sim.dn,sim.has]
 have hb:∀k:AV→Lg→Prop,za F (.build [.i .i64 0,.i .i64 0,.i .i64 0] [(0,1)]) [.i .i64 d] K2 k=k (.agg (Wt.cells ⟨d,0,0⟩)) K2:=by
  intro k;simp[zE,zo,zq,zp,Wt.cells]
 simp only[zf,yb,List.getElem?_cons_zero,List.getElem?_cons_succ,zh,zj,Nat.zero_add,zt,x2,hb,xa]
 intro x4 hx4
 rw[yv,zw (ze _ _ _) (Wt.one3 _) (Wt.len3 _) (by simp),zA,zbP]
 have cb4:=cb.sub (xW hx4 (.raw (.cells (Wt.cells ⟨d,0,0⟩))))
 have hl4:∀q x,q≠b→L0 q=some (.raw x)→(K2.put x4 (.raw (.cells (Wt.cells ⟨d,0,0⟩)))) q=some (.raw x):=fun q x h8 h9=>xW hx4 _ _ _ (hl q x h8 h9)
 have k4:(K2.put x4 (.raw (.cells (Wt.cells ⟨d,0,0⟩)))) x4=some (.raw (.cells (Wt.cells ⟨d,0,0⟩))):=ze _ _ _
 generalize (K2.put x4 (.raw (.cells (Wt.cells ⟨d,0,0⟩))))=K4 at cb4 hl4 k4
 have r4:rdL K4 (x4,0) (some 3)=some (Wt.av ⟨d,0,0⟩):=by rw[yj k4 (by simp[Wt.cells])];rfl
 have sw:vk (Wt.av ⟨d,0,0⟩) (Wt.av ⟨d,0,0⟩)=true:=by simp[Wt.av,Wt.cells,vk,zaR,YD,wR]
 cases hd:dn S.σ n with
 | none =>
  have hp:∀k:AV→Lg→Prop,za F (.eq false .ptr) [.p none,.p none] K4 k=k (.b true) K4:=by intro k;simp
  simp only[zf,ZP,zx,yk,Option.map_none,Xn,hp,zhU,zT,zt,r4,zh,xG]
  refine (WA h3 K4 _ _).mono ?_
  rintro _ K5 ⟨rfl,rfl⟩
  simp only[zf,zx,yk,zt,r4,zh,xG]
  refine (VD h4 K5 _ _).mono ?_
  rintro _ K6 ⟨rfl,rfl⟩
  simp only[zf,zx,ZP,zT]
  refine⟨⟨by simp[Y7,z8,yB,Xm,r4,sw],trivial⟩,K6,zu.refl _,hQ _ ⟨⟨now,ρ,S,S',cb4,sim,ci.mono (by omega),by omega⟩,hl4⟩⟩
 | some a =>
  have ua:=zfi hd
  have ua':=zdS sim ua
  have hp:∀(q:Nat) (k:AV→Lg→Prop),za F (.eq false .ptr) [.p (some (q,0)),.p none] K4 k=k (.b false) K4:=by intro q k;simp
  simp only[zf,ZP,zx,yk,Option.map_some,VQ,hp,zhU,zT,zt,r4,zh,xG]
  have gd:=ci.ch a
  refine (zdR h3 (cb4.chP ua) ⟨d,0,0⟩ false (by have:=gd.recvs;simp[Ch.wait];omega) (by have:=gd.sends;simp[Ch.wait,this])).mono ?_
  rintro _ K5 ⟨rfl,rfl⟩
  have cb5:=cb4.putP ua ((S.χ a).waits ⟨d,0,0⟩ false).1
  have x4a:x4≠a:=by rintro rfl;rw[cb4.chP ua]at k4;cases k4
  have k5:(K4.put a (.abs (yu a ((S.χ a).waits ⟨d,0,0⟩ false).1))) x4=some (.raw (.cells (Wt.cells ⟨d,0,0⟩))):=by rw[zb _ _ _ x4a];exact k4
  have hl5:∀q x,q≠b→L0 q=some (.raw x)→(K4.put a (.abs (yu a ((S.χ a).waits ⟨d,0,0⟩ false).1))) q=some (.raw x):=fun q x h8 h9=>by rw[zb _ _ _ (by rintro rfl;have:=hl4 q x h8 h9;rw[cb4.chP ua]at this;cases this)];exact hl4 q x h8 h9
  generalize (K4.put a (.abs (yu a ((S.χ a).waits ⟨d,0,0⟩ false).1)))=K6 at cb5 k5 hl5
  have r5:rdL K6 (x4,0) (some 3)=some (Wt.av ⟨d,0,0⟩):=by rw[yj k5 (by simp[Wt.cells])];rfl
  simp only[zf,zx,yk,zt,r5,zh,xG]
  have hχ:S'.χ (ρ a)=S.χ a:=sim.c a ua
  have e6:=cb5.chR ua'
  rw[hχ]at e6
  refine (zcO h4 e6 gd.sends (by have:=gd.recvs;omega) ⟨d,0,0⟩).mono ?_
  rintro _ K7 ⟨rfl,rfl⟩
  have cb6:=cb5.putR ua' ((S.χ a).waits ⟨d,0,0⟩ false).1
  obtain⟨sim6,ci6⟩:=zhA ci sim ua (gd.waits ⟨d,0,0⟩) (by omega)
  simp only[zf,zx,ZP,zT]
  refine⟨⟨by simp[Y7,z8,yB,Xm,r4,r5,sw],trivial⟩,_,zu.refl _,hQ _ ⟨⟨now,ρ,_,_,cb6,sim6,ci6.mono (by omega),Nat.le_trans hcn (by omega)⟩,fun q x h8 h9=>?_⟩⟩
  rw[zb _ _ _ (fun h0=>by have:=hl5 q x h8 h9;rw[h0,e6]at this;cases this)];exact hl5 q x h8 h9
end
end
section
variable {F:Nat→Option AFn}
theorem Ur {f:Nat}{vs:List AV}{L:Lg}{a:Nat}{Q Q':AV→Lg→Prop}(h:zd F f vs L Q)(hq:∀v L',Q v L'→∃x,L' a=some (.abs (ZW a x))∧∀bv sv rv K,CROpen L' a x bv sv rv K→Q' v K):zd F f vs L Q':=by
 refine h.outO ?_
 intro v L' hv
 obtain⟨x,e,hh⟩:=hq v L' hv
 refine⟨a,_,e,?_⟩
 rintro hm ⟨bv,sv,rv,M,o,hs⟩
 refine⟨M,hs,by rw[o.root];simp,fun hf=>?_⟩
 have hi:∀b d,M b=some d→(M.over L') b=some d:=fun b d h=>by simp[Lg.over,h]
 have sb:∀{v:AV} {cs:List AV} {n z:Nat},OSe M v cs n z→OSe (M.over L') v cs n z:=fun h=>h.sub fun b d _ hd=>hi b d hd
 refine hh bv sv rv (M.over L') ⟨hi _ _ o.root,sb o.bs,sb o.ss,sb o.rs,fun b hb=>⟨(o.a1 b hb).1,hf b _ (o.bs.block hb) (o.a1 b hb).1⟩,fun b hb=>⟨(o.a2 b hb).1,hf b _ (o.ss.block hb) (o.a2 b hb).1,(o.a2 b hb).2.2⟩,
  fun b hb=>⟨(o.a3 b hb).1,hf b _ (o.rs.block hb) (o.a3 b hb).1,(o.a3 b hb).2.2⟩,fun r d hr hd=>?_,o.len⟩
 have:M r=none:=by
  cases h:M r with
  | none=>rfl
  | some e=>have:=hf r e h hr;rw[hd]at this;cases this
 simp[Lg.over,this,hd]
def VW (σ:Cs)(id:Int):Int:=match σ.one id with | some o=>o.err | none=>0
def wc (σ:Cs)(id:Int):Int:=match σ.one id with | some o=>o.cause | none=>0
def Yg (σ:Cs)(id:Int):Int:=match σ.one id with | some o=>o.when | none=>0
def zcf (σ:Cs)(id:Int):Bool:=match σ.one id with | some o=>o.has | none=>false
def oIn (σ:Cs)(id:Int):Int:=if σ.has id=true then 0 else 4
section
variable {L L2:Lg} {b s c u m:Nat} {now:Int} {S S' S1:CX} {ρ:Nat→Nat} {k:Nat} {Q:AV→Lg→Prop}
theorem ze6 (hf:H_f149 F)(e:L c=some (.abs (YA c S.σ)))(id:Int):zd F k_f149 [.p (some (c,0)),.i .i64 id] L fun v L'=>v=.tup [.i .i64 (VW S.σ id),.i .i64 (oIn S.σ id)]∧L'=L:=zbi hf e id
theorem zbm (hf:H_f150 F)(e:L c=some (.abs (YA c S.σ)))(id:Int):zd F k_f150 [.p (some (c,0)),.i .i64 id] L fun v L'=>v=.tup [.i .i64 (wc S.σ id),.i .i64 (oIn S.σ id)]∧L'=L:=Uf hf e id
theorem zaL (hf:H_f147 F)(e:L c=some (.abs (YA c S.σ)))(id:Int):zd F k_f147 [.p (some (c,0)),.i .i64 id] L fun v L'=>v=.tup [.i .i64 (Yg S.σ id),.b (zcf S.σ id),.i .i64 (oIn S.σ id)]∧L'=L:=Ue hf e id
theorem ze5 (hf:H_f214 F)(e:L m=some (.abs (wu m S.σ)))(hn:zbv S.σ)(id:Int):zd F k_f214 [.p (some (m,0)),.i .i64 id] L fun v L'=>v=.tup [.i .i64 (VW S.σ id),.i .i64 (wc S.σ id),.i .i64 (oIn S.σ id)]∧L'=L:=ze4 hf e hn id
theorem zaK (hf:H_f215 F)(e:L m=some (.abs (wu m S.σ)))(hn:zbv S.σ)(id:Int):zd F k_f215 [.p (some (m,0)),.i .i64 id] L fun v L'=>v=.tup [.i .i64 (Yg S.σ id),.b (zcf S.σ id),.i .i64 (oIn S.σ id)]∧L'=L:=zaJ hf e hn id
theorem Sim.oAll (h:Sim ρ S S')(id:Int):VW S'.σ id=VW S.σ id∧wc S'.σ id=wc S.σ id∧Yg S'.σ id=Yg S.σ id∧zcf S'.σ id=zcf S.σ id∧oIn S'.σ id=oIn S.σ id:=by
 unfold VW wc Yg zcf oIn
 rw[h.one,h.has]
 cases S.σ.one id<;>exact⟨rfl,rfl,rfl,rfl,rfl⟩
theorem zaQ (hf:H_f216 F)(cb:CB L b s c u m now S S')(sim:Sim ρ S S')(ci:CI S k):zd F k_f216 [.p (some (b,0))] L fun v L'=>v=.b true∧L'=L:=by
 refine zr ?_
 intro Q hQ
 apply r_f216 hf.code
 generalize hE:zJ [AV.p (some (b,0))] 0=E
 have e0:E 0=.p (some (b,0)):=by rw[←hE];simp[zJ]
 clear hE
 unfold D_f216_1 D_f216_4 D_f216_6
 have nodes:=(sim.wf ci.wf).nodes
 have hsz:=ci.wf.sz.1
 obtain⟨I,hI⟩:∃I:Nat→Env→Lg→Prop,I=fun q E K'=>∃j:Nat,q+j=S.σ.ones.length+2∧E 0=.p (some (b,0))∧E 3=.i .i64 ((j:Int)-1)∧zu K' L∧∀r x,L r=some (.raw x)→K' r=some (.raw x):=⟨_,rfl⟩
 refine zQ I (S.σ.ones.length+2) ?_ ?_
 ·rw[hI]
  exact⟨0,by omega,by simp[e0],by simp,zu.refl _,fun _ _ h=>h⟩
 intro q E t K' hi
 rw[hI]at hi
 obtain⟨j,hj,e0,e3,hsee,hraw⟩:=hi
 have kb:=hraw _ _ cb.bed
 have kb3:rdL K' (b,3) none=some (.p (some (m,0))):=by rw[zk kb];rfl
 unfold D_f216_7
 rw[e0,e3]
 simp only[zf,zg,zj,Nat.zero_add,zt,kb3,zh]
 refine zd.pre hsee ((U6 hf.f213 cb.re).mono ?_)
 rintro _ L1 ⟨rfl,rfl⟩
 simp only[zf,zbC,zR]
 refine⟨fun hle=>?_,fun hle=>?_⟩
 rotate_left
 ·unfold D_f216_3
  simp only[zf,zg,zj,Nat.zero_add,zt,cb.b1,zh]
  refine (zbh hf.f155 cb.pe).mono ?_
  rintro _ L2 ⟨rfl,rfl⟩
  simp only[zf,zg,zj,Nat.zero_add,zt,cb.b3,zh]
  refine (U6 hf.f213 cb.re).mono ?_
  rintro _ L3 ⟨rfl,rfl⟩
  rw[sim.len]
  simp only[zf,ZP]
  exact⟨⟨by simp[z8,yB,Xm,cb.b3],trivial⟩,L3,zu.refl _,hQ _ _ ⟨rfl,rfl⟩⟩
 rw[sim.len]at hle
 obtain⟨id,hid⟩:∃id:Int,id=(j:Int)-1:=⟨_,rfl⟩
 rw[←hid]at e3 hle
 obtain⟨s1,s2,s3,s4,s5⟩:=sim.oAll id
 unfold D_f216_11
 rw[e0,e3]
 simp only[zf,zg,zj,Nat.zero_add,zt,cb.b1,zh]
 refine (ze6 hf.f149 cb.pe id).mono ?_
 rintro _ L2 ⟨rfl,rfl⟩
 simp only[zf,yb,List.getElem?_cons_zero,List.getElem?_cons_succ,zh]
 unfold D_f216_12
 obtain⟨E1,hE1⟩:∃E1,E1=(Env.put (Env.put E 4 (.i .i64 (VW S.σ id))) 5 (.i .i64 (oIn S.σ id))):=⟨_,rfl⟩
 have a0:E1 0=.p (some (b,0)):=by rw[hE1];simp[e0]
 have a3:E1 3=.i .i64 id:=by rw[hE1];simp[e3]
 have a4:E1 4=.i .i64 (VW S.σ id):=by rw[hE1];simp
 have a5:E1 5=.i .i64 (oIn S.σ id):=by rw[hE1];simp
 rw[←hE1,a0,a3]
 clear hE1
 simp only[zf,zg,zj,Nat.zero_add,zt,cb.b1,zh]
 refine (zbm hf.f150 cb.pe id).mono ?_
 rintro _ L3 ⟨rfl,rfl⟩
 simp only[zf,yb,List.getElem?_cons_zero,List.getElem?_cons_succ,zh]
 unfold D_f216_13
 obtain⟨E2,hE2⟩:∃E2,E2=(Env.put (Env.put E1 6 (.i .i64 (wc S.σ id))) 7 (.i .i64 (oIn S.σ id))):=⟨_,rfl⟩
 have b0:E2 0=.p (some (b,0)):=by rw[hE2];simp[a0]
 have b3:E2 3=.i .i64 id:=by rw[hE2];simp[a3]
 have b4:E2 4=.i .i64 (VW S.σ id):=by rw[hE2];simp[a4]
 have b5:E2 5=.i .i64 (oIn S.σ id):=by rw[hE2];simp[a5]
 have b6:E2 6=.i .i64 (wc S.σ id):=by rw[hE2];simp
 have b7:E2 7=.i .i64 (oIn S.σ id):=by rw[hE2];simp
 rw[←hE2,b0,b3]
 clear hE2
 simp only[zf,zg,zj,Nat.zero_add,zt,cb.b3,zh]
 refine (ze5 hf.f214 cb.re nodes id).mono ?_
 rintro _ L4 ⟨rfl,rfl⟩
 rw[s1,s2,s5]
 simp only[zf,yb,List.getElem?_cons_zero,List.getElem?_cons_succ,zh]
 unfold D_f216_14
 obtain⟨E3,hE3⟩:∃E3,E3=(Env.put (Env.put (Env.put E2 8 (.i .i64 (VW S.σ id))) 9 (.i .i64 (wc S.σ id))) 10 (.i .i64 (oIn S.σ id))):=⟨_,rfl⟩
 have c0:E3 0=.p (some (b,0)):=by rw[hE3];simp[b0]
 have c3:E3 3=.i .i64 id:=by rw[hE3];simp[b3]
 have c4:E3 4=.i .i64 (VW S.σ id):=by rw[hE3];simp[b4]
 have c5:E3 5=.i .i64 (oIn S.σ id):=by rw[hE3];simp[b5]
 have c6:E3 6=.i .i64 (wc S.σ id):=by rw[hE3];simp[b6]
 have c7:E3 7=.i .i64 (oIn S.σ id):=by rw[hE3];simp[b7]
 have c8:E3 8=.i .i64 (VW S.σ id):=by rw[hE3];simp
 have c9:E3 9=.i .i64 (wc S.σ id):=by rw[hE3];simp
 have c10:E3 10=.i .i64 (oIn S.σ id):=by rw[hE3];simp
 rw[←hE3,c0,c3]
 clear hE3
 simp only[zf,zg,zj,Nat.zero_add,zt,cb.b1,zh]
 refine (zaL hf.f147 cb.pe id).mono ?_
 rintro _ L5 ⟨rfl,rfl⟩
 simp only[zf,yb,List.getElem?_cons_zero,List.getElem?_cons_succ,zh]
 unfold D_f216_15
 obtain⟨E4,hE4⟩:∃E4,E4=(Env.put (Env.put (Env.put E3 11 (.i .i64 (Yg S.σ id))) 12 (.b (zcf S.σ id))) 13 (.i .i64 (oIn S.σ id))):=⟨_,rfl⟩
 have d0:E4 0=.p (some (b,0)):=by rw[hE4];simp[c0]
 have d3:E4 3=.i .i64 id:=by rw[hE4];simp[c3]
 have d4:E4 4=.i .i64 (VW S.σ id):=by rw[hE4];simp[c4]
 have d5:E4 5=.i .i64 (oIn S.σ id):=by rw[hE4];simp[c5]
 have d6:E4 6=.i .i64 (wc S.σ id):=by rw[hE4];simp[c6]
 have d7:E4 7=.i .i64 (oIn S.σ id):=by rw[hE4];simp[c7]
 have d8:E4 8=.i .i64 (VW S.σ id):=by rw[hE4];simp[c8]
 have d9:E4 9=.i .i64 (wc S.σ id):=by rw[hE4];simp[c9]
 have d10:E4 10=.i .i64 (oIn S.σ id):=by rw[hE4];simp[c10]
 have d11:E4 11=.i .i64 (Yg S.σ id):=by rw[hE4];simp
 have d12:E4 12=.b (zcf S.σ id):=by rw[hE4];simp
 have d13:E4 13=.i .i64 (oIn S.σ id):=by rw[hE4];simp
 rw[←hE4,d0,d3]
 clear hE4
 simp only[zf,zg,zj,Nat.zero_add,zt,cb.b3,zh]
 refine (zaK hf.f215 cb.re nodes id).mono ?_
 rintro _ L6 ⟨rfl,rfl⟩
 rw[s3,s4,s5]
 simp only[zf,yb,List.getElem?_cons_zero,List.getElem?_cons_succ,zh]
 unfold D_f216_16
 obtain⟨E5,hE5⟩:∃E5,E5=(Env.put (Env.put (Env.put E4 14 (.i .i64 (Yg S.σ id))) 15 (.b (zcf S.σ id))) 16 (.i .i64 (oIn S.σ id))):=⟨_,rfl⟩
 have f0:E5 0=.p (some (b,0)):=by rw[hE5];simp[d0]
 have f3:E5 3=.i .i64 id:=by rw[hE5];simp[d3]
 have f4:E5 4=.i .i64 (VW S.σ id):=by rw[hE5];simp[d4]
 have f5:E5 5=.i .i64 (oIn S.σ id):=by rw[hE5];simp[d5]
 have f6:E5 6=.i .i64 (wc S.σ id):=by rw[hE5];simp[d6]
 have f7:E5 7=.i .i64 (oIn S.σ id):=by rw[hE5];simp[d7]
 have f8:E5 8=.i .i64 (VW S.σ id):=by rw[hE5];simp[d8]
 have f9:E5 9=.i .i64 (wc S.σ id):=by rw[hE5];simp[d9]
 have f10:E5 10=.i .i64 (oIn S.σ id):=by rw[hE5];simp[d10]
 have f11:E5 11=.i .i64 (Yg S.σ id):=by rw[hE5];simp[d11]
 have f12:E5 12=.b (zcf S.σ id):=by rw[hE5];simp[d12]
 have f13:E5 13=.i .i64 (oIn S.σ id):=by rw[hE5];simp[d13]
 have f14:E5 14=.i .i64 (Yg S.σ id):=by rw[hE5];simp
 have f15:E5 15=.b (zcf S.σ id):=by rw[hE5];simp
 have f16:E5 16=.i .i64 (oIn S.σ id):=by rw[hE5];simp
 rw[←hE5,f0,f3]
 clear hE5
 simp only[zf,zg,zj,Nat.zero_add,zt,cb.b1,zh]
 refine (Vt hf.f157 cb.pe id).mono ?_
 rintro _ L7 ⟨rfl,rfl⟩
 have hin:(if S.σ.has id=true then (0:Int)else 4)=oIn S.σ id:=rfl
 rw[hin]
 simp only[zf,yb,List.getElem?_cons_zero,List.getElem?_cons_succ,zh]
 unfold D_f216_17
 obtain⟨E6,hE6⟩:∃E6,E6=(Env.put (Env.put E5 17 (ptr (dn S.σ id))) 18 (.i .i64 (oIn S.σ id))):=⟨_,rfl⟩
 have g0:E6 0=.p (some (b,0)):=by rw[hE6];simp[f0]
 have g3:E6 3=.i .i64 id:=by rw[hE6];simp[f3]
 have g4:E6 4=.i .i64 (VW S.σ id):=by rw[hE6];simp[f4]
 have g5:E6 5=.i .i64 (oIn S.σ id):=by rw[hE6];simp[f5]
 have g6:E6 6=.i .i64 (wc S.σ id):=by rw[hE6];simp[f6]
 have g7:E6 7=.i .i64 (oIn S.σ id):=by rw[hE6];simp[f7]
 have g8:E6 8=.i .i64 (VW S.σ id):=by rw[hE6];simp[f8]
 have g9:E6 9=.i .i64 (wc S.σ id):=by rw[hE6];simp[f9]
 have g10:E6 10=.i .i64 (oIn S.σ id):=by rw[hE6];simp[f10]
 have g11:E6 11=.i .i64 (Yg S.σ id):=by rw[hE6];simp[f11]
 have g12:E6 12=.b (zcf S.σ id):=by rw[hE6];simp[f12]
 have g13:E6 13=.i .i64 (oIn S.σ id):=by rw[hE6];simp[f13]
 have g14:E6 14=.i .i64 (Yg S.σ id):=by rw[hE6];simp[f14]
 have g15:E6 15=.b (zcf S.σ id):=by rw[hE6];simp[f15]
 have g16:E6 16=.i .i64 (oIn S.σ id):=by rw[hE6];simp[f16]
 have g17:E6 17=ptr (dn S.σ id):=by rw[hE6];simp
 have g18:E6 18=.i .i64 (oIn S.σ id):=by rw[hE6];simp
 rw[←hE6,g0,g3]
 clear hE6
 simp only[zf,zg,zj,Nat.zero_add,zt,cb.b3,zh]
 -- behind the last of them
 have last:∀(K:Lg) (E7:Env),zu K L7→(∀r x,L7 r=some (.raw x)→K r=some (.raw x))→E7=(Env.put (Env.put E6 19 (ptr ((dn S.σ id).map ρ))) 20 (.i .i64 (oIn S.σ id))) →
   (∀a,dn S.σ id=some a→K a=some (.abs (yu a (S.χ a)))∧rdL K (ρ a,3) none=some (.b (S.χ a).closed))→D_f216_18 F Q (fun E2 K2=>∃m,m<q∧I m E2 K2) E7 K:=by
  intro K E7 hs hr hE7 hch
  have i0:E7 0=.p (some (b,0)):=by rw[hE7];simp[g0]
  have i3:E7 3=.i .i64 id:=by rw[hE7];simp[g3]
  have i4:E7 4=.i .i64 (VW S.σ id):=by rw[hE7];simp[g4]
  have i5:E7 5=.i .i64 (oIn S.σ id):=by rw[hE7];simp[g5]
  have i6:E7 6=.i .i64 (wc S.σ id):=by rw[hE7];simp[g6]
  have i7:E7 7=.i .i64 (oIn S.σ id):=by rw[hE7];simp[g7]
  have i8:E7 8=.i .i64 (VW S.σ id):=by rw[hE7];simp[g8]
  have i9:E7 9=.i .i64 (wc S.σ id):=by rw[hE7];simp[g9]
  have i10:E7 10=.i .i64 (oIn S.σ id):=by rw[hE7];simp[g10]
  have i11:E7 11=.i .i64 (Yg S.σ id):=by rw[hE7];simp[g11]
  have i12:E7 12=.b (zcf S.σ id):=by rw[hE7];simp[g12]
  have i13:E7 13=.i .i64 (oIn S.σ id):=by rw[hE7];simp[g13]
  have i14:E7 14=.i .i64 (Yg S.σ id):=by rw[hE7];simp[g14]
  have i15:E7 15=.b (zcf S.σ id):=by rw[hE7];simp[g15]
  have i16:E7 16=.i .i64 (oIn S.σ id):=by rw[hE7];simp[g16]
  have i17:E7 17=ptr (dn S.σ id):=by rw[hE7];simp[g17]
  have i18:E7 18=.i .i64 (oIn S.σ id):=by rw[hE7];simp[g18]
  have i19:E7 19=ptr ((dn S.σ id).map ρ):=by rw[hE7];simp
  have i20:E7 20=.i .i64 (oIn S.σ id):=by rw[hE7];simp
  clear hE7
  have neqId:∀(z:Int) (k:AV→Lg→Prop),za F (.bin .neq) [.i .i64 z,.i .i64 z] K k=k (.b false) K:=by intro z k;simp
  have nebId:∀(z:Bool) (k:AV→Lg→Prop),za F (.eq true .bool) [.b z,.b z] K k=k (.b false) K:=by intro z k;cases z<;>simp
  have YN:D_f216_19 F Q (fun E2 K2=>∃m,m<q∧I m E2 K2) E7 (.b false) K:=by
   unfold D_f216_19 D_f216_9
   rw[i3]
   have w1:wr .i64 (id+1)=((j+1:Nat):Int)-1:=by rw[zS (by omega) (by omega)];omega
   simp only[zf,zB,xl,w1]
   rw[hI]
   exact⟨q-1,by omega,j+1,by omega,by simp[i0],by simp,hs,hr⟩
  unfold D_f216_18
  rw[i4,i5,i6,i7,i8,i9,i10,i11,i12,i13,i14,i15,i16,i17,i18,i19,i20]
  cases hd:dn S.σ id with
  | none =>
   have hp:∀k:AV→Lg→Prop,za F (.eq false .ptr) [.p none,.p none] K k=k (.b true) K:=by intro k;simp
   have hp2:∀k:AV→Lg→Prop,za F (.eq true .ptr) [.p none,.p none] K k=k (.b false) K:=by intro k;simp
   simp only[zf,neqId,nebId,zx,yk,zX,Option.map_none,Xn,hp,hp2,Ze,xv]
   exact⟨⟨by simp[Y7],trivial⟩,YN⟩
  | some a =>
   obtain⟨h1,h2⟩:=hch a hd
   have hp:∀(z:Nat) (k:AV→Lg→Prop),za F (.eq false .ptr) [.p (some (z,0)),.p none] K k=k (.b false) K:=by intro z k;simp
   have hp2:∀(z:Nat) (k:AV→Lg→Prop),za F (.eq true .ptr) [.p (some (z,0)),.p none] K k=k (.b true) K:=by intro z k;simp
   rw[show ptr (Option.map ρ (some a))=AV.p (some (ρ a,0))from rfl,show ptr (some a)=AV.p (some (a,0))from rfl]
   simp only[zf,neqId,nebId,zx,yk,zX,hp,hp2,xG]
   refine (Uh hf.f158 h1).mono ?_
   rintro _ K8 ⟨rfl,rfl⟩
   simp only[zf,zx,yk,zg,zj,Nat.zero_add,zt,h2,zh,nebId,zT,zX]
   exact⟨⟨by simp[Y7,z8,yB,Xm,h2],trivial⟩,YN⟩
 cases hd:dn S.σ id with
 | none =>
  refine (YK hf.f211 cb.re nodes id).mono ?_
  rintro _ L8 ⟨rfl,rfl⟩
  rw[sim.dn,hd]
  have hin':(if S'.σ.has id=true then (0:Int)else 4)=oIn S.σ id:=s5
  rw[hin']
  simp only[zf,yb,List.getElem?_cons_zero,List.getElem?_cons_succ,zh]
  exact last L8 _ (zu.refl _) (fun _ _ h=>h) (by rw[hd]) (fun a ha=>by rw[hd]at ha;cases ha)
 | some a =>
  have ua:=zfi hd
  have ua':=zdS sim ua
  refine Ur (a:=ρ a) (YK hf.f211 cb.re nodes id) ?_
  rintro _ L8 ⟨rfl,rfl⟩
  refine⟨_,cb.chR ua',fun bv sv rv K o=>?_⟩
  rw[sim.dn,hd]
  have hin':(if S'.σ.has id=true then (0:Int)else 4)=oIn S.σ id:=s5
  rw[hin']
  simp only[zf,yb,List.getElem?_cons_zero,List.getElem?_cons_succ,zh]
  have hraw:∀r x,L8 r=some (.raw x)→K r=some (.raw x):=fun r x hr=>o.old r _ (by rintro rfl;rw[cb.chR ua']at hr;cases hr) hr
  refine last K _ (o.back (cb.chR ua')) hraw (by rw[hd]) (fun a' ha'=>?_)
  rw[hd]at ha'
  cases ha'
  refine⟨o.old a _ (fun h9=>cb.ap a (.inr (.inr ua)) (by rw[h9];exact .inr (.inr ua'))) (cb.chP ua),?_⟩
  rw[o.r3,sim.c a ua]
end
end
section
variable {F:Nat→Option AFn}
section
variable {L L0:Lg} {b s c u m k cn:Nat}
theorem zds (hf:H_f212 F)(hbed:wX L0 b s c u m k cn L)(hk:k≤800000)(hcn:cn≤90)(kd n d:Int):zd F k_f212 [.p (some (b,0)),.agg [.i .i64 kd,.i .i64 n,.i .i64 d]] L fun v L'=>v=.b true∧wX L0 b s c u m (k+100) (cn+1) L':=by
 refine zr ?_
 intro Q hQ
 obtain⟨⟨now,ρ,S,S',cb,sim,ci,hc⟩,hl⟩:=hbed
 have hQ':∀L2,wX L0 b s c u m (k+100) (cn+1) L2→Q (.b true) L2:=fun L2 h=>hQ _ _ ⟨rfl,h⟩
 apply r_f212 hf.code
 generalize hE:zJ [AV.p (some (b,0)),.agg [.i .i64 kd,.i .i64 n,.i .i64 d]] 0=E
 have e0:E 0=.p (some (b,0)):=by rw[←hE];simp[zJ]
 have e1:E 1=.agg [.i .i64 kd,.i .i64 n,.i .i64 d]:=by rw[←hE];simp[zJ]
 clear hE
 unfold D_f212_1
 rw[e1]
 simp only[zf,ZB]
 rw[zN _ _ _ rfl]
 intro x3 hx3
 have cb1:=cb.sub (xW hx3 (.raw (.cells [.i .i64 kd,.i .i64 n,.i .i64 d])))
 have hl1:∀q x,q≠b→L0 q=some (.raw x)→(L.put x3 (.raw (.cells [.i .i64 kd,.i .i64 n,.i .i64 d]))) q=some (.raw x):=fun q x h8 h9=>xW hx3 _ _ _ (hl q x h8 h9)
 have hx:(L.put x3 (.raw (.cells [.i .i64 kd,.i .i64 n,.i .i64 d]))) x3=some (.raw (.cells [.i .i64 kd,.i .i64 n,.i .i64 d])):=ze _ _ _
 generalize (L.put x3 (.raw (.cells [.i .i64 kd,.i .i64 n,.i .i64 d])))=L1 at cb1 hl1 hx
 unfold D_f212_4
 have f0:(Env.put (Env.put E 3 (.p (some (x3,0)))) 4 (.b false)) 0=.p (some (b,0)):=by simp[e0]
 have f3:(Env.put (Env.put E 3 (.p (some (x3,0)))) 4 (.b false)) 3=.p (some (x3,0)):=by simp
 generalize (Env.put (Env.put E 3 (.p (some (x3,0)))) 4 (.b false))=E1 at f0 f3
 have r0:rdL L1 (x3,0) none=some (.i .i64 kd):=by rw[zk hx];rfl
 rw[f3]
 simp only[zf,zj,Nat.zero_add,zt,r0,zh]
 have g0:(Env.put E1 60 (.i .i64 kd)) 0=.p (some (b,0)):=by simp[f0]
 have g3:(Env.put E1 60 (.i .i64 kd)) 3=.p (some (x3,0)):=by simp[f3]
 have g60:(Env.put E1 60 (.i .i64 kd)) 60=.i .i64 kd:=by simp
 generalize (Env.put E1 60 (.i .i64 kd))=E2 at g0 g3 g60
 unfold D_f212_6 D_f212_7
 rw[g60,g0,g3]
 simp only[zf,xL,zR]
 refine⟨fun _=>zam hf.f143 hf.f202 hf.f203 cb1 sim ci hk hc hx hl1 hQ',fun _=>?_⟩
 unfold D_f212_10 D_f212_11
 rw[g60,g0,g3]
 simp only[zf,xL,zR]
 refine⟨fun _=>V9 hf.f144 hf.f204 hf.f203 cb1 sim ci hk hc hx hl1 hQ',fun _=>?_⟩
 unfold D_f212_14 D_f212_15
 rw[g60,g0,g3]
 simp only[zf,xL,zR]
 refine⟨fun _=>zak hf.f145 hf.f205 cb1 sim ci hk hc hx hl1 hQ',fun _=>?_⟩
 unfold D_f212_17 D_f212_18
 rw[g60,g0,g3]
 simp only[zf,xL,zR]
 refine⟨fun _=>zan hf.f148 hf.f206 hf.f203 hf.f207 cb1 sim ci hk hc hx hl1 hQ',fun _=>?_⟩
 unfold D_f212_21 D_f212_22
 rw[g60,g0,g3]
 simp only[zf,xL,zR]
 refine⟨fun _=>zdt hf.f146 hf.f208 hf.f207 cb1 sim ci hk hc hx hl1 hQ',fun _=>?_⟩
 unfold D_f212_25 D_f212_26
 rw[g60,g0,g3]
 simp only[zf,xL,zR]
 refine⟨fun _=>zal hf.f151 hf.f209 cb1 sim ci hk hc hx hl1 hQ',fun _=>?_⟩
 unfold D_f212_28 D_f212_29
 rw[g60,g0,g3]
 simp only[zf,xL,zR]
 refine⟨fun _=>zdr hf.f65 hf.f48 hf.f87 hf.f160 hf.f210 hf.f203 hf.f207 cb1 sim ci hk hc hcn hx hl1 hQ' g0 g3,fun _=>?_⟩
 unfold D_f212_46 D_f212_47
 simp only[zf,xL,zR]
 refine⟨fun _=>zdq hf.f157 hf.f211 hf.f98 hf.f100 cb1 sim ci hk hc hx hl1 hQ',fun _=>?_⟩
 unfold D_f212_50 D_f212_51
 simp only[zf,xL,zR]
 refine⟨fun _=>zbe hf.f160 hf.f210 hf.f203 hf.f207 cb1 sim ci hk hc hx hl1 hQ',fun _=>?_⟩
 unfold D_f212_54 D_f212_3
 exact⟨L1,zu.refl _,hQ' _ ⟨⟨now,ρ,S,S',cb1,sim,ci.mono (by omega),by omega⟩,hl1⟩⟩
end
def Z6:Tms:=⟨[],⟨[],0,fun _=>none⟩,0⟩
theorem zcg (t:Option Nat):(Cs.new t).ones=[⟨0,true,none,0,0,0,false,false,-1⟩]∧(Cs.new t).afts=[]∧(Cs.new t).t=t:=⟨rfl,rfl,rfl⟩
theorem xB (t:Option Nat)(τ:Tms)(χ:Nat→Ch)(a:Nat):¬xd ⟨Cs.new t,τ,χ⟩ a:=by
 rintro⟨x,hx,hc⟩
 have hx':x∈(Cs.new t).ones:=hx
 rw[(zcg t).1]at hx'
 simp at hx';subst hx';cases hc
theorem ziR (s:Nat):CI ⟨Cs.new (some s),Z6,fun _=>.sg⟩ 0:=by
 refine⟨ziI _ _ _ (by simp[Z6]),fun j k x n hx=>by have:(Cs.new (some s)).afts[j]?=some x:=hx;rw[(zcg _).2.1]at this;simp at this,rfl,?_,fun i o ho=>by simp[Z6]at ho,fun a=>GoodS.sg 0⟩
 exact⟨⟨by simp[Z6],by simp[Z6],fun y h=>by simp[Z6]at h,by simp[Z6],by simp[Z6],by simp[Z6],fun y h=>by simp[Z6]at h,fun y h=>by simp[Z6]at h⟩,by simp[Z6],by simp[Z6],fun y h=>by simp[Z6]at h,fun i w h=>by simp[Z6]at h,fun i=>GoodC.tm 0⟩
theorem zhB (s u:Nat):Sim id ⟨Cs.new (some s),Z6,fun _=>.sg⟩ ⟨Cs.new (some u),Z6,fun _=>.sg⟩:=⟨rfl,rfl,rfl,fun a h=>absurd h (xB _ _ _ a),fun a b h=>absurd h (xB _ _ _ a)⟩
theorem za6 (hf:H_f126 F)(L0:Lg):zd F k_f126 [] L0 fun v L=>∃b s c u m,L0 b=none∧v=.tup [.p (some (b,0)),.b true]∧wX L0 b s c u m 0 0 L:=by
 refine zr ?_
 intro Q hQ
 apply r_f126 hf.code
 unfold D_f126_1
 refine (zdU hf.f21).mono ?_
 rintro _ _ ⟨s,hs,rfl,rfl⟩
 have hb:∀(X:Lg) (k:AV→Lg→Prop),za F (.build [.sl none 0 0 0,.i .i64 0,.sl none 0 0 0,.sl none 0 0 0,.i .i64 0] []) [] X k=k (.agg [.sl none 0 0 0,.i .i64 0,.sl none 0 0 0,.sl none 0 0 0,.i .i64 0]) X:=fun X k=>by simp[zE]
 simp only[zf,hb,ZB]
 rw[zN _ _ _ (by simp)]
 intro u hu
 have hus:u≠s:=by rintro rfl;rw[ze]at hu;cases hu
 obtain⟨L1,hL1⟩:∃L1,L1=L0.put s (.abs (ZT s Z6)):=⟨_,rfl⟩
 have hL1':L0.put s (.abs (ZT s ⟨[],⟨[],0,fun _=>none⟩,0⟩))=L1:=hL1.symm
 rw[hL1']at hu ⊢
 have ro:ROpen L1 u Z6 [] (.sl none 0 0 0) (.sl none 0 0 0) (.sl none 0 0 0) (L1.put u (.raw (.cells [.sl none 0 0 0,.i .i64 0,.sl none 0 0 0,.sl none 0 0 0,.i .i64 0]))) :=
  ⟨by rw[ze];rfl,.inl (OSl.nil _ _),.inl (OSl.nil _ _),OSl.nil _ _,(fun b h=>by cases h),(fun b h=>by cases h),(fun b h=>by cases h),fun r d hr hd=>by rw[zb _ _ _ hr];exact hd⟩
 have pk:PerOk [] Z6.x:=⟨List.Perm.refl _,fun j=>rfl⟩
 refine zd.pre (ro.shut pk) ?_
 obtain⟨L2,hL2⟩:∃L2,L2=L1.put u (.abs (Yz u Z6)):=⟨_,rfl⟩
 rw[←hL2]
 refine (zbg hf.f122 L2 (some s)).mono ?_
 rintro _ _ ⟨c,hc,rfl,rfl⟩
 obtain⟨L3,hL3⟩:∃L3,L3=L2.put c (.abs (YA c (.new (some s)))):=⟨_,rfl⟩
 rw[←hL3]
 refine (zew hf.f125 L3 (some u)).mono ?_
 rintro _ _ ⟨m,hm,rfl,rfl⟩
 obtain⟨L4,hL4⟩:∃L4,L4=L3.put m (.abs (wu m (.new (some u)))):=⟨_,rfl⟩
 rw[←hL4]
 have hb2:∀(X:Lg) (k:AV→Lg→Prop),za F (.build [.p none,.p none,.p none,.p none,.i .i64 0] [(0,1),(1,1),(2,1),(3,1)]) [.p (some (s,0)),.p (some (c,0)),.p (some (u,0)),.p (some (m,0))] X k=k (.agg [.p (some (s,0)),.p (some (c,0)),.p (some (u,0)),.p (some (m,0)),.i .i64 0]) X:=fun X k=>by simp[zE,zo,zq,zp]
 rw[hb2]
 simp only[zf,ZB]
 rw[zN _ _ _ rfl]
 intro b hbn
 -- who is where
 have es1:L1 s=some (.abs (ZT s Z6)):=by rw[hL1,ze]
 have es2:L2 s=some (.abs (ZT s Z6)):=by rw[hL2,zb _ _ _ (Ne.symm hus)];exact es1
 have eu2:L2 u=some (.abs (Yz u Z6)):=by rw[hL2,ze]
 have hcs:c≠s:=by rintro rfl;rw[es2]at hc;cases hc
 have hcu:c≠u:=by rintro rfl;rw[eu2]at hc;cases hc
 have k3:=xW hc (.abs (YA c (.new (some s))))
 rw[←hL3]at k3
 have ec3:L3 c=some (.abs (YA c (.new (some s)))):=by rw[hL3,ze]
 have hmc:m≠c:=by rintro rfl;rw[ec3]at hm;cases hm
 have hms:m≠s:=by rintro rfl;rw[k3 _ _ es2]at hm;cases hm
 have hmu:m≠u:=by rintro rfl;rw[k3 _ _ eu2]at hm;cases hm
 have k4:=xW hm (.abs (wu m (.new (some u))))
 rw[←hL4]at k4
 have em4:L4 m=some (.abs (wu m (.new (some u)))):=by rw[hL4,ze]
 have k5:=xW hbn (.raw (.cells [.p (some (s,0)),.p (some (c,0)),.p (some (u,0)),.p (some (m,0)),.i .i64 0]))
 have eb5:(L4.put b (.raw (.cells [.p (some (s,0)),.p (some (c,0)),.p (some (u,0)),.p (some (m,0)),.i .i64 0]))) b=some (.raw (.cells [.p (some (s,0)),.p (some (c,0)),.p (some (u,0)),.p (some (m,0)),.i .i64 0])):=ze _ _ _
 have up:∀r x,L0 r=some x→L4 r=some x:=fun r x hr=>by
  refine k4 _ _ (k3 _ _ ?_)
  have h1:L1 r=some x:=by rw[hL1];exact xW hs _ _ _ hr
  rw[hL2];exact xW hu _ _ _ h1
 have hb0:L0 b=none:=by
  cases h9:L0 b with
  | none=>rfl
  | some x=>rw[up _ _ h9]at hbn;cases hbn
 generalize (L4.put b (.raw (.cells [.p (some (s,0)),.p (some (c,0)),.p (some (u,0)),.p (some (m,0)),.i .i64 0])))=L5 at k5 eb5
 have cb:CB L5 b s c u m 0 ⟨Cs.new (some s),Z6,fun _=>.sg⟩ ⟨Cs.new (some u),Z6,fun _=>.sg⟩:=by
  refine⟨eb5,k5 _ _ (k4 _ _ ec3),⟨fun s' hs'=>?_,fun o ho a ha=>absurd ⟨o,ho,ha⟩ (xB (some s) Z6 (fun _=>.sg) a)⟩,k5 _ _ em4,⟨fun s' hs'=>?_,fun o ho a ha=>absurd ⟨o,ho,ha⟩ (xB (some u) Z6 (fun _=>.sg) a)⟩,rfl,rfl,?_⟩
  ·have:s'=s:=by have h1:some s=some s':=hs';cases h1;rfl
   subst this
   exact⟨Ne.symm hcs,k5 _ _ (k4 _ _ (k3 _ _ es2))⟩
  ·have:s'=u:=by have h1:some u=some s':=hs';cases h1;rfl
   subst this
   exact⟨Ne.symm hmu,k5 _ _ (k4 _ _ (k3 _ _ eu2))⟩
  ·rintro r (h1 | h1 | h1) (h2 | h2 | h2)
   ·exact hmc (h2.symm.trans h1)
   ·have:some u=some r:=h2
    cases this;exact hcu h1.symm
   ·exact xB _ _ _ _ h2
   ·have:some s=some r:=h1
    cases this;exact hms h2.symm
   ·have g1:some s=some r:=h1
    have g2:some u=some r:=h2
    cases g1;cases g2;exact hus rfl
   ·exact xB _ _ _ _ h2
   ·exact xB _ _ _ _ h1
   ·exact xB _ _ _ _ h1
   ·exact xB _ _ _ _ h1
 have hp:∀(z:Nat) (X:Lg) (k:AV→Lg→Prop),za F (.eq true .ptr) [.p (some (z,0)),.p none] X k=k (.b true) X:=by intro z X k;simp
 simp only[zf,zg,zj,Nat.zero_add,zt,cb.b0,cb.b1,zh,hp,zx,yk,zT]
 exact⟨L5,zu.refl _,hQ _ _ ⟨b,s,c,u,m,hb0,rfl,⟨0,id,_,_,cb,zhB s u,ziR s,by simp[Z6]⟩,fun q x hq hq0=>k5 _ _ (up _ _ hq0)⟩⟩
theorem zbK:∀(l:List (Int×Int×Int)) (i k:Nat) (x:Int×Int×Int),l[i]?=some x→k<3→(tcl l)[i * 3+k]?=(t3 x)[k]?
 | [],i,k,x,h,_=>by simp at h
 | y::r,0,k,x,h,hk=>by
  simp at h;subst h
  simp only[tcl,List.flatMap_cons,Nat.zero_mul,Nat.zero_add]
  rw[List.getElem?_append_left (by simp[t3];omega)]
 | y::r,i+1,k,x,h,hk=>by
  have:=zbK r i k x (by simpa using h) hk
  have e:(i+1) * 3+k=(t3 y).length+(i * 3+k):=by simp[t3];omega
  rw[e]
  simp only[tcl,List.flatMap_cons]
  rw[List.getElem?_append_right (by omega),Nat.add_sub_cancel_left]
  exact this
theorem zbj (code:F k_f217=some (c_f217))(aw:F k_f152=some zc9)(h1:H_f126 F)(h2:H_f212 F)(h3:H_f216 F)
  {L0:Lg} (l:List (Int×Int×Int)) (a:AV) (ha:zaC L0 a (tcl l) l.length 3):zd F k_f217 [a] L0 fun v _=>v=.b true:=by
 refine zr ?_
 intro Q hQ
 have fin:∀L,zl (some (.b true)) Q L:=fun L=>⟨L,zu.refl _,hQ _ _ rfl⟩
 have awk:∀L,zd F k_f152 [] L fun v17 L17=>zl (some v17) Q L17:=by
  intro L
  refine (za1 aw _).mono ?_
  rintro _ _ ⟨rfl,rfl⟩
  exact fin _
 apply r_f217 code
 generalize hE:zJ [a] 0=E
 have e0:E 0=a:=by rw[←hE];simp[zJ]
 clear hE
 unfold D_f217_1 D_f217_2
 have f0:(Env.put E 2 (.b false)) 0=a:=by simp[e0]
 generalize Env.put E 2 (.b false)=E1 at f0
 rw[f0]
 simp only[zf,ha.len,vQ,zR]
 refine⟨fun _=>awk _,fun hlen=>?_⟩
 unfold D_f217_3
 refine (za6 h1 L0).mono ?_
 rintro _ K0 ⟨b,s,c,u,m,hb0,rfl,bed0⟩
 simp only[zf,yb,List.getElem?_cons_zero,List.getElem?_cons_succ,zh]
 unfold D_f217_4
 have g0:(Env.put (Env.put E1 3 (.p (some (b,0)))) 4 (.b true)) 0=a:=by simp[f0]
 have g3:(Env.put (Env.put E1 3 (.p (some (b,0)))) 4 (.b true)) 3=.p (some (b,0)):=by simp
 have g4:(Env.put (Env.put E1 3 (.p (some (b,0)))) 4 (.b true)) 4=.b true:=by simp
 generalize (Env.put (Env.put E1 3 (.p (some (b,0)))) 4 (.b true))=E2 at g0 g3 g4
 rw[g4]
 simp only[zf,yf,Bool.not_true,zB]
 unfold D_f217_7 D_f217_9
 have keepA:∀{K:Lg} {k n:Nat},wX L0 b s c u m k n K→∀q cs,L0 q=some (.raw (.ro cs))→K q=some (.raw (.ro cs)):=by
  rintro K k n ⟨_,hk⟩ q cs hq
  exact hk q _ (by rintro rfl;rw[hb0]at hq;cases hq) hq
 obtain⟨I,hI⟩:∃I:Nat→Env→Lg→Prop,I=fun n E K=>∃i:Nat,n+i=l.length∧wX L0 b s c u m (100 * i) i K∧E 0=a∧E 3=.p (some (b,0))∧E 5=.i .i64 i:=⟨_,rfl⟩
 refine zQ I l.length ?_ ?_
 ·rw[hI];exact⟨0,by omega,by simpa using bed0,by simp[g0],by simp[g3],by simp⟩
 intro n0 E t K hi
 rw[hI]at hi
 obtain⟨i,hm,hbed,e0,e3,e5⟩:=hi
 unfold D_f217_10
 rw[e0,e3,e5]
 simp only[zf,ha.len,y0,zR]
 refine⟨fun hil=>?_,fun hil=>?_⟩
 rotate_left
 ·unfold D_f217_6
  exact awk _
 have hil':i<l.length:=by omega
 have hl60:l.length≤60:=by omega
 obtain⟨bq,cap,rfl,hbq⟩:=ha.get hil'
 have hx:l[i]?=some l[i]:=List.getElem?_eq_getElem hil'
 obtain⟨⟨kd,n,d⟩,hxe⟩:∃x,x=l[i]:=⟨_,rfl⟩
 rw[←hxe]at hx
 have hia:∀(X:Lg) (k:AV→Lg→Prop),za F (.iad 3) [.sl (some (bq,0)) l.length cap 0,.i .i64 i] X k=k (.p (some (bq,i * 3))) X:=fun X k=>by
  rw[yF F X k 3 bq 0 l.length cap 0 .i64 i (by omega) (by omega)];simp
 have hcs:=ha.1
 have cells:∀j,j<3→(tcl l)[i * 3+j]?=(t3 (kd,n,d))[j]?:=fun j hj=>zbK l i j _ hx hj
 have r3:rdL K (bq,i * 3) (some 3)=some (.agg [.i .i64 kd,.i .i64 n,.i .i64 d]):=by
  rw[zaT (keepA hbed _ _ hbq) (by omega)]
  have h0:=cells 0 (by omega);have h1:=cells 1 (by omega);have h2:=cells 2 (by omega)
  simp only[t3]at h0 h1 h2
  congr 2
  apply List.ext_getElem?
  intro j
  by_cases hj:j<3
  ·rw[List.getElem?_take_of_lt hj,List.getElem?_drop]
   have:j=0∨j=1∨j=2:=by omega
   rcases this with rfl | rfl | rfl
   ·exact h0
   ·exact h1
   ·exact h2
  ·rw[List.getElem?_eq_none (by simp;omega),List.getElem?_eq_none (by simp;omega)]
 simp only[zf,hia,zt,r3,zh]
 refine (zds h2 hbed (by omega) (by omega) kd n d).mono ?_
 rintro _ K1 ⟨rfl,hbed1⟩
 simp only[zf,yf,Bool.not_true,zx,yk,xG]
 have hbed1':=hbed1
 obtain⟨⟨now,ρ,S,S',cb,sim,ci,hc⟩,hl⟩:=hbed1'
 refine (zaQ h3 cb sim ci).mono ?_
 rintro _ K2 ⟨rfl,rfl⟩
 have w1:wr .i64 ((i:Int)+1)=((i+1:Nat):Int):=by rw[zS (by omega) (by omega)];omega
 simp only[zf,yf,Bool.not_true,zx,zX,zB,xl,w1]
 rw[hI]
 exact⟨n0-1,by omega,i+1,by omega,by rw[show 100 * (i+1)=100 * i+100 by omega];exact hbed1,by simp[e0],by simp[e3],by simp⟩
end
end Go.AM
