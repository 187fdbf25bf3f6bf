/- The texts LibCtxA, LibCtxB, LibCtxC, LibCtxD, LibCtxE, LibCtxF, LibCtxG, LibCtxH, LibCtxI, LibCtxJ, LibCtxK, LibCtxL, LibCtxM, LibCtxN, LibCtxO, LibCtxP, LibLaw of a proof of CtxActs, merged. -/
import Derived.Test.YtmecehkjocjkiaaGreatCtxActsG4
set_option linter.unusedVariables false
set_option linter.unusedSimpArgs false
namespace Go.AM
section
variable {F:Nat→Option AFn}
structure One where
 node:Int
 free:Bool
 c:Option Nat
 err:Int
 cause:Int
 when:Int
 has:Bool
 own:Bool
 timer:Int
 deriving DecidableEq
def One.cells (o:One):List AV:=[.i .i64 o.node,.b o.free,ptr o.c,.i .i64 o.err,.i .i64 o.cause,.i .i64 o.when,.b o.has,.b o.own,.i .i64 o.timer]
structure Aft where
 node:Int
 prog:Int
 over:Bool
 deriving DecidableEq
def Aft.cells (o:Aft):List AV:=[.i .i64 o.node,.i .i64 o.prog,.b o.over]
structure Cs where
 t:Option Nat
 tree:List Nd
 ones:List One
 afts:List Aft
 who:Int→Option Int
theorem One.len (o:One):o.cells.length=9:=rfl
theorem Aft.len (o:Aft):o.cells.length=3:=rfl
theorem One.one (o:One):o.cells.all AV.one=true:=rfl
structure CtxD (c:Nat)(σ:Cs)(t mb:Nat)(osl asl:AV)(M:Lg):Prop where
 root:M c=some (.raw (.cells [ptr σ.t,.p (some (t,0)),osl,asl,.m (some mb)]))
 tree:M t=some (.abs (xy t σ.tree))
 map:∃es,M mb=some (.raw (.map es))∧zaE es σ.who
 ones:OSl M osl (zm One.cells σ.ones) σ.ones.length 9
 afts:OSl M asl (zm Aft.cells σ.afts) σ.afts.length 3
 n1:c≠t
 n2:c≠mb
 n3:t≠mb
 no:∀b,slB osl=some b→b≠c∧b≠t∧b≠mb
 na:∀b,slB asl=some b→b≠c∧b≠t∧b≠mb∧slB osl≠some b
 dom:∀b,M b≠none→b=c∨b=t∨b=mb∨slB osl=some b∨slB asl=some b
def YA (c:Nat)(σ:Cs):Hp→Prop:=zgx fun M=>∃t mb osl asl,CtxD c σ t mb osl asl M
section
variable {M L:Lg} {c t mb:Nat} {osl asl:AV} {σ:Cs} {Q:AV→Lg→Prop}
theorem yA {f:Nat}{vs:List AV}(e:L c=some (.abs (YA c σ)))(H:∀M t mb osl asl,CtxD c σ t mb osl asl M→yi M L c→zd F f vs (M.over L) Q):zd F f vs L Q:=by
 refine zbz e ?_ ?_
 ·rintro M ⟨t,mb,osl,asl,h⟩;rw[h.root];simp
 ·rintro M ⟨t,mb,osl,asl,h⟩ ha;exact H M t mb osl asl h ha
theorem CtxD.shut (h:CtxD c σ t mb osl asl M)(ha:yi M L c):zu (M.over L) (L.put c (.abs (YA c σ))):=Vy ⟨t,mb,osl,asl,h⟩ ⟨_,h.root⟩ ha
theorem CtxD.back (h:CtxD c σ t mb osl asl M)(ha:yi M L c)(e:L c=some (.abs (YA c σ))):zu (M.over L) L:=zdC ⟨t,mb,osl,asl,h⟩ ⟨_,h.root⟩ ha e
theorem CtxD.f0 (h:CtxD c σ t mb osl asl M)(L:Lg):rdL (M.over L) (c,0) none=some (ptr σ.t):=by rw[zk (zY h.root)];rfl
theorem CtxD.f1 (h:CtxD c σ t mb osl asl M)(L:Lg):rdL (M.over L) (c,1) none=some (.p (some (t,0))):=by rw[zk (zY h.root)];rfl
theorem CtxD.f2 (h:CtxD c σ t mb osl asl M)(L:Lg):rdL (M.over L) (c,2) none=some osl:=by rw[zk (zY h.root)];rfl
theorem CtxD.f3 (h:CtxD c σ t mb osl asl M)(L:Lg):rdL (M.over L) (c,3) none=some asl:=by rw[zk (zY h.root)];rfl
theorem CtxD.f4 (h:CtxD c σ t mb osl asl M)(L:Lg):rdL (M.over L) (c,4) none=some (.m (some mb)):=by rw[zk (zY h.root)];rfl
theorem CtxD.fo (h:CtxD c σ t mb osl asl M){i:Nat}{o:One}(hi:σ.ones[i]?=some o):∃b,slB osl=some b∧M b=some (.raw (.cells (zm One.cells σ.ones))) ∧
  (∀(L:Lg) (k:AV→Lg→Prop),za F (.iad 9) [osl,.i .i64 i] L k=k (.p (some (b,i * 9))) L)∧(∀(L:Lg) (j:Nat),j<9→rdL (M.over L) (b,i * 9+j) none=o.cells[j]?)∧∀(L:Lg),rdL (M.over L) (b,i * 9) (some 9)=some (.agg o.cells):=by
 have hl:i<σ.ones.length:=(List.getElem?_eq_some_iff.1 hi).1
 obtain⟨b,h1,h2,h3,h4⟩:=h.ones.iad (F:=F) (x:=(i:Int)) (by omega) (by omega)
 have h5:=wa One.len σ.ones i o hi
 refine⟨b,h1,h2,fun L k=>by simpa using h4 L k .i64,fun L j hj=>?_,fun L=>?_⟩
 ·rw[zk (zY h2),vo One.len σ.ones i j o hi hj]
 ·rw[yj (zY h2) h5.2,h5.1]
theorem CtxD.fa (h:CtxD c σ t mb osl asl M){i:Nat}{o:Aft}(hi:σ.afts[i]?=some o):∃b,slB asl=some b∧M b=some (.raw (.cells (zm Aft.cells σ.afts))) ∧
  (∀(L:Lg) (k:AV→Lg→Prop),za F (.iad 3) [asl,.i .i64 i] L k=k (.p (some (b,i * 3))) L)∧(∀(L:Lg) (j:Nat),j<3→rdL (M.over L) (b,i * 3+j) none=o.cells[j]?):=by
 have hl:i<σ.afts.length:=(List.getElem?_eq_some_iff.1 hi).1
 obtain⟨b,h1,h2,h3,h4⟩:=h.afts.iad (F:=F) (x:=(i:Int)) (by omega) (by omega)
 refine⟨b,h1,h2,fun L k=>by simpa using h4 L k .i64,fun L j hj=>?_⟩
 ·rw[zk (zY h2),vo Aft.len σ.afts i j o hi hj]
theorem CtxD.setTree (h:CtxD c σ t mb osl asl M)(ns:List Nd):CtxD c { σ with tree:=ns } t mb osl asl (M.put t (.abs (xy t ns))):=by
 refine⟨by rw[zb _ _ _ h.n1];exact h.root,ze _ _ _,?_,h.ones.mono fun b hb=>zb _ _ _ (h.no b hb).2.1,h.afts.mono fun b hb=>zb _ _ _ (h.na b hb).2.1,h.n1,h.n2,h.n3,h.no,h.na,?_⟩
 ·obtain⟨es,h1,h2⟩:=h.map;exact⟨es,by rw[zb _ _ _ (Ne.symm h.n3)];exact h1,h2⟩
 ·intro b hb
  by_cases e:b=t
  ·exact .inr (.inl e)
  ·rw[zb _ _ _ e]at hb;exact h.dom b hb
theorem CtxD.setWho (h:CtxD c σ t mb osl asl M){es:List (AV×AV)}{w:Int→Option Int}(he:zaE es w):CtxD c { σ with who:=w } t mb osl asl (M.put mb (.raw (.map es))):=by
 refine⟨by rw[zb _ _ _ h.n2];exact h.root,by rw[zb _ _ _ h.n3];exact h.tree,⟨es,ze _ _ _,he⟩,h.ones.mono fun b hb=>zb _ _ _ (h.no b hb).2.2,h.afts.mono fun b hb=>zb _ _ _ (h.na b hb).2.2.1,h.n1,h.n2,h.n3,h.no,h.na,?_⟩
 ·intro b hb
  by_cases e:b=mb
  ·exact .inr (.inr (.inl e))
  ·rw[zb _ _ _ e]at hb;exact h.dom b hb
theorem CtxD.setOne (h:CtxD c σ t mb osl asl M){b i j:Nat}{o o':One}{v:AV}(hi:σ.ones[i]?=some o)(hb:slB osl=some b)(hj:j<9)(e:o.cells.set j v=o'.cells) :
  CtxD c { σ with ones:=σ.ones.set i o' } t mb osl asl (M.put b (.raw (.cells ((zm One.cells σ.ones).set (i * 9+j) v)))):=by
 have hn:=h.no b hb
 have hf:=xj One.len σ.ones i o o' j v hi hj e
 refine⟨by rw[zb _ _ _ (Ne.symm hn.1)];exact h.root,by rw[zb _ _ _ (Ne.symm hn.2.1)];exact h.tree,?_,?_,h.afts.mono fun b' hb'=>zb _ _ _ (fun h9=>(h.na b' hb').2.2.2 (by rw[h9];exact hb)),h.n1,h.n2,h.n3,h.no,h.na,?_⟩
 ·obtain⟨es,h1,h2⟩:=h.map;exact⟨es,by rw[zb _ _ _ (Ne.symm hn.2.2)];exact h1,h2⟩
 ·rcases h.ones with⟨h1,h2,h3⟩ | ⟨b',ex,h1,h2,h3,h4,h5⟩
  ·rw[h3]at hb;cases hb
  ·rw[h2]at hb;simp[slB]at hb;subst hb
   exact .inr ⟨b',ex,by simpa using h1,by simpa using h2,h3,by rw[ze,hf],by rw[←hf];simpa using h5⟩
 ·intro q hq
  by_cases e:q=b
  ·subst e;exact .inr (.inr (.inr (.inl hb)))
  ·rw[zb _ _ _ e]at hq;exact h.dom q hq
theorem CtxD.setAft (h:CtxD c σ t mb osl asl M){b i j:Nat}{o o':Aft}{v:AV}(hi:σ.afts[i]?=some o)(hb:slB asl=some b)(hj:j<3)(e:o.cells.set j v=o'.cells) :
  CtxD c { σ with afts:=σ.afts.set i o' } t mb osl asl (M.put b (.raw (.cells ((zm Aft.cells σ.afts).set (i * 3+j) v)))):=by
 have hn:=h.na b hb
 have hf:=xj Aft.len σ.afts i o o' j v hi hj e
 refine⟨by rw[zb _ _ _ (Ne.symm hn.1)];exact h.root,by rw[zb _ _ _ (Ne.symm hn.2.1)];exact h.tree,?_,h.ones.mono fun b' hb'=>zb _ _ _ (fun h9=>hn.2.2.2 (by rw[←h9];exact hb')),?_,h.n1,h.n2,h.n3,h.no,h.na,?_⟩
 ·obtain⟨es,h1,h2⟩:=h.map;exact⟨es,by rw[zb _ _ _ (Ne.symm hn.2.2.1)];exact h1,h2⟩
 ·rcases h.afts with⟨h1,h2,h3⟩ | ⟨b',ex,h1,h2,h3,h4,h5⟩
  ·rw[h3]at hb;cases hb
  ·rw[h2]at hb;simp[slB]at hb;subst hb
   exact .inr ⟨b',ex,by simpa using h1,by simpa using h2,h3,by rw[ze,hf],by rw[←hf];simpa using h5⟩
 ·intro q hq
  by_cases e:q=b
  ·subst e;exact .inr (.inr (.inr (.inr hb)))
  ·rw[zb _ _ _ e]at hq;exact h.dom q hq
theorem CtxD.fresh (h:CtxD c σ t mb osl asl M){b:Nat}(hb:M b=none):b≠c∧b≠t∧b≠mb∧slB osl≠some b∧slB asl≠some b:=by
 refine⟨?_,?_,?_,?_,?_⟩
 ·rintro rfl;rw[h.root]at hb;cases hb
 ·rintro rfl;rw[h.tree]at hb;cases hb
 ·rintro rfl;obtain⟨es,h1,_⟩:=h.map;rw[h1]at hb;cases hb
 ·intro h9;have:=h.ones.block h9;rw[hb]at this;cases this
 ·intro h9;have:=h.afts.block h9;rw[hb]at this;cases this
theorem CtxD.grow (h:CtxD c σ t mb osl asl M){o:One}{b:Nat}(hap:yi M L c){K1:Lg}(g:Grown (M.over L) osl b (zm One.cells σ.ones++o.cells) K1):∃M1,CtxD c { σ with ones:=σ.ones++[o] } t mb (.sl (some (b,0)) (σ.ones.length+1) (σ.ones.length+1) 9) asl M1∧yi M1 L c∧zu (K1.put c (.raw (.cells [ptr σ.t,.p (some (t,0)),.sl (some (b,0)) (σ.ones.length+1) (σ.ones.length+1) 9,asl,.m (some mb)]))) (M1.over L):=by
 have hbM:=yI.1 g.fresh
 have fr:=h.fresh hbM.1
 let M0:Lg:=fun r=>if slB osl=some r then none else M r
 have hM0:∀r,slB osl≠some r→M0 r=M r:=fun r hr=>by simp[M0,hr]
 have hM0':∀r,slB osl=some r→M0 r=none:=fun r hr=>by simp[M0,hr]
 let M1:Lg:=(M0.put b (.raw (.cells (zm One.cells σ.ones++o.cells)))).put c (.raw (.cells [ptr σ.t,.p (some (t,0)),.sl (some (b,0)) (σ.ones.length+1) (σ.ones.length+1) 9,asl,.m (some mb)]))
 have e1:∀r,r≠b→r≠c→slB osl≠some r→M1 r=M r:=fun r h1 h2 h3=>by
  show (Lg.put _ _ _) r=_
  rw[zb _ _ _ h2,zb _ _ _ h1,hM0 r h3]
 have eb:M1 b=some (.raw (.cells (zm One.cells σ.ones++o.cells))):=by
  show (Lg.put _ _ _) b=_
  rw[zb _ _ _ fr.1,ze]
 have hfl:zm One.cells (σ.ones++[o])=zm One.cells σ.ones++o.cells:=by rw[ya];simp[zm]
 have hlen:(zm One.cells σ.ones++o.cells).length=(σ.ones.length+1) * 9:=by rw[List.length_append,zV One.len,One.len];omega
 have nt:slB osl≠some t:=fun h9=>(h.no t h9).2.1 rfl
 have nm:slB osl≠some mb:=fun h9=>(h.no mb h9).2.2 rfl
 refine⟨M1,⟨ze _ _ _,by rw[e1 t (Ne.symm fr.2.1) (Ne.symm h.n1) nt];exact h.tree,?_,?_,?_,h.n1,h.n2,h.n3,?_,?_,?_⟩,?_,?_⟩
 ·obtain⟨es,h1,h2⟩:=h.map
  exact⟨es,by rw[e1 mb (Ne.symm fr.2.2.1) (Ne.symm h.n2) nm];exact h1,h2⟩
 ·exact .inr ⟨b,9,by simp,by simp,.inr rfl,by rw[eb,hfl],by rw[hfl];simpa using hlen⟩
 ·refine h.afts.mono fun b' hb'=>e1 b' ?_ (h.na b' hb').1 (h.na b' hb').2.2.2
  rintro rfl;exact fr.2.2.2.2 hb'
 ·intro b' hb';simp[slB]at hb';subst hb';exact⟨fr.1,fr.2.1,fr.2.2.1⟩
 ·intro b' hb'
  have:=h.na b' hb'
  refine⟨this.1,this.2.1,this.2.2.1,?_⟩
  intro h9;simp[slB]at h9;subst h9;exact fr.2.2.2.2 hb'
 ·intro q hq
  by_cases q1:q=c
  ·exact .inl q1
  by_cases q2:q=b
  ·subst q2;exact .inr (.inr (.inr (.inl rfl)))
  by_cases q3:slB osl=some q
  ·exfalso;apply hq
   show (Lg.put _ _ _) q=_
   rw[zb _ _ _ q1,zb _ _ _ q2,hM0' q q3]
  rw[e1 q q2 q1 q3]at hq
  rcases h.dom q hq with h9 | h9 | h9 | h9 | h9
  ·exact absurd h9 q1
  ·exact .inr (.inl h9)
  ·exact .inr (.inr (.inl h9))
  ·exact absurd h9 q3
  ·exact .inr (.inr (.inr (.inr h9)))
 ·intro q hq hM
  by_cases q2:q=b
  ·subst q2;exact hbM.2
  by_cases q3:slB osl=some q
  ·exfalso;apply hM
   show (Lg.put _ _ _) q=_
   rw[zb _ _ _ hq,zb _ _ _ q2,hM0' q q3]
  rw[e1 q q2 hq q3]at hM
  exact hap q hq hM
 ·apply zu.drop
  intro r d hr
  by_cases q1:r=c
  ·subst q1
   rw[zY (d:=_) (ze _ _ _)]at hr
   rw[ze];exact hr
  rw[zb _ _ _ q1]
  by_cases q2:r=b
  ·subst q2;rw[zY eb]at hr;rw[g.now];exact hr
  by_cases q3:slB osl=some r
  ·exfalso
   have hz:M1 r=none:=by
    show (Lg.put _ _ _) r=_
    rw[zb _ _ _ q1,zb _ _ _ q2,hM0' r q3]
   rw[yG hz]at hr
   have:=hap r q1 (by rw[h.ones.block q3];simp)
   rw[this]at hr;cases hr
  rw[g.same r q2 q3]
  unfold Lg.over at hr ⊢
  rw[e1 r q2 q1 q3]at hr
  exact hr
def Cs.has (σ:Cs)(id:Int):Bool:=decide (0≤id)&&decide (id<σ.ones.length)
theorem xx (hf:H_f127 F)(h:CtxD c σ t mb osl asl M)(L:Lg)(id:Int):zd F k_f127 [.p (some (c,0)),.i .i64 id] (M.over L) fun v K'=>v=.b (σ.has id)∧K'=M.over L:=by
 refine zr ?_
 intro Q hQ
 apply r_f127 hf.code
 unfold D_f127_1
 by_cases c1:0≤id
 ·simp[c1,h.f2 L,h.ones.len]
  exact⟨_,zu.refl _,hQ _ _ ⟨by simp[Cs.has,c1],rfl⟩⟩
 ·simp[c1]
  exact⟨_,zu.refl _,hQ _ _ ⟨by simp[Cs.has,c1],rfl⟩⟩
def Cs.room (σ:Cs)(id:Int):Int:=if σ.has id=false then 4 else if 64≤σ.ones.length then 3 else 0
theorem Zl (hf:H_f128 F)(h:CtxD c σ t mb osl asl M)(L:Lg)(id:Int):zd F k_f128 [.p (some (c,0)),.i .i64 id] (M.over L) fun v K'=>v=.i .i64 (σ.room id)∧K'=M.over L:=by
 refine zr ?_
 intro Q hQ
 apply r_f128 hf.code
 unfold D_f128_1
 refine (xx hf.f127 h L id).mono ?_
 rintro _ K' ⟨rfl,hK'⟩
 rw[hK']
 clear hK' K'
 cases hh:σ.has id
 ·simp[hh]
  exact⟨_,zu.refl _,hQ _ _ ⟨by simp[Cs.room,hh],rfl⟩⟩
 ·by_cases h6:64≤σ.ones.length
  ·have:(64:Int)≤(σ.ones.length:Int):=by omega
   simp[hh,h.f2 L,h.ones.len,this]
   exact⟨_,zu.refl _,hQ _ _ ⟨by simp[Cs.room,hh,h6],rfl⟩⟩
  ·have:¬(64:Int)≤(σ.ones.length:Int):=by omega
   simp[hh,h.f2 L,h.ones.len,this]
   exact⟨_,zu.refl _,hQ _ _ ⟨by simp[Cs.room,hh,h6],rfl⟩⟩
end
end
section
variable {F:Nat→Option AFn}
def kok (ns:List Nd):Bool:=ns.all fun n=>decide (n.kids.length≤1000)
theorem zcn {ns:List Nd}(h:kok ns=true):∀n∈ns,n.kids.length≤1000000:=by
 intro n hn
 have:=(List.all_eq_true.1 h) n hn
 simp at this;omega
def Cs.add (σ:Cs)(o:One)(parent:Int):Cs :=
 let r:=zL σ.tree parent (!o.free)
 { σ with tree:=r.1,who:=yN σ.who r.2.1 (some σ.ones.length),ones:=σ.ones++[{ o with node:=r.2.1,timer:=-1 }] }
section
variable {M L:Lg} {c t mb:Nat} {osl asl:AV} {σ:Cs} {Q:AV→Lg→Prop}
theorem vD (hf:H_f121 F)(h:CtxD c σ t mb osl asl M)(ha:yi M L c)(o:One)(parent:Int)(hk:kok σ.tree=true)(hl:σ.ones.length≤1000) :
  zd F k_f121 [.p (some (c,0)),.agg o.cells,.i .i64 parent] (M.over L) fun v K'=>v=.i .i64 σ.ones.length∧∃M' osl',K'=M'.over L∧CtxD c (σ.add o parent) t mb osl' asl M'∧yi M' L c:=by
 refine zr ?_
 intro Q hQ
 apply r_f121 hf.code
 unfold D_f121_1 D_f121_2
 simp
 rw[zN _ _ _ (One.one o)]
 intro b4 hb4
 have hb4':=yI.1 hb4
 have fr:=h.fresh hb4'.1
 rw[yH hb4'.1]
 have ha4:=ha.putL hb4'.1 (.raw (.cells o.cells))
 have g1:rdL (M.over (L.put b4 (.raw (.cells o.cells)))) (b4,1) none=some (.b o.free):=by rw[zk (by rw[yG hb4'.1,ze])];rfl
 simp[h.f1 _,g1]
 refine (YT hf.f120 (zY h.tree) (zcn hk) parent (!o.free)).mono ?_
 rintro _ K' ⟨rfl,hK'⟩
 rw[xp]at hK'
 rw[hK']
 clear hK' K'
 have h2:=h.setTree (zL σ.tree parent (!o.free)).1
 have ha2:=ha4.own (b:=t) (by rw[h.tree];simp) (.abs (xy t (zL σ.tree parent (!o.free)).1))
 generalize hr:zL σ.tree parent (!o.free)=r at h2 ha2
 have hm4:(M.put t (.abs (xy t r.1))) b4=none:=by rw[zb _ _ _ fr.2.1];exact hb4'.1
 have gb4:∀o1:One,((M.put t (.abs (xy t r.1))).over (L.put b4 (.raw (.cells o1.cells)))) b4=some (.raw (.cells o1.cells)):=fun o1=>by rw[yG hm4,ze]
 have st4:∀(o1 o2:One) (j:Nat) (v:AV) (k:AV→Lg→Prop),j<9→v.cellsOf=some [v]→o1.cells.set j v=o2.cells→k .bad ((M.put t (.abs (xy t r.1))).over (L.put b4 (.raw (.cells o2.cells)))) →
   stL 1 ((M.put t (.abs (xy t r.1))).over (L.put b4 (.raw (.cells o1.cells)))) k [.p (some (b4,j)),v]:=by
  intro o1 o2 j v k hj hv he hk
  rw[zH (gb4 o1) (by rw[One.len];exact hj) hv,yH hm4,zA,he]
  exact hk
 simp
 refine st4 o { o with node:=r.2.1 } 0 _ _ (by omega) rfl rfl ?_
 unfold D_f121_3
 simp
 refine st4 _ { o with node:=r.2.1,timer:=-1 } 8 _ _ (by omega) rfl rfl ?_
 generalize ho3:({ o with node:=r.2.1,timer:=-1 }:One)=o3
 have hn3:o3.node=r.2.1:=by rw[←ho3]
 have ha3:yi (M.put t (.abs (xy t r.1))) (L.put b4 (.raw (.cells o3.cells))) c:=by
  have:=ha2.putL hm4 (.raw (.cells o3.cells))
  rwa [zA]at this
 have g0:rdL ((M.put t (.abs (xy t r.1))).over (L.put b4 (.raw (.cells o3.cells)))) (b4,0) none=some (.i .i64 r.2.1):=by rw[zk (gb4 o3),←hn3];rfl
 obtain⟨es,m1,m2⟩:=h2.map
 obtain⟨es',s1,s2⟩:=m2.set r.2.1 (σ.ones.length:Int)
 simp[h2.f4,h2.f2,g0,h2.ones.len,VY,zY m1,s1]
 rw[xp]
 have h3:=h2.setWho s2
 have ha5:=ha3.own (b:=mb) (by rw[m1];simp) (.raw (.map es'))
 have hm5:((M.put t (.abs (xy t r.1))).put mb (.raw (.map es'))) b4=none:=by rw[zb _ _ _ fr.2.2.1];exact hm4
 generalize ((M.put t (.abs (xy t r.1))).put mb (.raw (.map es')))=M3 at h3 ha5 hm5
 have gg:(M3.over (L.put b4 (.raw (.cells o3.cells)))) b4=some (.raw (.cells o3.cells)):=by rw[yG hm5,ze]
 have g9:rdL (M3.over (L.put b4 (.raw (.cells o3.cells)))) (b4,0) (some 9)=some (.agg o3.cells):=by rw[yj gg (by rw[One.len];omega)];rfl
 simp[h3.f2,g9]
 rw[yg (c:=o3.cells) _ _ (by simp[y5,zE,zo,zq,zp,AV.cellsOf,One.cells]) (One.one o3)]
 intro b5 hb5
 have hb5':=yI.1 hb5
 rw[yH hb5'.1]
 have ha6:=ha5.putL hb5'.1 (.raw (.cells o3.cells))
 have gg5:(M3.over ((L.put b4 (.raw (.cells o3.cells))).put b5 (.raw (.cells o3.cells)))) b5=some (.raw (.cells o3.cells)):=by rw[yG hb5'.1,ze]
 have hL5:∀r d,((L.put b4 (.raw (.cells o3.cells))).put b5 (.raw (.cells o3.cells))) r=some d∨L r=some d→r≠b4→r≠b5→L r=some d:=by
  intro r d hr h4 h5
  rcases hr with hr | hr
  ·rwa [zb _ _ _ h5,zb _ _ _ h4]at hr
  ·exact hr
 have hn5:b5≠b4:=by rintro rfl;have:=hb5'.2;rw[ze]at this;cases this
 have sL:∀X:Lg,zu (X.over ((L.put b4 (.raw (.cells o3.cells))).put b5 (.raw (.cells o3.cells)))) (X.over L):=by
  intro X
  refine (zu.junk hb5'.2 _).trans (zu.junk hb4'.2 _)
 generalize hLL:(L.put b4 (.raw (.cells o3.cells))).put b5 (.raw (.cells o3.cells))=LL at ha6 gg5 sL
 have hb1:OSl (M3.over LL) osl (zm One.cells σ.ones) σ.ones.length 9:=h3.ones.mono fun b hb=>by
  have:=h3.ones.block hb
  rw[this];exact zY this
 simp
 refine hb1.app (m:=1) (by omega) rfl (by omega) (new:=o3.cells) (by simp[zF,gg5,AB.read,cut,zq,One.len];rw[←One.len o3,List.take_length]) (One.len o3) (One.one o3) (by omega) ?_
 intro b K1 gr _
 have hbM:=yI.1 gr.fresh
 have frb:=h3.fresh hbM.1
 obtain⟨M1,h7,ha7,hs7⟩:=h3.grow ha6 gr
 have hKc:K1 c=some (.raw (.cells [ptr σ.t,.p (some (t,0)),osl,asl,.m (some mb)])):=by
  rw[gr.same c (Ne.symm frb.1) (fun h9=>(h3.no c h9).1 rfl)]
  exact zY h3.root
 simp
 rw[zH hKc (by simp) rfl]
 have fin:rdL (K1.put c (.raw (.cells ([ptr σ.t,.p (some (t,0)),osl,asl,.m (some mb)].set 2 (.sl (some (b,0)) (σ.ones.length+1) (σ.ones.length+1) 9))))) (c,2) none=some (.sl (some (b,0)) (σ.ones.length+1) (σ.ones.length+1) 9):=by
  rw[zk (ze _ _ _)];rfl
 have w1:wr .i64 (σ.ones.length:Int)=(σ.ones.length:Int):=zS (by omega) (by omega)
 simp only[List.set_cons_succ,List.set_cons_zero]at fin
 simp[fin,w1]
 refine⟨M1.over L,hs7.trans ?_,hQ _ _ ⟨by first | rfl | rw[w1],M1,.sl (some (b,0)) (σ.ones.length+1) (σ.ones.length+1) 9,rfl,?_,?_⟩⟩
 ·exact sL M1
 ·have:σ.add o parent={ ({ ({ σ with tree:=r.1 }:Cs)with who:=yN σ.who r.2.1 (some (σ.ones.length:Int)) }:Cs)with ones:=σ.ones++[o3] }:=by
   simp[Cs.add,hr,ho3]
  rw[this];exact h7
 ·intro q hq hM
  have:=ha7 q hq hM
  rw[←hLL]at this
  cases hLq:L q with
  | none=>rfl
  | some d =>
   exfalso
   by_cases e5:q=b5
   ·subst e5;rw[ze]at this;cases this
   by_cases e4:q=b4
   ·subst e4;rw[zb _ _ _ e5,ze]at this;cases this
   rw[zb _ _ _ e5,zb _ _ _ e4,hLq]at this;cases this
def okd (ns:List Nd)(i:Nat):Bool:=match ns[i]? with
 | some n=>!n.linked||(decide (0≤n.parent)&&decide (n.parent.toNat≠i)&&match ns[n.parent.toNat]? with
  | some m=>decide (0≤za4 m.kids i 0)
  | none=>false)
 | none=>false
theorem zeK (x:Int):∀(l:List Int) (k:Nat),za4 l x k=-1∨(∃j:Nat,za4 l x k=(j:Int)∧k≤j∧j<k+l.length)
 | [],k=>.inl rfl
 | y::r,k=>by
  unfold za4
  by_cases h:x=y
  ·rw[if_pos h];exact .inr ⟨k,rfl,Nat.le_refl _,by simp⟩
  ·rw[if_neg h]
   rcases zeK x r (k+1)with h1 | ⟨j,h1,h2,h3⟩
   ·exact .inl h1
   ·exact .inr ⟨j,h1,by omega,by simp;omega⟩
def zfj (ns:List Nd)(i:Int):Option (List Nd):=if 0≤i∧okd ns i.toNat=true∧kok ns=true then some (vt ns i.toNat).1 else none
theorem Wg (hf:H_f139 F){K:Lg}{t:Nat}{ns ns':List Nd}{i:Int}(e:K t=some (.abs (xy t ns)))(h:zfj ns i=some ns'):zd F k_f139 [.p (some (t,0)),.i .i64 i] K fun v K'=>K'=K.put t (.abs (xy t ns')):=by
 unfold zfj at h
 split at h
 ·rename_i hc
  obtain⟨h0,h1,h2⟩:=hc
  obtain⟨j,rfl⟩:=Int.eq_ofNat_of_zero_le h0
  simp only[Int.toNat_natCast]at h h1
  cases h
  have hj:j<ns.length:=by
   rcases Nat.lt_or_ge j ns.length with h9 | h9
   ·exact h9
   ·unfold okd at h1;rw[List.getElem?_eq_none h9]at h1;cases h1
  refine (UG hf e (zcn h2) hj ?_).mono fun v K' h=>h.2
  intro n hn hl
  unfold okd at h1
  rw[hn]at h1
  simp[hl]at h1
  obtain⟨⟨q0,q1⟩,q2⟩:=h1
  obtain⟨p,hp⟩:=Int.eq_ofNat_of_zero_le q0
  rw[hp]at q1 q2
  simp only[Int.toNat_natCast]at q1 q2
  cases hm:ns[p]? with
  | none=>rw[hm]at q2;cases q2
  | some m =>
   rw[hm]at q2
   simp at q2
   rcases zeK j m.kids 0 with h5 | ⟨k,h5,_,h6⟩
   ·rw[h5]at q2;omega
   ·exact⟨p,m,k,hp,hm,q1,by omega,h5⟩
 ·cases h
def Cs.startP (σ:Cs)(k:Int):Option (Cs×(Int×Int)) :=
 if 0≤k then match σ.afts[k.toNat]? with
  | some x=>match zfj σ.tree x.node with
   | some ns=>some ({ σ with afts:=σ.afts.set k.toNat { x with over:=true },tree:=ns },(k,x.prog))
   | none=>none
  | none=>none
 else none
theorem Yr (hf:H_f140 F)(h:CtxD c σ t mb osl asl M)(ha:yi M L c){k:Int}{σ':Cs}{st:Int×Int}(hp:σ.startP k=some (σ',st)) :
  zd F k_f140 [.p (some (c,0)),.i .i64 k] (M.over L) fun v K'=>v=.agg [.i .i64 st.1,.i .i64 st.2]∧∃M',K'=M'.over L∧CtxD c σ' t mb osl asl M'∧yi M' L c:=by
 refine zr ?_
 intro Q hQ
 unfold Cs.startP at hp
 split at hp
 case isFalse=>cases hp
 rename_i h0
 obtain⟨i,rfl⟩:=Int.eq_ofNat_of_zero_le h0
 simp only[Int.toNat_natCast]at hp
 split at hp
 case h_2=>cases hp
 rename_i x hx
 split at hp
 case h_2=>cases hp
 rename_i ns hns
 cases hp
 apply r_f140 hf.code
 unfold D_f140_1
 simp
 intro b0 hb0
 have hb0':=yI.1 hb0
 have fr:=h.fresh hb0'.1
 rw[yH hb0'.1]
 have ha1:=ha.putL hb0'.1 (.raw (.cells [.i .i64 0,.i .i64 0]))
 have sL:∀(X:Lg) d,zu (X.over (L.put b0 d)) (X.over L):=fun X d=>zu.junk hb0'.2 _
 obtain⟨b,a1,a2,a3,a4⟩:=h.fa (F:=F) hx
 simp[h.f3,a3]
 have hlt:i * 3+2<(zm Aft.cells σ.afts).length:=by have:=wa Aft.len σ.afts i x hx;omega
 rw[zH (zY a2) hlt rfl,xp]
 have h2:=h.setAft (o':={ x with over:=true }) hx a1 (j:=2) (v:=.b true) (by omega) rfl
 have ha2:=ha1.own (b:=b) (by rw[a2];simp) (.raw (.cells ((zm Aft.cells σ.afts).set (i * 3+2) (.b true))))
 have hnb:b≠b0:=by rintro rfl;rw[a2]at hb0';cases hb0'.1
 have hm0:(M.put b (.raw (.cells ((zm Aft.cells σ.afts).set (i * 3+2) (.b true))))) b0=none:=by rw[zb _ _ _ (Ne.symm hnb)];exact hb0'.1
 generalize (M.put b (.raw (.cells ((zm Aft.cells σ.afts).set (i * 3+2) (.b true)))))=M2 at h2 ha2 hm0
 have hx2:({ σ with afts:=σ.afts.set i { x with over:=true } }:Cs).afts[i]?=some { x with over:=true }:=by
  have:i<σ.afts.length:=(List.getElem?_eq_some_iff.1 hx).1
  simp[this]
 obtain⟨b',c1,c2,c3,c4⟩:=h2.fa (F:=F) hx2
 rw[a1]at c1
 cases c1
 have r0:∀X,rdL (M2.over X) (b,i * 3) none=some (.i .i64 x.node):=fun X=>by simpa[Aft.cells]using c4 X 0 (by omega)
 simp[h2.f1,r0]
 refine (Wg hf.f139 (zY h2.tree) hns).mono ?_
 rintro _ K' hK'
 rw[xp]at hK'
 rw[hK']
 clear hK' K'
 have h3:=h2.setTree ns
 have ha3:=ha2.own (b:=t) (by rw[h2.tree];simp) (.abs (xy t ns))
 have hm3:(M2.put t (.abs (xy t ns))) b0=none:=by rw[zb _ _ _ fr.2.1];exact hm0
 generalize M2.put t (.abs (xy t ns))=M3 at h3 ha3 hm3
 obtain⟨b',c1,c2,c3,c4⟩:=h3.fa (F:=F) hx2
 rw[a1]at c1
 cases c1
 have r1:∀X,rdL (M3.over X) (b,i * 3+1) none=some (.i .i64 x.prog):=fun X=>by simpa[Aft.cells]using c4 X 1 (by omega)
 have gb0:(M3.over (L.put b0 (.raw (.cells [.i .i64 0,.i .i64 0])))) b0=some (.raw (.cells [.i .i64 0,.i .i64 0])):=by rw[yG hm3,ze]
 simp[r1,zE,zo,zq,zp,AV.cellsOf]
 rw[zw (n:=2) gb0 (by simp) rfl (by simp),yH hm3,zA]
 have gb1:(M3.over (L.put b0 (.raw (.cells [.i .i64 i,.i .i64 x.prog])))) b0=some (.raw (.cells [.i .i64 i,.i .i64 x.prog])):=by rw[yG hm3,ze]
 have:yz Env.nil Env.nil (M3.over (L.put b0 (.raw (.cells [.i .i64 i,.i .i64 x.prog])))) [.cell (.c (.p (some (b0,0)))) (some 2)]=some (.agg [.i .i64 i,.i .i64 x.prog]):=by
  simp[yz,zaS,YF,yj gb1]
 simp[zo,this]
 refine⟨M3.over L,sL _ _,hQ _ _ ⟨rfl,M3,rfl,h3,?_⟩⟩
 intro q hq hM
 have:=ha3 q hq hM
 by_cases e:q=b0
 ·subst e;exact hb0'.2
 ·rwa [zb _ _ _ e]at this
end
end
section
variable {F:Nat→Option AFn}
structure Lap where
 id:Int
 err:Int
 cause:Int
 wakes:List Wk
structure CX where
 σ:Cs
 τ:Tms
 χ:Nat→Ch
def y9 (f:Nat→Ch)(a:Nat)(x:Ch):Nat→Ch:=fun b=>if b=a then x else f b
def CX.endP (S:CX):Option Nat→Option (CX×List Wk)
 | none=>some (S,[])
 | some a=>if (S.χ a).recvs.length+(S.χ a).sends.length≤1000000 then some ({ S with χ:=y9 S.χ a (S.χ a).endS.1 },(S.χ a).endS.2)else none
def CX.stopP (S:CX)(id:Int):Option CX:=match S.σ.t with
 | none=>some S
 | some _=>match S.τ.one id with
  | none=>some S
  | some o=>if o.c=none∧S.τ.x.l.length≤1000000 then some { S with τ:={ S.τ with x:=S.τ.x.stop id } }else none
abbrev Zq:=CX×List Lap×List (Int×Int)
def UL (rec:CX→Int→Int→Int→Option Zq)(err cause:Int)(acc:Zq)(node:Int):Option Zq :=
 let who:=(acc.1.σ.who node).getD 0
 if who<0 then
  if -1000000≤who∧acc.2.2.length≤1000000 then match acc.1.σ.startP (-who-1)with
   | some (σ',st)=>some ({ acc.1 with σ:=σ' },acc.2.1,acc.2.2++[st])
   | none=>none
  else none
 else match rec acc.1 who err cause with
  | some (S',o,t)=>if acc.2.1.length+o.length≤1000000∧acc.2.2.length+t.length≤1000000 then some (S',acc.2.1++o,acc.2.2++t)else none
  | none=>none
def CX.setOne (S:CX)(i:Nat)(x:One):CX:={ S with σ:={ S.σ with ones:=S.σ.ones.set i x } }
def CX.setTree (S:CX)(ns:List Nd):CX:={ S with σ:={ S.σ with tree:=ns } }
def CX.cancelP:Nat→CX→Int→Int→Int→Option Zq
 | 0,_,_,_,_=>none
 | n+1,S,id,err,cause =>
  if 0≤id then match S.σ.ones[id.toNat]? with
   | none=>none
   | some x=>if x.free=true∨x.err≠0 then some (S,[],[])else
    match (S.setOne id.toNat { x with err:=err,cause:=cause }).endP x.c with
    | none=>none
    | some (S1,ws)=>match S1.stopP x.timer with
     | none=>none
     | some S2=>if kok S2.σ.tree=true∧(kidsT S2.σ.tree x.node).length≤1000000 then
       match (kidsT S2.σ.tree x.node).foldlM (UL (CX.cancelP n) err cause) (S2,[⟨id,err,cause,ws⟩],[])with
       | none=>none
       | some (S3,out,sts)=>match zfj S3.σ.tree x.node with
        | none=>none
        | some ns=>some (S3.setTree ns,out,sts)
      else none
  else none
def Cs.names (σ:Cs):List (Option Nat×Int):=σ.ones.map fun o=>(o.c,o.node)
structure OutC (c:Nat)(S:CX)(L:Lg):Prop where
 tms:∀s,S.σ.t=some s→s≠c∧L s=some (.abs (ZT s S.τ))
 chs:∀o∈S.σ.ones,∀a,o.c=some a→a≠c∧S.σ.t≠some a∧L a=some (.abs (yu a (S.χ a)))
def FrC (σ:Cs)(L L':Lg):Prop:=∀r,L r≠none→σ.t≠some r→(∀o∈σ.ones,o.c≠some r)→L' r=L r
structure SameC (σ σ':Cs):Prop where
 t:σ'.t=σ.t
 names:σ'.names=σ.names
theorem SameC.refl (σ:Cs):SameC σ σ:=⟨rfl,rfl⟩
theorem SameC.trans {a b d:Cs}(h:SameC a b)(k:SameC b d):SameC a d:=⟨k.t.trans h.t,k.names.trans h.names⟩
theorem SameC.get {a b:Cs}(h:SameC a b){i:Nat}{o:One}(hi:b.ones[i]?=some o):∃o',a.ones[i]?=some o'∧o'.c=o.c∧o'.node=o.node:=by
 have:=congrArg (fun l=>l[i]?) h.names
 simp only[Cs.names,List.getElem?_map,hi,Option.map_some]at this
 cases e:a.ones[i]? with
 | none=>rw[e]at this;cases this
 | some o'=>rw[e]at this;simp at this;exact⟨o',rfl,this.1.symm,this.2.symm⟩
theorem SameC.get' {a b:Cs}(h:SameC a b){i:Nat}{o:One}(hi:a.ones[i]?=some o):∃o',b.ones[i]?=some o'∧o'.c=o.c∧o'.node=o.node:=by
 obtain⟨o',h1,h2,h3⟩:=SameC.get (a:=b) (b:=a) ⟨h.t.symm,h.names.symm⟩ hi
 exact⟨o',h1,h2,h3⟩
theorem SameC.cs {a b:Cs}(h:SameC a b){x:Option Nat}(hx:∃o∈b.ones,o.c=x):∃o∈a.ones,o.c=x:=by
 obtain⟨o,ho,e⟩:=hx
 obtain⟨i,hi⟩:=List.mem_iff_getElem?.1 ho
 obtain⟨o',h1,h2,_⟩:=h.get hi
 exact⟨o',List.mem_of_getElem? h1,h2.trans e⟩
theorem FrC.refl (σ:Cs)(L:Lg):FrC σ L L:=fun _ _ _ _=>rfl
theorem FrC.trans {σ σ':Cs}{L L1 L2:Lg}(s:SameC σ σ')(h:FrC σ L L1)(k:FrC σ' L1 L2):FrC σ L L2:=fun r hr h1 h2=>by
 have e:=h r hr h1 h2
 rw[k r (by rw[e];exact hr) (by rw[s.t];exact h1) (fun o ho h9=>by
  obtain⟨o',h3,h4⟩:=s.cs ⟨o,ho,h9⟩
  exact h2 o' h3 h4),e]
theorem FrC.has {c:Nat}{S S':CX}{L L':Lg}(s:SameC S.σ S'.σ)(h:FrC S.σ L L')(o:OutC c S' L'){r:Nat}(hr:L r≠none):L' r≠none:=by
 by_cases h1:S.σ.t=some r
 ·rw[(o.tms r (by rw[s.t];exact h1)).2];simp
 ·by_cases h2:∃o∈S.σ.ones,o.c=some r
  ·obtain⟨o',ho',he⟩:=SameC.cs (a:=S'.σ) (b:=S.σ) ⟨s.t.symm,s.names.symm⟩ h2
   rw[(o.chs o' ho' r he).2.2];simp
  ·rw[h r hr h1 (fun o ho h9=>h2 ⟨o,ho,h9⟩)];exact hr
def zaD (p:Lap×AV):List AV:=[.i .i64 p.1.id,.i .i64 p.1.err,.i .i64 p.1.cause,p.2]
def stc (p:Int×Int):List AV:=[.i .i64 p.1,.i .i64 p.2]
theorem Vq {α:Type}{f:α→List AV}:∀(a:List α),(∀x∈a,(f x).all AV.one=true)→(zm f a).all AV.one=true
 | [],_=>rfl
 | x::r,h=>by
  simp only[zm,List.all_append,h x (by simp),Vq r (fun y hy=>h y (by simp[hy])),Bool.and_self]
theorem SlK.one {L:Lg}{v:AV}{ws:List Wk}(h:SlK L v ws):v.one=true:=by
 rcases h with⟨_,rfl⟩ | ⟨b,ex,rfl,_⟩<;>rfl
theorem SlK.mono {L L':Lg}{v:AV}{ws:List Wk}(h:SlK L v ws)(e:∀b,slB v=some b→L' b=L b):SlK L' v ws:=by
 rcases h with⟨h1,h2⟩ | ⟨b,ex,h1,h2⟩
 ·exact .inl ⟨h1,h2⟩
 ·exact .inr ⟨b,ex,h1,by rw[e b (by rw[h1];rfl)];exact h2⟩
theorem SlK.has {L:Lg}{v:AV}{ws:List Wk}(h:SlK L v ws){b:Nat}(e:slB v=some b):L b≠none:=by
 rcases h with⟨_,rfl⟩ | ⟨b',ex,rfl,h2⟩
 ·cases e
 ·simp[slB]at e;subst e;rw[h2];simp
structure ResP (L0 K:Lg)(v1 v2:AV)(ps:List (Lap×AV))(sts:List (Int×Int)):Prop where
 o1:OSl K v1 (zm zaD ps) ps.length 4
 o2:OSl K v2 (zm stc sts) sts.length 2
 ins:∀p∈ps,SlK K p.2 p.1.wakes∧∀b,slB p.2=some b→L0 b=none∧slB v1≠some b∧slB v2≠some b
 f1:∀b,slB v1=some b→L0 b=none∧slB v2≠some b
 f2:∀b,slB v2=some b→L0 b=none
def Us (L0 K:Lg)(v1 v2:AV)(laps:List Lap)(sts:List (Int×Int)):Prop:=∃ps,ps.map (·.1)=laps∧ResP L0 K v1 v2 ps sts
section
variable {L0 K K':Lg} {v1 v2:AV} {ps:List (Lap×AV)} {sts:List (Int×Int)}
theorem ResP.mono (h:ResP L0 K v1 v2 ps sts)(e:∀b,L0 b=none→K b≠none→K' b=K b):ResP L0 K' v1 v2 ps sts :=
 ⟨h.o1.mono fun b hb=>e b (h.f1 b hb).1 (by rw[h.o1.block hb];simp),h.o2.mono fun b hb=>e b (h.f2 b hb) (by rw[h.o2.block hb];simp),fun p hp=>⟨(h.ins p hp).1.mono fun b hb=>e b ((h.ins p hp).2 b hb).1 ((h.ins p hp).1.has hb),(h.ins p hp).2⟩,h.f1,h.f2⟩
theorem ResP.low (h:ResP L0 K v1 v2 ps sts){L1:Lg}(e:∀b,L0 b=none→K b≠none→L1 b=none):ResP L1 K v1 v2 ps sts :=
 ⟨h.o1,h.o2,fun p hp=>⟨(h.ins p hp).1,fun b hb=>⟨e b ((h.ins p hp).2 b hb).1 ((h.ins p hp).1.has hb),((h.ins p hp).2 b hb).2⟩⟩,fun b hb=>⟨e b (h.f1 b hb).1 (by rw[h.o1.block hb];simp),(h.f1 b hb).2⟩,fun b hb=>e b (h.f2 b hb) (by rw[h.o2.block hb];simp)⟩
theorem ResP.nil (L0 K:Lg):ResP L0 K (.sl none 0 0 0) (.sl none 0 0 0) [] []:=⟨.inl ⟨rfl,rfl,rfl⟩,.inl ⟨rfl,rfl,rfl⟩,fun p hp=>by simp at hp,fun b hb=>(by cases hb),fun b hb=>(by cases hb)⟩
theorem ResP.one (h:ResP L0 K v1 v2 ps sts):(zm zaD ps).all AV.one=true:=Vq ps fun p hp=>by
 have:=(h.ins p hp).1.one
 simp[zaD,this]
theorem ResP.app1 (h:ResP L0 K v1 v2 ps sts){ps2:List (Lap×AV)}{b:Nat}{K1:Lg}(g:Grown K v1 b (zm zaD ps++zm zaD ps2) K1)(h0:∀r,K r=none→L0 r=none)(hpos:0<ps.length+ps2.length)
  (hin:∀p∈ps2,SlK K p.2 p.1.wakes∧∀q,slB p.2=some q→L0 q=none∧slB v1≠some q∧slB v2≠some q) :
  ResP L0 K1 (.sl (some (b,0)) (ps.length+ps2.length) (ps.length+ps2.length) 4) v2 (ps++ps2) sts:=by
 have nb:∀{q:Nat},K q≠none→q≠b:=fun hq hb=>hq (by rw[hb];exact g.fresh)
 refine⟨?_,?_,?_,?_,h.f2⟩
 ·have hlen:∀l:List (Lap×AV),(zm zaD l).length=l.length * 4:=zV fun _=>rfl
  exact .inr ⟨b,4,by simpa using hpos,by simp,.inr rfl,by rw[g.now,ya],hlen _⟩
 ·refine h.o2.mono fun q hq=>g.same q (nb (by rw[h.o2.block hq];simp)) fun h9=>(h.f1 q h9).2 hq
 ·intro p hp
  rcases List.mem_append.1 hp with hp | hp
  ·have:=h.ins p hp
   refine⟨this.1.mono fun q hq=>g.same q (nb (this.1.has hq)) (this.2 q hq).2.1,fun q hq=>⟨(this.2 q hq).1,?_,(this.2 q hq).2.2⟩⟩
   intro h9;simp[slB]at h9;exact nb (this.1.has hq) h9.symm
  ·have:=hin p hp
   refine⟨this.1.mono fun q hq=>g.same q (nb (this.1.has hq)) (this.2 q hq).2.1,fun q hq=>⟨(this.2 q hq).1,?_,(this.2 q hq).2.2⟩⟩
   intro h9;simp[slB]at h9;exact nb (this.1.has hq) h9.symm
 ·intro q hq
  simp[slB]at hq;subst hq
  refine⟨h0 _ g.fresh,fun h9=>?_⟩
  have:=h.o2.block h9
  rw[g.fresh]at this;cases this
theorem ResP.app2 (h:ResP L0 K v1 v2 ps sts){sts2:List (Int×Int)}{b:Nat}{K1:Lg}(g:Grown K v2 b (zm stc sts++zm stc sts2) K1)(h0:∀r,K r=none→L0 r=none)(hpos:0<sts.length+sts2.length) :
  ResP L0 K1 v1 (.sl (some (b,0)) (sts.length+sts2.length) (sts.length+sts2.length) 2) ps (sts++sts2):=by
 have nb:∀{q:Nat},K q≠none→q≠b:=fun hq hb=>hq (by rw[hb];exact g.fresh)
 refine⟨?_,?_,?_,?_,?_⟩
 ·refine h.o1.mono fun q hq=>g.same q (nb (by rw[h.o1.block hq];simp)) (h.f1 q hq).2
 ·have hlen:∀l:List (Int×Int),(zm stc l).length=l.length * 2:=zV fun _=>rfl
  exact .inr ⟨b,2,by simpa using hpos,by simp,.inr rfl,by rw[g.now,ya],hlen _⟩
 ·intro p hp
  have:=h.ins p hp
  refine⟨this.1.mono fun q hq=>g.same q (nb (this.1.has hq)) (this.2 q hq).2.2,fun q hq=>⟨(this.2 q hq).1,(this.2 q hq).2.1,?_⟩⟩
  intro h9;simp[slB]at h9;exact nb (this.1.has hq) h9.symm
 ·intro q hq
  refine⟨(h.f1 q hq).1,fun h9=>?_⟩
  simp[slB]at h9;subst h9
  have:=h.o1.block hq
  rw[g.fresh]at this;cases this
 ·intro q hq
  simp[slB]at hq;subst hq
  exact h0 _ g.fresh
end
theorem Grown.low {M L K1:Lg}{v:AV}{b c:Nat}{cs:List AV}(g:Grown (M.over L) v b cs K1)(hv:∀q,slB v=some q→M q=none)(ha:yi M L c):∃L1,K1=M.over L1∧Grown L v b cs L1∧yi M L1 c:=by
 have hb:=yI.1 g.fresh
 refine⟨fun r=>match M r with | some _=>L r | none=>K1 r,?_,⟨hb.2,?_,?_,?_⟩,?_⟩
 ·funext r
  cases h:M r with
  | none=>rw[yG h];simp[h]
  | some d =>
   rw[zY h,g.same r (by rintro rfl;rw[hb.1]at h;cases h) (fun h9=>by rw[hv r h9]at h;cases h),zY h]
 ·simp only[hb.1];exact g.now
 ·intro r hr hq
  cases h:M r with
  | none=>simp only[];rw[g.same r hr hq,yG h]
  | some d=>simp only[]
 ·intro r hr
  cases h:M r with
  | none=>simp only[];have:=g.gone r hr;rw[yG h]at this;exact this
  | some d=>exact .inr rfl
 ·intro r hr hM
  cases h:M r with
  | none=>exact absurd h hM
  | some d=>have:=ha r hr hM;simpa[h]using this
end
section
variable {F:Nat→Option AFn}
theorem zfR (hf:H_f51 F)(L:Lg)(id:Int):zd F k_f51 [.p none,.i .i64 id] L fun v L'=>L'=L:=by
 refine zr ?_
 intro Q hQ
 apply r_f51 hf.code
 unfold D_f51_1
 have:zd F k_f49 [.p none,.i .i64 id] L fun v L'=>v=.b false∧L'=L:=by
  refine zr ?_
  intro Q hQ
  apply r_f49 hf.f49.code
  unfold D_f49_1
  simp
  exact⟨_,zu.refl _,hQ _ _ ⟨rfl,rfl⟩⟩
 refine this.mono ?_
 rintro _ K ⟨rfl,rfl⟩
 simp
 exact⟨_,zu.refl _,hQ _ _ rfl⟩
section
variable {M L L0:Lg} {c t mb:Nat} {osl asl:AV} {S S':CX} {Q:AV→Lg→Prop}
theorem zcV (hf:H_f51 F){id:Int}(h:S.stopP id=some S')(o:OutC c S L)(ha:yi M L c):zd F k_f51 [ptr S.σ.t,.i .i64 id] (M.over L) fun v K'=>S'.σ=S.σ∧S'.χ=S.χ∧∃L',K'=M.over L'∧yi M L' c∧OutC c S' L'∧FrC S.σ L L':=by
 unfold CX.stopP at h
 split at h
 ·rename_i ht
  cases h
  rw[ht]
  refine (zfR hf _ _).mono ?_
  rintro v _ rfl
  exact⟨rfl,rfl,L,rfl,ha,o,FrC.refl _ _⟩
 ·rename_i s ht
  have hs:=o.tms s ht
  have hMs:=ha.low hs.1 hs.2
  rw[ht]
  split at h
  ·rename_i ho
   cases h
   refine (zd4 hf (ha.get hs.1 hs.2) id ho).mono ?_
   rintro v _ ⟨_,rfl⟩
   exact⟨rfl,rfl,L,rfl,ha,o,FrC.refl _ _⟩
  ·rename_i o1 ho
   split at h
   case isFalse=>cases h
   rename_i hc
   cases h
   refine (zd3 hf (ha.get hs.1 hs.2) hc.2 id ho (x:=Ch.tm) rfl (fun a h9=>by rw[hc.1]at h9;cases h9)).mono ?_
   rintro v _ ⟨_,rfl⟩
   refine⟨rfl,rfl,L.put s (.abs (ZT s { S.τ with x:=S.τ.x.stop id })),?_,ha.putL hMs _,⟨?_,?_⟩,?_⟩
   ·rw[hc.1];simp only[Lg.putC];rw[yH hMs]
   ·intro s' hs'
    have e:s'=s:=by have:S.σ.t=some s':=hs';rw[ht]at this;cases this;rfl
    subst e
    exact⟨hs.1,ze _ _ _⟩
   ·intro o2 ho2 a ha2
    have:=o.chs o2 ho2 a ha2
    refine⟨this.1,this.2.1,?_⟩
    rw[zb];exact this.2.2
    rintro rfl;exact this.2.1 ht
   ·intro r hr h1 h2
    rw[zb];rintro rfl;exact h1 ht
theorem zfa (hf:H_f134 F){a:Option Nat}{ws:List Wk}(h:S.endP a=some (S',ws))(hm:∃o∈S.σ.ones,o.c=a)(o:OutC c S L)(ha:yi M L c):zd F k_f134 [ptr a] (M.over L) fun v K'=>S'.σ=S.σ∧∃L',K'=M.over L'∧yi M L' c∧OutC c S' L'∧FrC S.σ L L'∧SlK L' v ws∧∀b,slB v=some b→L b=none:=by
 cases a with
 | none =>
  cases h
  refine (zfo hf).mono ?_
  rintro _ _ ⟨rfl,rfl⟩
  exact⟨rfl,L,rfl,ha,o,FrC.refl _ _,.inl ⟨rfl,rfl⟩,fun b h=>by cases h⟩
 | some a =>
  unfold CX.endP at h
  simp only at h
  split at h
  case isFalse=>cases h
  rename_i hlen
  cases h
  obtain⟨o1,ho1,hc1⟩:=hm
  have hs:=o.chs o1 ho1 a hc1
  have hMa:=ha.low hs.1 hs.2.2
  refine (zdv hf (ha.get hs.1 hs.2.2) hlen).mono ?_
  intro v K' hK'
  have oc:OutC c { S with χ:=y9 S.χ a (S.χ a).endS.1 } (L.put a (.abs (yu a (S.χ a).endS.1))):=by
   refine⟨?_,?_⟩
   ·intro s ht
    have ht':S.σ.t=some s:=ht
    have:=o.tms s ht'
    refine⟨this.1,?_⟩
    rw[zb];exact this.2
    rintro rfl;exact hs.2.1 ht'
   ·intro o2 ho2 a2 ha2
    have:=o.chs o2 ho2 a2 ha2
    refine⟨this.1,this.2.1,?_⟩
    by_cases e:a2=a
    ·subst e;rw[ze];simp[y9]
    ·rw[zb _ _ _ e];simp[y9,e,this.2.2]
  have fr:FrC S.σ L (L.put a (.abs (yu a (S.χ a).endS.1))):=by
   intro r hr h1 h2
   rw[zb];rintro rfl;exact h2 o1 ho1 hc1
  have ha2:=ha.putL hMa (.abs (yu a (S.χ a).endS.1))
  rw[yH hMa]at hK'
  rcases hK' with⟨h1,h2,h3⟩ | ⟨b,ex,h1,h2,h3,h4,h5⟩
  ·exact⟨rfl,_,h3,ha2,oc,fr,.inl ⟨h1,h2⟩,fun b hb=>by rw[h2]at hb;cases hb⟩
  ·have hb:=yI.1 h1
   refine⟨rfl,_,by rw[h5,yH hb.1],ha2.putL hb.1 _,⟨?_,?_⟩,?_,.inr ⟨b,ex,h3,ze _ _ _⟩,?_⟩
   ·intro s ht
    have:=oc.tms s ht
    refine⟨this.1,?_⟩
    rw[zb];exact this.2
    rintro rfl;rw[hb.2]at this;cases this.2
   ·intro o2 ho2 a2 ha2
    have:=oc.chs o2 ho2 a2 ha2
    refine⟨this.1,this.2.1,?_⟩
    rw[zb];exact this.2.2
    rintro rfl;rw[hb.2]at this;cases this.2.2
   ·intro r hr g1 g2
    have h9:=fr r hr g1 g2
    rw[zb];exact h9
    rintro rfl;rw[hb.2]at h9;exact hr h9.symm
   ·intro b' hb'
    rw[h3]at hb';simp[slB]at hb';subst hb'
    have:=hb.2
    by_cases e:b=a
    ·subst e;rw[ze]at this;cases this
    ·rwa [zb _ _ _ e]at this
theorem OutC.grown {v:AV}{b:Nat}{cs:List AV}{L1:Lg}(o:OutC c S L)(g:Grown L v b cs L1)(hv:∀q,slB v=some q→∃d,L q=some (.raw d)):OutC c S L1:=by
 have key:∀r P,L r=some (.abs P)→L1 r=some (.abs P):=by
  intro r P hr
  rw[g.same r (by rintro rfl;rw[g.fresh]at hr;cases hr) (fun h9=>by obtain⟨d,h8⟩:=hv r h9;rw[hr]at h8;cases h8)]
  exact hr
 exact⟨fun s hs=>⟨(o.tms s hs).1,key _ _ (o.tms s hs).2⟩,fun o1 h1 a h2=>⟨(o.chs o1 h1 a h2).1,(o.chs o1 h1 a h2).2.1,key _ _ (o.chs o1 h1 a h2).2.2⟩⟩
theorem OutC.put (o:OutC c S L){b:Nat}(hb:L b=none)(d:LC):OutC c S (L.put b d):=by
 have key:∀r e,L r=some e→(L.put b d) r=some e:=by
  intro r e hr
  rw[zb];exact hr
  rintro rfl;rw[hb]at hr;cases hr
 exact⟨fun s hs=>⟨(o.tms s hs).1,key _ _ (o.tms s hs).2⟩,fun o1 h1 a h2=>⟨(o.chs o1 h1 a h2).1,(o.chs o1 h1 a h2).2.1,key _ _ (o.chs o1 h1 a h2).2.2⟩⟩
theorem FrC.put {σ:Cs}{L1:Lg}(h:FrC σ L L1){b:Nat}(hb:L b=none)(d:LC):FrC σ L (L1.put b d):=fun r hr h1 h2=>by
 rw[zb];exact h r hr h1 h2
 rintro rfl;exact hr hb
theorem FrC.grown {σ:Cs}{L1 L2:Lg}{v:AV}{b:Nat}{cs:List AV}(h:FrC σ L L1)(g:Grown L1 v b cs L2)(hv:∀q,slB v=some q→L q=none)(hb:L b=none):FrC σ L L2:=fun r hr h1 h2=>by
 rw[g.same r (by rintro rfl;exact hr hb) (fun h9=>hr (hv r h9))];exact h r hr h1 h2
structure CL (L0:Lg)(c t mb:Nat)(osl asl:AV)(σ0:Cs)(err cause:Int)(p:AV)(ks:List Int)(acc:Zq)(E:Env)(M L:Lg)(ps:List (Lap×AV)):Prop where
 d:CtxD c acc.1.σ t mb osl asl M
 ap:yi M L c
 out:OutC c acc.1 L
 same:SameC σ0 acc.1.σ
 fr:FrC σ0 L0 L
 has:∀r,L r=none→L0 r=none
 res:ResP L0 L (E 8) (E 9) ps acc.2.2
 pm:ps.map (·.1)=acc.2.1
 l0:E 0=.p (some (c,0))
 l2:E 2=.i .i64 err
 l3:E 3=.i .i64 cause
 l10:E 10=p
 l69:E 69=.i .i64 ks.length
 kids:ks=[]∨∃kb ex,E 68=.sl (some (kb,0)) ks.length ks.length ex∧L kb=some (.raw (.cells (icl ks)))∧L0 kb=none∧slB (E 8)≠some kb∧slB (E 9)≠some kb
end
end
section
variable {F:Nat→Option AFn}
section
variable {M L L0:Lg} {c t mb:Nat} {osl asl:AV} {S S':CX} {Q:AV→Lg→Prop}
theorem OSl.up {v:AV}{cs:List AV}{n size:Nat}(h:OSl L v cs n size)(hv:∀q,slB v=some q→M q=none):OSl (M.over L) v cs n size:=h.mono fun b hb=>yG (hv b hb)
theorem zbo {v w:AV}{cs new:List AV}{n m size bytes:Nat}(hO:OSl L v cs n size)(hv:∀q,slB v=some q→M q=none)(hsz:0<size)(hW:OSl L w new m size)(hw:∀q,slB w=some q→M q=none)(h1:new.all AV.one=true)(hb:(n+m) * bytes≤70368744177664)(ap:yi M L c){k:AV→Lg→Prop}
  (hk0:m=0→k v (M.over L)) (hk:0<m→∀b L1,Grown L v b (cs++new) L1→yi M L1 c→k (.sl (some (b,0)) (n+m) (n+m) size) (M.over L1)):Xh size bytes (M.over L) k [v,w]:=by
 obtain⟨a,ex,e1,e2,_⟩:=(hW.up hw).rdAll
 by_cases hm:m=0
 ·subst hm
  have hn:new=[]:=by
   rcases hW with⟨_,h,_⟩ | ⟨_,_,h,_⟩
   ·exact h
   ·omega
  rw[hn,Nat.zero_mul]at e2
  exact (hO.up hv).app0 e1 e2 (hk0 rfl)
 ·have hlen:new.length=m * size:=by
   rcases hW with⟨h,_,_⟩ | ⟨_,_,_,_,_,_,h⟩
   ·exact absurd h hm
   ·exact h
  refine (hO.up hv).app hsz e1 (by omega) e2 hlen h1 hb ?_
  intro b K1 g _
  obtain⟨L1,rfl,g1,ap1⟩:=g.low hv ap
  exact hk (by omega) b L1 g1 ap1
theorem zhH (ap:yi M L c)(hc:L0 c≠none){b:Nat}(h0:L0 b=none)(hb:L b≠none):M b=none:=by
 cases h:L b with
 | none=>exact absurd h hb
 | some d=>exact ap.low (by rintro rfl;exact hc h0) h
theorem zf9 {es:List (AV×AV)}{w:Int→Option Int}(h:zaE es w){K:Lg}(hm:K mb=some (.raw (.map es)))(x:Int):w9 (.i .i64 0) false K [.m (some mb),.i .i64 x]=some (.i .i64 ((w x).getD 0)):=by
 simp only[w9,hm,h.find]
 cases w x<;>rfl
theorem OSl.has {v:AV}{cs:List AV}{n size:Nat}(h:OSl L v cs n size){q:Nat}(hq:slB v=some q):L q≠none:=by rw[h.block hq];simp
theorem OSl.raw {v:AV}{cs:List AV}{n size:Nat}(h:OSl L v cs n size):∀q,slB v=some q→∃d,L q=some (.raw d):=fun q hq=>⟨_,h.block hq⟩
def zcF (F:Nat→Option AFn)(N:Nat→Nat)(n:Nat):Prop:=∀(S S':CX) (id err cause:Int) (laps:List Lap) (sts:List (Int×Int)),S.cancelP n id err cause=some (S',laps,sts)→∀(c t mb:Nat) (osl asl:AV) (M L:Lg),CtxD c S.σ t mb osl asl M→yi M L c→OutC c S L→L c≠none →
 zd F k_f141 [.p (some (c,0)),.i .i64 id,.i .i64 err,.i .i64 cause] (M.over L) fun v K'=>∃M' L' v1 v2,v=.tup [v1,v2]∧K'=M'.over L'∧CtxD c S'.σ t mb osl asl M'∧yi M' L' c∧OutC c S' L'∧SameC S.σ S'.σ∧FrC S.σ L L'∧Us L L' v1 v2 laps sts
theorem Xz {σ σ':Cs}{k:Int}{st:Int×Int}(h:σ.startP k=some (σ',st)):SameC σ σ'∧σ'.ones=σ.ones:=by
 unfold Cs.startP at h
 split at h
 case isFalse=>cases h
 split at h
 case h_2=>cases h
 split at h
 case h_2=>cases h
 cases h
 exact⟨⟨rfl,rfl⟩,rfl⟩
theorem zgm (hst:H_f140 F){n:Nat}(ih:zcF F N n){σ0:Cs}{err cause:Int}{p:AV}{ks:List Int}{acc acc':Zq}{E:Env}{ps:List (Lap×AV)}(h:CL L0 c t mb osl asl σ0 err cause p ks acc E M L ps)(hc:L0 c≠none)
  {i:Nat} (hi:i<ks.length) (l70:E 70=.i .i64 i) (hlen:ks.length≤1000000) (hs:UL (CX.cancelP n) err cause acc ks[i]=some acc') {k1:Env→Lg→Prop}
  (hk:∀(E':Env) (M' L':Lg) (ps':List (Lap×AV)),CL L0 c t mb osl asl σ0 err cause p ks acc' E' M' L' ps'→E' 70=.i .i64 (i+1:Nat)→k1 E' (M'.over L')):D_f141_14 F Q k1 E (M.over L):=by
 have hL0c:∀{b:Nat},L0 b=none→b≠c:=fun hb h9=>hc (by rw[←h9];exact hb)
 rcases h.kids with h9 | ⟨kb,ex,hk1,hk2,hk3,hk4,hk5⟩
 ·rw[h9]at hi;simp at hi
 have hkM:M kb=none:=zhH h.ap hc hk3 (by rw[hk2];simp)
 unfold D_f141_14
 rw[h.l0,hk1,l70,h.l2,h.l3]
 have hn0:rdL (M.over L) (kb,i) none=some (.i .i64 ks[i]):=by
  rw[zk (by rw[yG hkM];exact hk2)];simp[icl,hi]
 have ei:(i:Int)<(ks.length:Int):=by omega
 obtain⟨es,m1,m2⟩:=h.d.map
 simp only[zf,yF F _ _ 1 kb 0 ks.length ks.length ex .i64 (i:Int) (Int.natCast_nonneg _) ei,Int.toNat_natCast,Nat.mul_one,Nat.zero_add,zt,hn0,zh,zg,zj,h.d.f4,zg7,zf9 m2 (zY m1),y0]
 unfold UL at hs
 simp only at hs
 generalize hwho:(acc.1.σ.who ks[i]).getD 0=who at hs ⊢
 have w70:wr .i64 ((i:Int)+1)=((i+1:Nat):Int):=by rw[zS (by omega) (by omega)];omega
 have hv8:∀q,slB (E 8)=some q→M q=none:=fun q hq=>zhH h.ap hc (h.res.f1 q hq).1 (h.res.o1.has hq)
 have hv9:∀q,slB (E 9)=some q→M q=none:=fun q hq=>zhH h.ap hc (h.res.f2 q hq) (h.res.o2.has hq)
 by_cases hneg:who<0
 ·rw[if_pos hneg]at hs
  split at hs
  case isFalse=>cases hs
  rename_i hbd
  split at hs
  case h_2=>cases hs
  rename_i σ' st hst'
  cases hs
  have w1:wr .i64 (0-who)=-who:=by rw[zS (by omega) (by omega)];omega
  have w2:wr .i64 (-who-1)=-who-1:=zS (by omega) (by omega)
  rw[zR]
  refine⟨fun _=>?_,fun h9=>absurd hneg h9⟩
  simp only[zf,ziC,w1,zbB,w2]
  refine (Yr hst h.d h.ap hst').mono ?_
  rintro _ K' ⟨rfl,M',rfl,hd,hap⟩
  have hsm:=Xz hst'
  simp only[zf,vR]
  rw[yg (c:=[.i .i64 st.1,.i .i64 st.2]) _ _ (by simp[y5,zE,zo,zq,zp,AV.cellsOf]) (by simp)]
  intro b1 hb1
  have hb1':=yI.1 hb1
  rw[yH hb1'.1]
  have hap1:=hap.putL hb1'.1 (.raw (.cells [.i .i64 st.1,.i .i64 st.2]))
  have hb0:L0 b1=none:=h.has b1 hb1'.2
  have hgrow:∀r,L0 r=none→L r≠none→(L.put b1 (.raw (.cells [.i .i64 st.1,.i .i64 st.2]))) r=L r:=fun r _ hr=>zb _ _ _ (by rintro rfl;exact hr hb1'.2)
  have hres1:=h.res.mono hgrow
  have hhas1:∀r,(L.put b1 (.raw (.cells [.i .i64 st.1,.i .i64 st.2]))) r=none→L0 r=none:=fun r hr=>by
   by_cases e:r=b1
   ·subst e;exact hb0
   ·rw[zb _ _ _ e]at hr;exact h.has r hr
  have hsame:SameC σ0 σ':=h.same.trans hsm.1
  have hout:OutC c { acc.1 with σ:=σ' } L:=⟨fun s hs=>h.out.tms s (by rw[←hsm.1.t];exact hs),fun o ho a ha=>by
   have ho':o∈acc.1.σ.ones:=by have:o∈σ'.ones:=ho;rwa [hsm.2]at this
   have:=h.out.chs o ho' a ha
   exact⟨this.1,by show σ'.t≠_;rw[hsm.1.t];exact this.2.1,this.2.2⟩⟩
  have hout1:=hout.put hb1'.2 (.raw (.cells [.i .i64 st.1,.i .i64 st.2]))
  have hfr1:=h.fr.put hb0 (.raw (.cells [.i .i64 st.1,.i .i64 st.2]))
  have hkb1:(L.put b1 (.raw (.cells [.i .i64 st.1,.i .i64 st.2]))) kb=some (.raw (.cells (icl ks))):=by rw[zb];exact hk2;rintro rfl;rw[hb1'.2]at hk2;cases hk2
  have hb1b:(L.put b1 (.raw (.cells [.i .i64 st.1,.i .i64 st.2]))) b1=some (.raw (.cells [.i .i64 st.1,.i .i64 st.2])):=ze _ _ _
  generalize hL1:L.put b1 (.raw (.cells [.i .i64 st.1,.i .i64 st.2]))=L1 at hap1 hres1 hhas1 hout1 hfr1 hkb1 hb1b
  have hv9':∀q,slB (E 9)=some q→M' q=none:=fun q hq=>zhH hap1 hc (hres1.f2 q hq) (hres1.o2.has hq)
  simp only[zf,WU]
  refine zbo (c:=c) (m:=1) (new:=[.i .i64 st.1,.i .i64 st.2]) hres1.o2 hv9' (by omega) (.inr ⟨b1,0,by omega,rfl,.inl rfl,hb1b,rfl⟩) (fun q hq=>by simp[slB]at hq;subst hq;exact hb1'.1) (by simp) (by omega) hap1 (by omega) ?_
  intro _ b2 L2 g2 hap2
  have hb20:L0 b2=none:=hhas1 b2 g2.fresh
  have g2':Grown L1 (E 9) b2 (zm stc acc.2.2++zm stc [st]) L2:=by simpa[zm,stc]using g2
  have hres2:=hres1.app2 g2' hhas1 (by simp)
  unfold D_f141_15
  simp only[Env.put_apply]
  simp only[zf,l70,xl,w70,if_true,if_false,reduceIte,Nat.reduceEqDiff]
  refine hk _ M' L2 ps ?_ (by simp)
  refine⟨hd,hap2,hout1.grown g2 hres1.o2.raw,hsame,hfr1.grown g2 hres1.f2 hb20,?_,by simpa using hres2,h.pm,by simp[h.l0],by simp[h.l2],by simp[h.l3],by simp[h.l10],by simp[h.l69],.inr ⟨kb,ex,by simp[hk1],?_,hk3,by simpa using hk4,?_⟩⟩
  ·intro r hr
   rcases Classical.em (r=b2)with e | e
   ·subst e;exact hb20
   ·rcases Classical.em (slB (E 9)=some r)with e2 | e2
    ·exact hres1.f2 r e2
    ·rw[g2.same r e e2]at hr;exact hhas1 r hr
  ·rw[g2.same kb (by rintro rfl;rw[g2.fresh]at hkb1;cases hkb1) hk5];exact hkb1
  ·simp[slB];rintro rfl;rw[g2.fresh]at hkb1;cases hkb1
 ·rw[if_neg hneg]at hs
  split at hs
  case h_2=>cases hs
  rename_i S' o t' hrec
  split at hs
  case isFalse=>cases hs
  rename_i hbd
  cases hs
  have hLc:L c≠none:=fun h9=>hc (h.has c h9)
  rw[zR]
  refine⟨fun h9=>absurd h9 hneg,fun _=>?_⟩
  refine (ih _ _ _ _ _ _ _ hrec c t mb osl asl M L h.d h.ap h.out hLc).mono ?_
  rintro _ K' ⟨M',L',w1,w2,rfl,rfl,hd,hap,hout,hsm,hfr,ps2,hps2,hres2⟩
  have hhas2:∀r,L' r=none→L r=none:=fun r hr=>by
   rcases Classical.em (L r=none)with e | e
   ·exact e
   ·exact absurd hr (hfr.has hsm hout e)
  have hfree:∀r,L0 r=none→L r≠none→(∀x,L r=some (.abs x)→False)→L' r=L r:=fun r h0 hr hx=>hfr r hr (fun h9=>by have:=(h.out.tms r h9).2;exact hx _ this) (fun o ho h9=>by have:=(h.out.chs o ho r h9).2.2;exact hx _ this)
  have hkb':L' kb=some (.raw (.cells (icl ks))):=by rw[hfree kb hk3 (by rw[hk2];simp) (fun x hx=>by rw[hk2]at hx;cases hx)];exact hk2
  have hres1:ResP L0 L' (E 8) (E 9) ps acc.2.2:=by
   refine⟨h.res.o1.mono fun b hb=>?_,h.res.o2.mono fun b hb=>?_,fun p hp=>⟨(h.res.ins p hp).1.mono fun b hb=>?_,(h.res.ins p hp).2⟩,h.res.f1,h.res.f2⟩
   ·have:=h.res.o1.block hb;exact hfree b (h.res.f1 b hb).1 (by rw[this];simp) (fun x hx=>by rw[this]at hx;cases hx)
   ·have:=h.res.o2.block hb;exact hfree b (h.res.f2 b hb) (by rw[this];simp) (fun x hx=>by rw[this]at hx;cases hx)
   ·have h4:=(h.res.ins p hp).1
    rcases h4 with⟨_,h5⟩ | ⟨b',ex',h5,h6⟩
    ·rw[h5]at hb;cases hb
    ·rw[h5]at hb;simp[slB]at hb;subst hb
     exact hfree b' (((h.res.ins p hp).2 b' (by rw[h5];rfl)).1) (by rw[h6];simp) (fun x hx=>by rw[h6]at hx;cases hx)
  have hhas':∀r,L' r=none→L0 r=none:=fun r hr=>h.has r (hhas2 r hr)
  have hsame:SameC σ0 S'.σ:=h.same.trans hsm
  have hfr':FrC σ0 L0 L':=FrC.trans h.same h.fr hfr
  have hc2:∀b,L b=none→L' b≠none→M' b=none:=fun b hb hb'=>zhH hap hLc hb hb'
  have hv8':∀q,slB (E 8)=some q→M' q=none:=fun q hq=>zhH hap hc (hres1.f1 q hq).1 (hres1.o1.has hq)
  have hlen8:ps.length=acc.2.1.length:=by rw[←h.pm];simp
  have hlen2:ps2.length=o.length:=by rw[←hps2];simp
  have hnew8:∀q,slB (E 8)=some q→L q≠none:=fun q hq=>h.res.o1.has hq
  have hnew9:∀q,slB (E 9)=some q→L q≠none:=fun q hq=>h.res.o2.has hq
  have fin:∀(v8:AV) (L1:Lg) (ps1:List (Lap×AV)),ps1.map (·.1)=acc.2.1++o→ResP L0 L1 v8 (E 9) ps1 acc.2.2→OSl L1 w2 (zm stc t') t'.length 2→(∀q,slB w2=some q→M' q=none)→yi M' L1 c→OutC c S' L1→FrC σ0 L0 L1→(∀r,L1 r=none→L0 r=none)→L1 kb=some (.raw (.cells (icl ks)))→slB v8≠some kb →
    Xh 2 16 (M'.over L1) (fun v17 L17=>D_f141_15 F Q k1 (Env.put (Env.put (Env.put (Env.put (Env.put (Env.put E 12 (.i .i64 ks[i])) 13 (.i .i64 who)) 14 w1) 15 w2) 8 v8) 9 v17) L17) [E 9,w2]:=by
   intro v8 L1 ps1 hpm hr1 hw2 hw2M hap1 hout1 hfr1 hhas1 hkb1 hkv8
   have hv9':∀q,slB (E 9)=some q→M' q=none:=fun q hq=>zhH hap1 hc (hr1.f2 q hq) (hr1.o2.has hq)
   refine zbo (c:=c) (m:=t'.length) (new:=zm stc t') hr1.o2 hv9' (by omega) hw2 hw2M (Yo (fun _=>rfl) _) (by omega) hap1 ?_ ?_
   ·intro h0
    have ht0:t'=[]:=List.length_eq_zero_iff.1 h0
    unfold D_f141_15
    simp only[Env.put_apply]
    simp only[zf,l70,xl,w70,if_true,if_false,reduceIte,Nat.reduceEqDiff]
    refine hk _ M' L1 ps1 ?_ (by simp)
    exact⟨hd,hap1,hout1,hsame,hfr1,hhas1,by simpa[ht0]using hr1,hpm,by simp[h.l0],by simp[h.l2],by simp[h.l3],by simp[h.l10],by simp[h.l69],.inr ⟨kb,ex,by simp[hk1],hkb1,hk3,by simpa using hkv8,by simpa using hk5⟩⟩
   ·intro h0 b2 L2 g2 hap2
    have hb20:L0 b2=none:=hhas1 b2 g2.fresh
    have hres3:=hr1.app2 g2 hhas1 (by omega)
    unfold D_f141_15
    simp only[Env.put_apply]
    simp only[zf,l70,xl,w70,if_true,if_false,reduceIte,Nat.reduceEqDiff]
    refine hk _ M' L2 ps1 ?_ (by simp)
    refine⟨hd,hap2,hout1.grown g2 hr1.o2.raw,hsame,hfr1.grown g2 hr1.f2 hb20,?_,by simpa using hres3,hpm,by simp[h.l0],by simp[h.l2],by simp[h.l3],by simp[h.l10],by simp[h.l69],.inr ⟨kb,ex,by simp[hk1],?_,hk3,by simpa using hkv8,?_⟩⟩
    ·intro r hr
     rcases Classical.em (r=b2)with e | e
     ·subst e;exact hb20
     ·rcases Classical.em (slB (E 9)=some r)with e2 | e2
      ·exact hr1.f2 r e2
      ·rw[g2.same r e e2]at hr;exact hhas1 r hr
    ·rw[g2.same kb (by rintro rfl;rw[g2.fresh]at hkb1;cases hkb1) hk5];exact hkb1
    ·simp[slB];rintro rfl;rw[g2.fresh]at hkb1;cases hkb1
  simp only[zf,yb,List.getElem?_cons_zero,List.getElem?_cons_succ,zh,WU]
  refine zbo (c:=c) (m:=ps2.length) (new:=zm zaD ps2) hres1.o1 hv8' (by omega) hres2.o1 (fun q hq=>hc2 q (hres2.f1 q hq).1 (hres2.o1.has hq)) hres2.one (by omega) hap ?_ ?_
  ·intro h0
   have hp0:ps2=[]:=List.length_eq_zero_iff.1 h0
   have ho0:o=[]:=by rw[←hps2,hp0];rfl
   exact fin _ L' ps (by rw[h.pm,ho0];simp) hres1 hres2.o2 (fun q hq=>hc2 q (hres2.f2 q hq) (hres2.o2.has hq)) hap hout hfr' hhas' hkb' hk4
  ·intro h0 b1 L1 g1 hap1
   have hb10:L0 b1=none:=hhas' b1 g1.fresh
   have hres3:=hres1.app1 g1 hhas' (by omega) (fun p hp=>by
    have h4:=hres2.ins p hp
    refine⟨h4.1,fun q hq=>?_⟩
    have hLq:=(h4.2 q hq).1
    exact⟨h.has q hLq,fun h9=>hnew8 q h9 hLq,fun h9=>hnew9 q h9 hLq⟩)
   have hw2':OSl L1 w2 (zm stc t') t'.length 2:=hres2.o2.mono fun q hq=>by
    have hLq:=hres2.f2 q hq
    exact g1.same q (by rintro rfl;exact hres2.o2.has hq g1.fresh) (fun h9=>hnew8 q h9 hLq)
   refine fin _ L1 (ps++ps2) (by simp[h.pm,hps2]) hres3 hw2' (fun q hq=>hc2 q (hres2.f2 q hq) (hres2.o2.has hq)) hap1 (hout.grown g1 hres1.o1.raw) (hfr'.grown g1 (fun q hq=>(hres1.f1 q hq).1) hb10) ?_ ?_ ?_
   ·intro r hr
    rcases Classical.em (r=b1)with e | e
    ·subst e;exact hb10
    ·rcases Classical.em (slB (E 8)=some r)with e2 | e2
     ·exact (hres1.f1 r e2).1
     ·rw[g1.same r e e2]at hr;exact hhas' r hr
   ·rw[g1.same kb (by rintro rfl;rw[g1.fresh]at hkb';cases hkb') hk4];exact hkb'
   ·simp[slB];rintro rfl;rw[g1.fresh]at hkb';cases hkb'
end
end
section
variable {F:Nat→Option AFn}
section
variable {M L L0:Lg} {c t mb:Nat} {osl asl:AV} {S S':CX} {Q:AV→Lg→Prop}
theorem XD {i:Nat}{x x':One}(hx:S.σ.ones[i]?=some x)(h1:x'.c=x.c)(h2:x'.node=x.node):SameC S.σ (S.setOne i x').σ:=by
 refine⟨rfl,?_⟩
 show (S.σ.ones.set i x').map _=S.σ.ones.map _
 apply List.ext_getElem?
 intro j
 simp only[List.getElem?_map]
 by_cases e:i=j
 ·subst e
  have hi:i<S.σ.ones.length:=(List.getElem?_eq_some_iff.1 hx).1
  rw[List.getElem?_set_self hi,hx];simp[h1,h2]
 ·rw[List.getElem?_set_ne e]
theorem OutC.same {S2:CX}(o:OutC c S L)(h:SameC S.σ S2.σ)(h1:S2.τ=S.τ)(h2:S2.χ=S.χ):OutC c S2 L:=by
 refine⟨fun s hs=>?_,fun o1 ho a ha=>?_⟩
 ·rw[h1];exact o.tms s (by rw[←h.t];exact hs)
 ·obtain⟨o',ho',he⟩:=h.cs ⟨o1,ho,ha⟩
  have:=o.chs o' ho' a he
  exact⟨this.1,by rw[h.t];exact this.2.1,by rw[h2];exact this.2.2⟩
theorem za7 {α β:Type}(f:β→α→Option β)(l:List α){i:Nat}(hi:i<l.length)(b r:β)(h:(l.drop i).foldlM f b=some r):∃b',f b l[i]=some b'∧(l.drop (i+1)).foldlM f b'=some r:=by
 rw[List.drop_eq_getElem_cons hi,List.foldlM_cons]at h
 cases h1:f b l[i]with
 | none=>rw[h1]at h;cases h
 | some b'=>rw[h1]at h;exact⟨b',rfl,h⟩
theorem Yv (hf:H_f141 F):∀n,zcF F N n
 | 0=>by intro S S' id err cause laps sts h;cases h
 | n+1=>by
  have ih:=Yv hf n
  intro S S' id err cause laps sts hp c t mb osl asl M L hd ha ho hc
  refine zr ?_
  intro Q hQ
  unfold CX.cancelP at hp
  split at hp
  case isFalse=>cases hp
  rename_i h0
  obtain⟨i,rfl⟩:=Int.eq_ofNat_of_zero_le h0
  simp only[Int.toNat_natCast]at hp
  split at hp
  case h_1=>cases hp
  rename_i x hx
  apply r_f141 hf.code
  unfold D_f141_1 D_f141_2
  obtain⟨b,a1,a2,a3,a4,a5⟩:=hd.fo (F:=F) hx
  simp[zJ,hd.f2,a3]
  unfold D_f141_3
  have g1:rdL (M.over L) (b,i * 9+1) none=some (.b x.free):=a4 L 1 (by omega)
  have g3:rdL (M.over L) (b,i * 9+3) none=some (.i .i64 x.err):=a4 L 3 (by omega)
  have fin0:(x.free=true∨x.err≠0)→Q (.tup [.sl none 0 0 0,.sl none 0 0 0]) (M.over L):=by
   intro hfx
   rw[if_pos hfx]at hp
   cases hp
   exact hQ _ _ ⟨M,L,_,_,rfl,rfl,hd,ha,ho,SameC.refl _,FrC.refl _ _,[],rfl,ResP.nil _ _⟩
  cases hfree:x.free
  case true =>
   simp[g1,hfree]
   exact⟨_,zu.refl _,fin0 (.inl hfree)⟩
  by_cases herr:x.err=0
  case neg =>
   simp[g1,g3,hfree,herr]
   exact⟨_,zu.refl _,fin0 (.inr herr)⟩
  clear fin0
  rw[if_neg (by simp[hfree,herr])]at hp
  split at hp
  case h_1=>cases hp
  rename_i S1 ws hend
  split at hp
  case h_1=>cases hp
  rename_i S2 hstop
  split at hp
  case isFalse=>cases hp
  rename_i hkk
  split at hp
  case h_1=>cases hp
  rename_i S3 out sts' hfold
  split at hp
  case h_1=>cases hp
  rename_i ns hdet
  cases hp
  simp[g1,g3,hfree,herr]
  unfold D_f141_4
  have hlt:i * 9+9≤(zm One.cells S.σ.ones).length:=(wa One.len S.σ.ones i x hx).2
  have hil:i<S.σ.ones.length:=(List.getElem?_eq_some_iff.1 hx).1
  simp
  rw[zH (zY a2) (by omega) rfl,xp]
  have d1:=hd.setOne (o':={ x with err:=err }) hx a1 (j:=3) (v:=.i .i64 err) (by omega) rfl
  have ap1:=ha.own (b:=b) (by rw[a2];simp) (.raw (.cells ((zm One.cells S.σ.ones).set (i * 9+3) (.i .i64 err))))
  generalize M.put b (.raw (.cells ((zm One.cells S.σ.ones).set (i * 9+3) (.i .i64 err))))=M1 at d1 ap1
  have hx1:({ S.σ with ones:=S.σ.ones.set i { x with err:=err } }:Cs).ones[i]?=some { x with err:=err }:=by simp[hil]
  obtain⟨b',b1,b2,b3,b4,b5⟩:=d1.fo (F:=F) hx1
  rw[a1]at b1
  cases b1
  have hlt1:=(wa One.len _ i _ hx1).2
  simp
  rw[zH (zY b2) (Nat.lt_of_lt_of_le (by omega:i * 9+4<i * 9+9) hlt1) rfl,xp]
  have d2:=d1.setOne (o':={ x with err:=err,cause:=cause }) hx1 a1 (j:=4) (v:=.i .i64 cause) (by omega) rfl
  have ap2:=ap1.own (b:=b) (by rw[b2];simp) (.raw (.cells ((zm One.cells ({ S.σ with ones:=S.σ.ones.set i { x with err:=err } }:Cs).ones).set (i * 9+4) (.i .i64 cause))))
  generalize M1.put b (.raw (.cells ((zm One.cells ({ S.σ with ones:=S.σ.ones.set i { x with err:=err } }:Cs).ones).set (i * 9+4) (.i .i64 cause))))=M2 at d2 ap2
  have hS0:({ ({ S.σ with ones:=S.σ.ones.set i { x with err:=err } }:Cs)with ones:=({ S.σ with ones:=S.σ.ones.set i { x with err:=err } }:Cs).ones.set i { x with err:=err,cause:=cause } }:Cs)=(S.setOne i { x with err:=err,cause:=cause }).σ:=by
   simp[CX.setOne,List.set_set]
  rw[hS0]at d2
  have hsm0:SameC S.σ (S.setOne i { x with err:=err,cause:=cause }).σ:=XD hx rfl rfl
  have ho0:OutC c (S.setOne i { x with err:=err,cause:=cause }) L:=ho.same hsm0 rfl rfl
  have hx2:(S.setOne i { x with err:=err,cause:=cause }).σ.ones[i]?=some { x with err:=err,cause:=cause }:=by simp[CX.setOne,hil]
  generalize hSS:S.setOne i { x with err:=err,cause:=cause }=S0 at d2 hsm0 ho0 hx2 hend
  obtain⟨b',b1,b2,b3,b4,b5⟩:=d2.fo (F:=F) hx2
  rw[a1]at b1
  cases b1
  unfold D_f141_5
  have r2:rdL (M2.over L) (b,i * 9+2) none=some (ptr x.c):=b4 L 2 (by omega)
  simp[r2]
  refine (zfa hf.f134 hend ⟨_,List.mem_of_getElem? hx2,rfl⟩ ho0 ap2).mono ?_
  rintro v4 _ ⟨hσ1,L1,rfl,ap3,ho1,fr1,hws,hwf⟩
  rw[←hσ1]at d2 hx2 hsm0
  have hsmS1:SameC S0.σ S1.σ:=by rw[hσ1];exact SameC.refl _
  have hv4:v4.cellsOf=some [v4]:=by rcases hws with⟨_,rfl⟩ | ⟨_,_,rfl,_⟩<;>rfl
  have hv4o:v4.one=true:=hws.one
  simp[zE,zo,zq,zp,hv4,hv4o]
  rw[yg (c:=[.i .i64 i,.i .i64 err,.i .i64 cause,v4]) _ _ (by simp[y5,zE,zo,zq,zp,AV.cellsOf,hv4o]) (by simp[hv4o])]
  intro bo hbo
  have hbo':=yI.1 hbo
  rw[yH hbo'.1]
  have ap4:=ap3.putL hbo'.1 (.raw (.cells [.i .i64 i,.i .i64 err,.i .i64 cause,v4]))
  have hL0:∀r,L1 r=none→L r=none:=fun r hr=>by
   rcases Classical.em (L r=none)with e | e
   ·exact e
   ·exact absurd hr (fr1.has hsmS1 ho1 e)
  have hbL:L bo=none:=hL0 bo hbo'.2
  have ho2:=ho1.put hbo'.2 (.raw (.cells [.i .i64 i,.i .i64 err,.i .i64 cause,v4]))
  have fr2:FrC S.σ L (L1.put bo (.raw (.cells [.i .i64 i,.i .i64 err,.i .i64 cause,v4]))):=(FrC.trans (by rw[←hσ1];exact hsm0) (FrC.refl _ _) fr1).put hbL _
  have hnb:∀q,slB v4=some q→q≠bo:=fun q hq=>by rintro rfl;exact hws.has hq hbo'.2
  have hres:ResP L (L1.put bo (.raw (.cells [.i .i64 i,.i .i64 err,.i .i64 cause,v4]))) (.sl (some (bo,0)) 1 1 0) (.sl none 0 0 0) [(⟨i,err,cause,ws⟩,v4)] []:=by
   refine⟨.inr ⟨bo,0,by simp,rfl,.inl rfl,by rw[ze];rfl,rfl⟩,.inl ⟨rfl,rfl,rfl⟩,?_,?_,fun q hq=>by cases hq⟩
   ·intro p hp
    simp at hp;subst hp
    refine⟨hws.mono fun q hq=>zb _ _ _ (hnb q hq),fun q hq=>⟨hwf q hq,?_,by simp[slB]⟩⟩
    intro h9;simp[slB]at h9;exact hnb q hq h9.symm
   ·intro q hq;simp[slB]at hq;subst hq;exact⟨hbL,by simp[slB]⟩
  have hL02:∀r,(L1.put bo (.raw (.cells [.i .i64 i,.i .i64 err,.i .i64 cause,v4]))) r=none→L r=none:=fun r hr=>by
   by_cases e:r=bo
   ·subst e;exact hbL
   ·rw[zb _ _ _ e]at hr;exact hL0 r hr
  generalize L1.put bo (.raw (.cells [.i .i64 i,.i .i64 err,.i .i64 cause,v4]))=L2 at ap4 ho2 fr2 hres hL02
  unfold D_f141_6
  obtain⟨b',b1,b2,b3,b4,b5⟩:=d2.fo (F:=F) hx2
  rw[a1]at b1
  cases b1
  have r8:rdL (M2.over L2) (b,i * 9+8) none=some (.i .i64 x.timer):=b4 L2 8 (by omega)
  simp[d2.f0,r8]
  refine (zcV hf.f51 hstop ho2 ap4).mono ?_
  rintro _ _ ⟨hσ2,hχ2,L3,rfl,ap5,ho3,fr3⟩
  have hsm2:SameC S.σ S2.σ:=by rw[hσ2];exact hsm0
  have fr4:FrC S.σ L L3:=fr2.trans hsm0 fr3
  have hsmS2:SameC S1.σ S2.σ:=by rw[hσ2];exact SameC.refl _
  have hL03:∀r,L3 r=none→L r=none:=fun r hr=>by
   rcases Classical.em (L2 r=none)with e | e
   ·exact hL02 r e
   ·exact absurd hr (fr3.has hsmS2 ho3 e)
  have hraw:∀r,L r=none→L2 r≠none→(∀z,L2 r=some (.abs z)→False)→L3 r=L2 r:=fun r h0 hr hz=>fr3 r hr (fun h9=>hz _ (ho2.tms r h9).2) (fun o ho h9=>hz _ (ho2.chs o ho r h9).2.2)
  have hres3:ResP L L3 (.sl (some (bo,0)) 1 1 0) (.sl none 0 0 0) [(⟨i,err,cause,ws⟩,v4)] []:=by
   refine⟨hres.o1.mono fun q hq=>?_,hres.o2.mono fun q hq=>(by cases hq),fun p hp=>⟨(hres.ins p hp).1.mono fun q hq=>?_,(hres.ins p hp).2⟩,hres.f1,hres.f2⟩
   ·have:=hres.o1.block hq;exact hraw q (hres.f1 q hq).1 (by rw[this];simp) (fun z hz=>by rw[this]at hz;cases hz)
   ·have h4:=(hres.ins p hp).1
    rcases h4 with⟨_,h5⟩ | ⟨b',ex',h5,h6⟩
    ·rw[h5]at hq;cases hq
    ·rw[h5]at hq;simp[slB]at hq;subst hq
     exact hraw b' (((hres.ins p hp).2 b' (by rw[h5];rfl)).1) (by rw[h6];simp) (fun z hz=>by rw[h6]at hz;cases hz)
  rw[←hσ2]at d2 hx2
  unfold D_f141_9
  obtain⟨b',b1,b2,b3,b4,b5⟩:=d2.fo (F:=F) hx2
  rw[a1]at b1
  cases b1
  have r0:rdL (M2.over L3) (b,i * 9) none=some (.i .i64 x.node):=by have:=b4 L3 0 (by omega);simpa[One.cells]using this
  simp[d2.f1,r0]
  refine (VH hf.f136 (zY d2.tree) (zcn hkk.1) x.node).mono ?_
  intro v7 K' hkids
  generalize hks:kidsT S2.σ.tree x.node=ks at hkids hfold hkk
  have hlen7:∀(LL:Lg) (k:AV→Lg→Prop),za F .lenSl [v7] LL k=k (.i .i64 ks.length) LL:=by
   intro LL k
   rcases hkids with⟨h1,rfl,_⟩ | ⟨b',ex,_,rfl,_⟩
   ·simp[h1]
   ·simp
  simp[hlen7]
  have key:∀(L4:Lg) (E0:Env),yi M2 L4 c→OutC c S2 L4→FrC S.σ L L4→(∀r,L4 r=none→L r=none)→ResP L L4 (.sl (some (bo,0)) 1 1 0) (.sl none 0 0 0) [(⟨i,err,cause,ws⟩,v4)] [] →
    (ks=[]∨∃kb ex,v7=.sl (some (kb,0)) ks.length ks.length ex∧L4 kb=some (.raw (.cells (icl ks)))∧L kb=none∧kb≠bo)→E0 0=.p (some (c,0))→E0 2=.i .i64 err→E0 3=.i .i64 cause→E0 10=.p (some (b,i * 9))→E0 8=.sl (some (bo,0)) 1 1 0→E0 9=.sl none 0 0 0→E0 68=v7→E0 69=.i .i64 ks.length→E0 70=.i .i64 0→D_f141_11 F Q E0 (M2.over L4):=by
   intro L4 E0 ap6 ho4 fr5 hL4 hres4 hkid e0 e2 e3 e10 e8 e9 e68 e69 e70
   unfold D_f141_11
   obtain⟨I,hI⟩:∃I:Nat→Env→Lg→Prop,I=fun m E K=>∃(j:Nat) (acc:Zq) (M' L':Lg) (ps:List (Lap×AV)),m+j=ks.length∧K=M'.over L'∧CL L c t mb osl asl S.σ err cause (.p (some (b,i * 9))) ks acc E M' L' ps∧E 70=.i .i64 j∧(ks.drop j).foldlM (UL (CX.cancelP n) err cause) acc=some (S3,laps,sts):=⟨_,rfl⟩
   refine zQ I ks.length ?_ ?_
   ·rw[hI]
    refine⟨0,(S2,[⟨i,err,cause,ws⟩],[]),M2,L4,[(⟨i,err,cause,ws⟩,v4)],by omega,rfl,⟨d2,ap6,ho4,hsm2,fr5,hL4,by rw[e8,e9];exact hres4,rfl,e0,e2,e3,e10,e69,?_⟩,by simpa using e70,by simpa using hfold⟩
    rcases hkid with h | ⟨kb,ex,h1,h2,h3,h4⟩
    ·exact .inl h
    ·exact .inr ⟨kb,ex,by rw[e68,h1],h2,h3,by rw[e8];simp[slB];exact Ne.symm h4,by rw[e9];simp[slB]⟩
   ·intro m E t' K hi
    rw[hI]at hi
    obtain⟨j,acc,M',L',ps,hm,rfl,hcl,l70,hfj⟩:=hi
    unfold D_f141_12
    rw[l70,hcl.l69]
    simp only[zf,y0]
    unfold D_f141_13
    rw[zR]
    refine⟨fun hlt=>?_,fun hnl=>?_⟩
    ·have hj:j<ks.length:=by omega
     obtain⟨acc',h1,h2⟩:=za7 _ ks hj acc _ hfj
     refine zgm hf.f140 ih hcl hc hj l70 hkk.2 h1 ?_
     intro E' M1 L1' ps' hcl' h70
     rw[hI]
     exact⟨m-1,by omega,j+1,acc',M1,L1',ps',by omega,rfl,hcl',h70,h2⟩
    ·have hj:j=ks.length:=by omega
     subst hj
     rw[List.drop_length]at hfj
     simp at hfj
     subst hfj
     obtain⟨x3,hx3,_,hn3⟩:=hcl.same.get' hx
     obtain⟨b',c1,c2,c3,c4,c5⟩:=hcl.d.fo (F:=F) hx3
     rw[a1]at c1
     cases c1
     unfold D_f141_8
     rw[hcl.l0,hcl.l10]
     have q0:rdL (M'.over L') (b,i * 9) none=some (.i .i64 x.node):=by have:=c4 L' 0 (by omega);rw[←hn3];simpa[One.cells]using this
     simp[hcl.d.f1,q0]
     refine (Wg hf.f139 (zY hcl.d.tree) hdet).mono ?_
     rintro _ K' hK'
     rw[xp]at hK'
     rw[hK']
     have hd3:=hcl.d.setTree ns
     have ap7:=hcl.ap.own (b:=t) (by rw[hcl.d.tree];simp) (.abs (xy t ns))
     simp
     exact⟨_,zu.refl _,hQ _ _ ⟨_,L',_,_,rfl,rfl,hd3,ap7,hcl.out.same ⟨rfl,rfl⟩ rfl rfl,hcl.same.trans ⟨rfl,rfl⟩,hcl.fr,ps,hcl.pm,hcl.res⟩⟩
  rcases hkids with⟨h1,rfl,hK'⟩ | ⟨kb,ex,h1,h2,hK'⟩
  ·rw[hK']
   refine key L3 _ ap5 ho3 fr4 hL03 hres3 (.inl h1) ?_ ?_ ?_ ?_ ?_ ?_ ?_ ?_ ?_<;>simp
  ·have hk':=yI.1 h1
   rw[hK',yH hk'.1]
   have hkL:L kb=none:=hL03 kb hk'.2
   refine key (L3.put kb (.raw (.cells (icl ks)))) _ (ap5.putL hk'.1 _) (ho3.put hk'.2 _) (fr4.put hkL _) ?_ (hres3.mono fun q _ hq=>zb _ _ _ (by rintro rfl;exact hq hk'.2)) (.inr ⟨kb,ex,h2,ze _ _ _,hkL,?_⟩) ?_ ?_ ?_ ?_ ?_ ?_ ?_ ?_ ?_<;>try simp
   ·intro r hr
    by_cases e:r=kb
    ·subst e;exact hkL
    ·rw[zb _ _ _ e]at hr;exact hL03 r hr
   ·rintro rfl
    have:=hres3.o1.block (b:=kb) rfl
    rw[hk'.2]at this;cases this
end
end
section
variable {F:Nat→Option AFn}
structure SubC (σ σ':Cs):Prop where
 t:σ'.t=σ.t
 names:∃l,σ'.names=σ.names++l
theorem SameC.sub {σ σ':Cs}(h:SameC σ σ'):SubC σ σ':=⟨h.t,[],by simp[h.names]⟩
theorem SubC.trans {a b d:Cs}(h:SubC a b)(k:SubC b d):SubC a d:=by
 obtain⟨l,hl⟩:=h.names
 obtain⟨m,hm⟩:=k.names
 exact⟨k.t.trans h.t,l++m,by rw[hm,hl,List.append_assoc]⟩
structure CO (c t mb:Nat)(S S':CX)(L:Lg)(osl asl:AV)(M' L':Lg):Prop where
 d:CtxD c S'.σ t mb osl asl M'
 ap:yi M' L' c
 out:OutC c S' L'
 sub:SubC S.σ S'.σ
 fr:FrC S.σ L L'
 has:∀r,L' r=none→L r=none
structure CDone (c:Nat)(S S':CX)(L L2:Lg):Prop where
 own:L2 c=some (.abs (YA c S'.σ))
 out:OutC c S' L2
 sub:SubC S.σ S'.σ
 fr:∀r,L r≠none→r≠c→S.σ.t≠some r→(∀o∈S.σ.ones,o.c≠some r)→L2 r=L r
 has:∀r,L2 r=none→L r=none
section
variable {M L L0:Lg} {c t mb:Nat} {osl asl:AV} {S S':CX} {Q:AV→Lg→Prop}
theorem OutC.putN (o:OutC c S L)(d:LC):OutC c S (L.put c d):=by
 refine⟨fun s hs=>⟨(o.tms s hs).1,?_⟩,fun o1 h1 a h2=>⟨(o.chs o1 h1 a h2).1,(o.chs o1 h1 a h2).2.1,?_⟩⟩
 ·rw[zb _ _ _ (o.tms s hs).1];exact (o.tms s hs).2
 ·rw[zb _ _ _ (o.chs o1 h1 a h2).1];exact (o.chs o1 h1 a h2).2.2
theorem CO.shut {M' L':Lg}(h:CO c t mb S S' L osl asl M' L')(hc:L c≠none):zu (M'.over L') (L'.put c (.abs (YA c S'.σ)))∧CDone c S S' L (L'.put c (.abs (YA c S'.σ))):=by
 refine⟨h.d.shut h.ap,ze _ _ _,h.out.putN _,h.sub,?_,?_⟩
 ·intro r hr h1 h2 h3
  rw[zb _ _ _ h1];exact h.fr r hr h2 h3
 ·intro r hr
  by_cases e:r=c
  ·subst e;rw[ze]at hr;cases hr
  ·rw[zb _ _ _ e]at hr;exact h.has r hr
theorem Us.shut {v1 v2:AV}{laps:List Lap}{sts:List (Int×Int)}{L':Lg}(h:Us L L' v1 v2 laps sts)(hc:L c≠none)(d:LC):Us L (L'.put c d) v1 v2 laps sts:=by
 obtain⟨ps,h1,h2⟩:=h
 exact⟨ps,h1,h2.mono fun b hb hK=>zb _ _ _ (by rintro rfl;exact hc hb)⟩
def CX.beginP (S:CX)(id parent:Int):Option (CX×List Lap) :=
 if 0≤parent then match S.σ.ones[parent.toNat]? with
  | none=>none
  | some up=>if up.err=0 then some (S,[])else match S.cancelP 200 id up.err up.cause with
   | none=>none
   | some r=>some (r.1,r.2.1)
 else none
theorem Vx (hf:H_f142 F){id parent:Int}{laps:List Lap}(h:S.beginP id parent=some (S',laps))(hd:CtxD c S.σ t mb osl asl M)(ha:yi M L c)(ho:OutC c S L)(hc:L c≠none) :
  zd F k_f142 [.p (some (c,0)),.i .i64 id,.i .i64 parent] (M.over L) fun v K'=>∃M' L' v2 sts,K'=M'.over L'∧CO c t mb S S' L osl asl M' L'∧SameC S.σ S'.σ∧Us L L' v v2 laps sts:=by
 refine zr ?_
 intro Q hQ
 unfold CX.beginP at h
 split at h
 case isFalse=>cases h
 rename_i h0
 obtain⟨i,rfl⟩:=Int.eq_ofNat_of_zero_le h0
 simp only[Int.toNat_natCast]at h
 split at h
 case h_1=>cases h
 rename_i up hup
 apply r_f142 hf.code
 unfold D_f142_1
 obtain⟨b,a1,a2,a3,a4,a5⟩:=hd.fo (F:=F) hup
 simp[hd.f2,a3,a5]
 intro b6 hb6
 have hb:=yI.1 hb6
 rw[zw (n:=9) (ze _ _ _) (One.one up) (One.len up) (by simp),zA]
 have hsp:zo [AV.i .i64 0,.b false,.p none,.i .i64 0,.i .i64 0,.i .i64 0,.b false,.b false,.i .i64 0] 0 up.cells=up.cells:=rfl
 rw[hsp,yH hb.1]
 have ap1:=ha.putL hb.1 (.raw (.cells up.cells))
 have g:(M.over (L.put b6 (.raw (.cells up.cells)))) b6=some (.raw (.cells up.cells)):=by rw[yG hb.1,ze]
 have r3:rdL (M.over (L.put b6 (.raw (.cells up.cells)))) (b6,3) none=some (.i .i64 up.err):=by rw[zk g];rfl
 have r4:rdL (M.over (L.put b6 (.raw (.cells up.cells)))) (b6,4) none=some (.i .i64 up.cause):=by rw[zk g];rfl
 have ho1:=ho.put hb.2 (.raw (.cells up.cells))
 have hh1:∀r,(L.put b6 (.raw (.cells up.cells))) r=none→L r=none:=fun r hr=>by
  by_cases e:r=b6
  ·subst e;exact hb.2
  ·rwa [zb _ _ _ e]at hr
 have fr1:FrC S.σ L (L.put b6 (.raw (.cells up.cells))):=(FrC.refl _ _).put hb.2 _
 split at h
 ·rename_i he
  cases h
  simp[r3,he]
  exact⟨_,zu.refl _,hQ _ _ ⟨M,_,.sl none 0 0 0,[],rfl,⟨hd,ap1,ho1,(SameC.refl _).sub,fr1,hh1⟩,SameC.refl _,[],rfl,ResP.nil _ _⟩⟩
 ·rename_i he
  split at h
  case h_1=>cases h
  rename_i r hr
  cases h
  simp[r3,r4,he]
  have hc1:(L.put b6 (.raw (.cells up.cells))) c≠none:=fun h9=>hc (hh1 c h9)
  refine (Yv hf.f141 200 _ r.1 _ _ _ r.2.1 r.2.2 hr c t mb osl asl M _ hd ap1 ho1 hc1).mono ?_
  rintro _ K' ⟨M',L',w1,w2,rfl,rfl,hd2,hap2,hout2,hsm,hfr2,ps,hps,hres⟩
  have hh2:∀r,L' r=none→L r=none:=fun q hq=>by
   rcases Classical.em ((L.put b6 (.raw (.cells up.cells))) q=none)with e | e
   ·exact hh1 q e
   ·exact absurd hq (hfr2.has hsm hout2 e)
  simp
  exact⟨_,zu.refl _,hQ _ _ ⟨M',L',w2,r.2.2,rfl,⟨hd2,hap2,hout2,hsm.sub,fr1.trans (SameC.refl _) hfr2,hh2⟩,hsm,ps,hps,hres.low fun q hq _=>hh1 q hq⟩⟩
def CX.addP (S:CX)(o:One)(parent:Int):CX:={ S with σ:=S.σ.add o parent }
theorem zgv (o:One)(parent:Int):SubC S.σ (S.addP o parent).σ:=⟨rfl,[(o.c,(zL S.σ.tree parent (!o.free)).2.1)],by simp[CX.addP,Cs.add,Cs.names]⟩
theorem OutC.addNone (ho:OutC c S L){o:One}(h:o.c=none)(parent:Int):OutC c (S.addP o parent) L:=by
 refine⟨ho.tms,fun o1 h1 a h2=>?_⟩
 have h1':o1∈S.σ.ones++[{ o with node:=(zL S.σ.tree parent (!o.free)).2.1,timer:=-1 }]:=h1
 rcases List.mem_append.1 h1' with h1' | h1'
 ·exact ho.chs o1 h1' a h2
 ·simp at h1';subst h1';rw[h]at h2;cases h2
def CX.addS (S:CX)(o:One)(parent:Int)(a:Nat):CX:={ S with σ:=S.σ.add { o with c:=some a } parent,χ:=y9 S.χ a .sg }
theorem OutC.addS (ho:OutC c S L){o:One}{a:Nat}(ha:L a=none)(hac:a≠c)(parent:Int):OutC c (S.addS o parent a) (L.put a (.abs (yu a .sg))):=by
 have hn:∀r P,L r=some P→r≠a:=by rintro r P h rfl;rw[ha]at h;cases h
 refine⟨fun s hs=>?_,fun o1 h1 a1 h2=>?_⟩
 ·have:=ho.tms s hs
  exact⟨this.1,by rw[zb _ _ _ (hn _ _ this.2)];exact this.2⟩
 have h1':o1∈S.σ.ones++[{ ({ o with c:=some a }:One)with node:=(zL S.σ.tree parent (!o.free)).2.1,timer:=-1 }]:=h1
 rcases List.mem_append.1 h1' with h1' | h1'
 ·have:=ho.chs o1 h1' a1 h2
  have e:a1≠a:=hn _ _ this.2.2
  exact⟨this.1,this.2.1,by rw[zb _ _ _ e];simp[CX.addS,y9,e,this.2.2]⟩
 ·simp at h1';subst h1'
  simp at h2;subst h2
  refine⟨hac,?_,by rw[ze];simp[CX.addS,y9]⟩
  intro h9
  exact hn _ _ (ho.tms a h9).2 rfl
theorem zcD (o:One)(parent:Int)(a:Nat):SubC S.σ (S.addS o parent a).σ:=⟨rfl,[(some a,(zL S.σ.tree parent (!o.free)).2.1)],by simp[CX.addS,Cs.add,Cs.names]⟩
abbrev zcG:=CX×Int×List Lap×Int
def CX.okAdd (S:CX):Bool:=kok S.σ.tree&&decide (S.σ.ones.length≤1000)
def One.zero:One:=⟨0,false,none,0,0,0,false,false,0⟩
def CX.cancelsP (S:CX)(parent:Int)(a:Nat):Option zcG :=
 if S.σ.room parent≠0 then some (S,0,[],S.σ.room parent)
 else if S.okAdd=true then match S.σ.ones[parent.toNat]? with
  | none=>none
  | some up=>match (S.addS { One.zero with when:=up.when,has:=up.has } up.node a).beginP S.σ.ones.length parent with
   | none=>none
   | some r=>some (r.1,S.σ.ones.length,r.2,0)
 else none
theorem Z8 {σ:Cs}{parent:Int}(h:σ.room parent=0):∃i:Nat,parent=(i:Int)∧i<σ.ones.length:=by
 unfold Cs.room at h
 split at h
 ·simp at h
 ·rename_i h1
  simp[Cs.has]at h1
  obtain⟨i,rfl⟩:=Int.eq_ofNat_of_zero_le h1.1
  exact⟨i,rfl,by omega⟩
theorem Y3 (hf:H_f143 F){parent:Int}(hp:∀a,L a=none→∃r,S.cancelsP parent a=some r)(hd:CtxD c S.σ t mb osl asl M)(ha:yi M L c)(ho:OutC c S L)(hc:L c≠none) :
  zd F k_f143 [.p (some (c,0)),.i .i64 parent] (M.over L) fun v K'=>∃(a:Nat) (r:zcG) (M' L':Lg) (osl' v1 v2:AV) (sts:List (Int×Int)),(S.σ.room parent=0→L a=none)∧S.cancelsP parent a=some r∧v=.tup [.i .i64 r.2.1,v1,.i .i64 r.2.2.2]∧K'=M'.over L'∧CO c t mb S r.1 L osl' asl M' L'∧Us L L' v1 v2 r.2.2.1 sts:=by
 refine zr ?_
 intro Q hQ
 apply r_f143 hf.code
 unfold D_f143_1 D_f143_2
 refine (Zl hf.f128 hd L parent).mono ?_
 rintro _ K' ⟨rfl,hK'⟩
 rw[hK']
 clear hK' K'
 by_cases hr0:S.σ.room parent=0
 case neg =>
  simp[hr0]
  exact⟨_,zu.refl _,hQ _ _ ⟨0,_,M,L,osl,.sl none 0 0 0,.sl none 0 0 0,[],fun h=>absurd h hr0,by simp only[CX.cancelsP,ne_eq,hr0,not_false_eq_true,if_true];rfl,rfl,rfl,⟨hd,ha,ho,(SameC.refl _).sub,FrC.refl _ _,fun _ h=>h⟩,[],rfl,ResP.nil _ _⟩⟩
 obtain⟨i,rfl,hi⟩:=Z8 hr0
 have hup:S.σ.ones[i]?=some S.σ.ones[i]:=List.getElem?_eq_getElem hi
 generalize S.σ.ones[i]=up at hup
 obtain⟨b,a1,a2,a3,a4,a5⟩:=hd.fo (F:=F) hup
 simp[hr0,hd.f2,a3,a5]
 intro b8 hb8
 have hb:=yI.1 hb8
 rw[zw (n:=9) (ze _ _ _) (One.one up) (One.len up) (by simp),zA]
 have hsp:zo [AV.i .i64 0,.b false,.p none,.i .i64 0,.i .i64 0,.i .i64 0,.b false,.b false,.i .i64 0] 0 up.cells=up.cells:=rfl
 rw[hsp,yH hb.1]
 have ap1:=ha.putL hb.1 (.raw (.cells up.cells))
 have g:((L.put b8 (.raw (.cells up.cells)))) b8=some (.raw (.cells up.cells)):=ze _ _ _
 have ho1:=ho.put hb.2 (.raw (.cells up.cells))
 have hh1:∀r,(L.put b8 (.raw (.cells up.cells))) r=none→L r=none:=fun r hr=>by
  by_cases e:r=b8
  ·subst e;exact hb.2
  ·rwa [zb _ _ _ e]at hr
 have fr1:FrC S.σ L (L.put b8 (.raw (.cells up.cells))):=(FrC.refl _ _).put hb.2 _
 generalize hL1:L.put b8 (.raw (.cells up.cells))=L1 at ap1 g ho1 hh1 fr1
 refine (XA hf.f129).mono ?_
 rintro _ K' ⟨a,haK,rfl,hK'⟩
 have haK':=yI.1 haK
 have haL:L a=none:=hh1 a haK'.2
 have hac:a≠c:=by rintro rfl;exact hc haL
 rw[hK',yH haK'.1]
 clear hK' K'
 obtain⟨r,hr⟩:=hp a haL
 have hr':=hr
 unfold CX.cancelsP at hr
 rw[if_neg (by simp[hr0])]at hr
 split at hr
 case isFalse=>cases hr
 rename_i hok
 simp only[CX.okAdd,Bool.and_eq_true,decide_eq_true_eq]at hok
 simp only[Int.toNat_natCast,hup]at hr
 split at hr
 case h_1=>cases hr
 rename_i r1 hr1
 cases hr
 have ap2:=ap1.putL haK'.1 (.abs (yu a .sg))
 have hn8:b8≠a:=by rintro rfl;rw[g]at haK';cases haK'.2
 have g2:(L1.put a (.abs (yu a .sg))) b8=some (.raw (.cells up.cells)):=by rw[zb _ _ _ hn8];exact g
 have hb8M:∀X:Lg,M b8=none→rdL (M.over X) (b8,0) none=rdL X (b8,0) none∧rdL (M.over X) (b8,5) none=rdL X (b8,5) none∧rdL (M.over X) (b8,6) none=rdL X (b8,6) none:=fun X h=>by simp[rdL,yG h]
 have rd:∀X:Lg,X b8=some (.raw (.cells up.cells))→rdL X (b8,0) none=some (.i .i64 up.node)∧rdL X (b8,5) none=some (.i .i64 up.when)∧rdL X (b8,6) none=some (.b up.has):=fun X h=>⟨by rw[zk h];rfl,by rw[zk h];rfl,by rw[zk h];rfl⟩
 have q1:=hb8M L1 hb.1
 have q2:=hb8M (L1.put a (.abs (yu a .sg))) hb.1
 rw[(rd _ g).1,(rd _ g).2.1,(rd _ g).2.2]at q1
 rw[(rd _ g2).1,(rd _ g2).2.1,(rd _ g2).2.2]at q2
 simp[q2,zE,zo,zq,zp,AV.cellsOf,z8,yB,Xm,q1]
 have hoS:OutC c (S.addS { One.zero with when:=up.when,has:=up.has } up.node a) (L1.put a (.abs (yu a .sg))):=ho1.addS haK'.2 hac _
 have hcell:AV.agg [.i .i64 0,.b false,.p (some (a,0)),.i .i64 0,.i .i64 0,.i .i64 up.when,.b up.has,.b false,.i .i64 0]=AV.agg ({ ({ One.zero with when:=up.when,has:=up.has }:One)with c:=some a }:One).cells:=rfl
 rw[hcell]
 refine (vD hf.f121 hd ap2 ({ ({ One.zero with when:=up.when,has:=up.has }:One)with c:=some a }:One) up.node hok.1 hok.2).mono ?_
 rintro _ K' ⟨rfl,M3,osl3,rfl,hd3,ap3⟩
 have hcL2:(L1.put a (.abs (yu a .sg))) c≠none:=by rw[zb _ _ _ (Ne.symm hac)];exact fun h9=>hc (hh1 c h9)
 have hh2:∀q,(L1.put a (.abs (yu a .sg))) q=none→L q=none:=fun q hq=>by
  by_cases e:q=a
  ·subst e;exact haL
  ·rw[zb _ _ _ e]at hq;exact hh1 q hq
 have hd3':CtxD c (S.addS { One.zero with when:=up.when,has:=up.has } up.node a).σ t mb osl3 asl M3:=hd3
 refine⟨by simp[z8,yB,Xm,q1,q2],?_⟩
 refine (Vx hf.f142 hr1 hd3' ap3 hoS hcL2).mono ?_
 rintro v K' ⟨M4,L4,v2,sts,rfl,co,_,hres⟩
 have hsub:SubC S.σ (S.addS { One.zero with when:=up.when,has:=up.has } up.node a).σ:=zcD _ _ _
 have frS:FrC S.σ L L4:=by
  intro q hq h1 h2
  have e1:(L1.put a (.abs (yu a .sg))) q=L q:=by rw[zb _ _ _ (by rintro rfl;exact hq haL)];exact fr1 q hq h1 h2
  rw[←e1]
  refine co.fr q (by rw[e1];exact hq) h1 ?_
  intro o1 ho1 h9
  have h1':o1∈S.σ.ones++[{ ({ ({ One.zero with when:=up.when,has:=up.has }:One)with c:=some a }:One)with node:=(zL S.σ.tree up.node (!One.zero.free)).2.1,timer:=-1 }]:=ho1
  rcases List.mem_append.1 h1' with h1' | h1'
  ·exact h2 o1 h1' h9
  ·simp at h1';subst h1';simp at h9;subst h9;exact hq haL
 simp
 exact⟨_,zu.refl _,hQ _ _ ⟨a,_,M4,L4,osl3,v,v2,sts,fun _=>haL,hr',rfl,rfl,⟨co.d,co.ap,co.out,hsub.trans co.sub,frS,fun q hq=>hh2 q (co.has q hq)⟩,by obtain⟨ps,h1,h2⟩:=hres;exact⟨ps,h1,h2.low fun q hq _=>hh2 q hq⟩⟩⟩
def CX.withoutP (S:CX)(parent:Int):Option (CX×Int×Int) :=
 if S.σ.room parent≠0 then some (S,0,S.σ.room parent)
 else if S.okAdd=true then match S.σ.ones[parent.toNat]? with
  | none=>none
  | some up=>some (S.addP { One.zero with free:=true } up.node,S.σ.ones.length,0)
 else none
theorem Uy (hf:H_f145 F){parent:Int}{r:CX×Int×Int}(hp:S.withoutP parent=some r)(hd:CtxD c S.σ t mb osl asl M)(ha:yi M L c)(ho:OutC c S L)(hc:L c≠none) :
  zd F k_f145 [.p (some (c,0)),.i .i64 parent] (M.over L) fun v K'=>∃(M' L':Lg) (osl':AV),v=.tup [.i .i64 r.2.1,.i .i64 r.2.2]∧K'=M'.over L'∧CO c t mb S r.1 L osl' asl M' L':=by
 refine zr ?_
 intro Q hQ
 apply r_f145 hf.code
 unfold D_f145_1
 refine (Zl hf.f128 hd L parent).mono ?_
 rintro _ K' ⟨rfl,hK'⟩
 rw[hK']
 clear hK' K'
 unfold CX.withoutP at hp
 by_cases hr0:S.σ.room parent=0
 case neg =>
  rw[if_pos hr0]at hp
  cases hp
  simp[hr0]
  exact⟨_,zu.refl _,hQ _ _ ⟨M,L,osl,rfl,rfl,hd,ha,ho,(SameC.refl _).sub,FrC.refl _ _,fun _ h=>h⟩⟩
 rw[if_neg (by simp[hr0])]at hp
 obtain⟨i,rfl,hi⟩:=Z8 hr0
 have hup:S.σ.ones[i]?=some S.σ.ones[i]:=List.getElem?_eq_getElem hi
 generalize S.σ.ones[i]=up at hup
 split at hp
 case isFalse=>cases hp
 rename_i hok
 simp only[CX.okAdd,Bool.and_eq_true,decide_eq_true_eq]at hok
 simp only[Int.toNat_natCast,hup]at hp
 cases hp
 obtain⟨b,a1,a2,a3,a4,a5⟩:=hd.fo (F:=F) hup
 have r0:rdL (M.over L) (b,i * 9) none=some (.i .i64 up.node):=by have:=a4 L 0 (by omega);simpa[One.cells]using this
 simp[hr0,hd.f2,a3,r0,zE,zo,zq,zp,AV.cellsOf]
 have hcell:AV.agg [.i .i64 0,.b true,.p none,.i .i64 0,.i .i64 0,.i .i64 0,.b false,.b false,.i .i64 0]=AV.agg ({ One.zero with free:=true }:One).cells:=rfl
 rw[hcell]
 refine (vD hf.f121 hd ha { One.zero with free:=true } up.node hok.1 hok.2).mono ?_
 rintro _ K' ⟨rfl,M3,osl3,rfl,hd3,ap3⟩
 simp
 exact⟨_,zu.refl _,hQ _ _ ⟨M3,L,osl3,rfl,rfl,hd3,ap3,ho.addNone rfl _,zgv _ _,FrC.refl _ _,fun _ h=>h⟩⟩
def CX.cancelX (S:CX)(id cause:Int):Option (CX×List Lap×List (Int×Int)×Int) :=
 if S.σ.has id=false then some (S,[],[],4)else match S.σ.ones[id.toNat]? with
  | none=>none
  | some x=>if x.free=true then some (S,[],[],1)else match S.cancelP 200 id 1 (if cause<1 then 1 else cause)with
   | none=>none
   | some r=>some (r.1,r.2.1,r.2.2,0)
theorem has_nat {σ:Cs}{id:Int}(h:σ.has id=true):∃i:Nat,id=(i:Int)∧i<σ.ones.length:=by
 simp[Cs.has]at h
 obtain⟨i,rfl⟩:=Int.eq_ofNat_of_zero_le h.1
 exact⟨i,rfl,by omega⟩
theorem CO.refl (hd:CtxD c S.σ t mb osl asl M)(ha:yi M L c)(ho:OutC c S L):CO c t mb S S L osl asl M L:=⟨hd,ha,ho,(SameC.refl _).sub,FrC.refl _ _,fun _ h=>h⟩
theorem zav (hf:H_f148 F){id cause:Int}{r:CX×List Lap×List (Int×Int)×Int}(hp:S.cancelX id cause=some r)(hd:CtxD c S.σ t mb osl asl M)(ha:yi M L c)(ho:OutC c S L)(hc:L c≠none) :
  zd F k_f148 [.p (some (c,0)),.i .i64 id,.i .i64 cause] (M.over L) fun v K'=>∃(M' L':Lg) (v1 v2:AV),v=.tup [v1,v2,.i .i64 r.2.2.2]∧K'=M'.over L'∧CO c t mb S r.1 L osl asl M' L'∧Us L L' v1 v2 r.2.1 r.2.2.1:=by
 refine zr ?_
 intro Q hQ
 apply r_f148 hf.code
 unfold D_f148_1 D_f148_2
 refine (xx hf.f127 hd L id).mono ?_
 rintro _ K' ⟨rfl,hK'⟩
 rw[hK']
 clear hK' K'
 unfold CX.cancelX at hp
 cases hh:S.σ.has id
 ·rw[if_pos hh]at hp
  cases hp
  simp
  exact⟨_,zu.refl _,hQ _ _ ⟨M,L,_,_,rfl,rfl,CO.refl hd ha ho,[],rfl,ResP.nil _ _⟩⟩
 rw[if_neg (by simp[hh])]at hp
 obtain⟨i,rfl,hi⟩:=has_nat hh
 simp only[Int.toNat_natCast]at hp
 split at hp
 case h_1=>cases hp
 rename_i x hx
 obtain⟨b,a1,a2,a3,a4,a5⟩:=hd.fo (F:=F) hx
 have r1:rdL (M.over L) (b,i * 9+1) none=some (.b x.free):=a4 L 1 (by omega)
 simp[hd.f2,a3,r1]
 split at hp
 ·rename_i hfree
  cases hp
  simp[hfree]
  exact⟨_,zu.refl _,hQ _ _ ⟨M,L,_,_,rfl,rfl,CO.refl hd ha ho,[],rfl,ResP.nil _ _⟩⟩
 ·rename_i hfree
  split at hp
  case h_1=>cases hp
  rename_i rr hrr
  cases hp
  have key:D_f148_3 F Q (.p (some (c,0))) (.i .i64 i) (.i .i64 (if cause<1 then 1 else cause)) (M.over L):=by
   unfold D_f148_3
   refine (Yv hf.f141 200 _ rr.1 _ _ _ rr.2.1 rr.2.2 hrr c t mb osl asl M L hd ha ho hc).mono ?_
   rintro _ K' ⟨M',L',w1,w2,rfl,rfl,hd2,hap2,hout2,hsm,hfr2,hres⟩
   simp
   refine⟨_,zu.refl _,hQ _ _ ⟨M',L',w1,w2,rfl,rfl,⟨hd2,hap2,hout2,hsm.sub,hfr2,fun q hq=>?_⟩,hres⟩⟩
   rcases Classical.em (L q=none)with e | e
   ·exact e
   ·exact absurd hq (hfr2.has hsm hout2 e)
  simp[hfree]
  refine⟨fun h9=>?_,fun h9=>?_⟩
  ·rwa [if_pos h9]at key
  ·rwa [if_neg (by omega)]at key
end
end
section
variable {F:Nat→Option AFn}
section
variable {M L L0:Lg} {c t mb:Nat} {osl asl:AV} {S S':CX} {Q:AV→Lg→Prop}
def CX.lapseX (S:CX)(id:Int):Option (CX×List Lap×List (Int×Int)×Int) :=
 if S.σ.has id=false then some (S,[],[],4)else match S.σ.ones[id.toNat]? with
  | none=>none
  | some x=>if x.own=false then some (S,[],[],1)else match S.cancelP 200 id 2 2 with
   | none=>none
   | some r=>some (r.1,r.2.1,r.2.2,0)
theorem zat (hf:H_f141 F){id err cause:Int}{r:CX×List Lap×List (Int×Int)}(hp:S.cancelP 200 id err cause=some r)(hd:CtxD c S.σ t mb osl asl M)(ha:yi M L c)(ho:OutC c S L)(hc:L c≠none) :
  zd F k_f141 [.p (some (c,0)),.i .i64 id,.i .i64 err,.i .i64 cause] (M.over L) fun v K'=>∃M' L' v1 v2,v=.tup [v1,v2]∧K'=M'.over L'∧CO c t mb S r.1 L osl asl M' L'∧SameC S.σ r.1.σ∧Us L L' v1 v2 r.2.1 r.2.2:=by
 refine (Yv hf 200 _ r.1 _ _ _ r.2.1 r.2.2 hp c t mb osl asl M L hd ha ho hc).mono ?_
 rintro _ K' ⟨M',L',w1,w2,rfl,rfl,hd2,hap2,hout2,hsm,hfr2,hres⟩
 refine⟨M',L',w1,w2,rfl,rfl,⟨hd2,hap2,hout2,hsm.sub,hfr2,fun q hq=>?_⟩,hsm,hres⟩
 rcases Classical.em (L q=none)with e | e
 ·exact e
 ·exact absurd hq (hfr2.has hsm hout2 e)
theorem zaZ (hf:H_f160 F){id:Int}{r:CX×List Lap×List (Int×Int)×Int}(hp:S.lapseX id=some r)(hd:CtxD c S.σ t mb osl asl M)(ha:yi M L c)(ho:OutC c S L)(hc:L c≠none) :
  zd F k_f160 [.p (some (c,0)),.i .i64 id] (M.over L) fun v K'=>∃(M' L':Lg) (v1 v2:AV),v=.tup [v1,v2,.i .i64 r.2.2.2]∧K'=M'.over L'∧CO c t mb S r.1 L osl asl M' L'∧Us L L' v1 v2 r.2.1 r.2.2.1:=by
 refine zr ?_
 intro Q hQ
 apply r_f160 hf.code
 unfold D_f160_1
 refine (xx hf.f127 hd L id).mono ?_
 rintro _ K' ⟨rfl,hK'⟩
 rw[hK']
 clear hK' K'
 unfold CX.lapseX at hp
 cases hh:S.σ.has id
 ·rw[if_pos hh]at hp
  cases hp
  simp
  exact⟨_,zu.refl _,hQ _ _ ⟨M,L,_,_,rfl,rfl,CO.refl hd ha ho,[],rfl,ResP.nil _ _⟩⟩
 rw[if_neg (by simp[hh])]at hp
 obtain⟨i,rfl,hi⟩:=has_nat hh
 simp only[Int.toNat_natCast]at hp
 split at hp
 case h_1=>cases hp
 rename_i x hx
 obtain⟨b,a1,a2,a3,a4,a5⟩:=hd.fo (F:=F) hx
 have r1:rdL (M.over L) (b,i * 9+7) none=some (.b x.own):=a4 L 7 (by omega)
 simp[hd.f2,a3,r1]
 split at hp
 ·rename_i hfree
  cases hp
  simp[hfree]
  exact⟨_,zu.refl _,hQ _ _ ⟨M,L,_,_,rfl,rfl,CO.refl hd ha ho,[],rfl,ResP.nil _ _⟩⟩
 ·rename_i hfree
  split at hp
  case h_1=>cases hp
  rename_i rr hrr
  cases hp
  simp at hfree
  simp[hfree]
  refine (zat hf.f141 hrr hd ha ho hc).mono ?_
  rintro _ K' ⟨M',L',w1,w2,rfl,rfl,co,_,hres⟩
  simp
  exact⟨_,zu.refl _,hQ _ _ ⟨M',L',w1,w2,rfl,rfl,co,hres⟩⟩
def CX.unafterX (S:CX)(k:Int):Option (CX×Bool×Int) :=
 if 0≤k∧k<S.σ.afts.length then match S.σ.afts[k.toNat]? with
  | none=>none
  | some x=>match zfj S.σ.tree x.node with
   | none=>none
   | some ns=>some ({ S with σ:={ S.σ with afts:=S.σ.afts.set k.toNat { x with over:=true },tree:=ns } },!x.over,0)
 else some (S,false,4)
theorem VF (hf:H_f151 F){k:Int}{r:CX×Bool×Int}(hp:S.unafterX k=some r)(hd:CtxD c S.σ t mb osl asl M)(ha:yi M L c)(ho:OutC c S L) :
  zd F k_f151 [.p (some (c,0)),.i .i64 k] (M.over L) fun v K'=>∃(M':Lg),v=.tup [.b r.2.1,.i .i64 r.2.2]∧K'=M'.over L∧CO c t mb S r.1 L osl asl M' L:=by
 refine zr ?_
 intro Q hQ
 apply r_f151 hf.code
 unfold D_f151_1 D_f151_2
 unfold CX.unafterX at hp
 split at hp
 case isFalse hn =>
  cases hp
  have fin:zl (some (.tup [.b false,.i .i64 4])) Q (M.over L):=⟨_,zu.refl _,hQ _ _ ⟨M,rfl,rfl,CO.refl hd ha ho⟩⟩
  by_cases h1:k<0
  ·simpa[h1]using fin
  ·have h2:(S.σ.afts.length:Int)≤k:=by omega
   simpa[h1,hd.f3,hd.afts.len,h2]using fin
 rename_i hk
 obtain⟨i,rfl⟩:=Int.eq_ofNat_of_zero_le hk.1
 simp only[Int.toNat_natCast]at hp
 split at hp
 case h_1=>cases hp
 rename_i x hx
 split at hp
 case h_1=>cases hp
 rename_i ns hns
 cases hp
 have h1:¬((i:Int)<0):=by omega
 have h2:¬((S.σ.afts.length:Int)≤(i:Int)):=by omega
 simp[h1,hd.f3,hd.afts.len,h2]
 unfold D_f151_3
 obtain⟨b,a1,a2,a3,a4⟩:=hd.fa (F:=F) hx
 have r2:rdL (M.over L) (b,i * 3+2) none=some (.b x.over):=a4 L 2 (by omega)
 have hlt:i * 3+2<(zm Aft.cells S.σ.afts).length:=by have:=wa Aft.len S.σ.afts i x hx;omega
 simp[hd.f3,a3,r2]
 rw[zH (zY a2) hlt rfl,xp]
 have h2:=hd.setAft (o':={ x with over:=true }) hx a1 (j:=2) (v:=.b true) (by omega) rfl
 have ha2:=ha.own (b:=b) (by rw[a2];simp) (.raw (.cells ((zm Aft.cells S.σ.afts).set (i * 3+2) (.b true))))
 generalize (M.put b (.raw (.cells ((zm Aft.cells S.σ.afts).set (i * 3+2) (.b true)))))=M2 at h2 ha2
 have hx2:({ S.σ with afts:=S.σ.afts.set i { x with over:=true } }:Cs).afts[i]?=some { x with over:=true }:=by
  have:i<S.σ.afts.length:=(List.getElem?_eq_some_iff.1 hx).1
  simp[this]
 obtain⟨b',c1,c2,c3,c4⟩:=h2.fa (F:=F) hx2
 rw[a1]at c1
 cases c1
 have r0:rdL (M2.over L) (b,i * 3) none=some (.i .i64 x.node):=by have:=c4 L 0 (by omega);simpa[Aft.cells]using this
 simp[h2.f1,r0]
 refine (Wg hf.f139 (zY h2.tree) hns).mono ?_
 rintro _ K' hK'
 rw[xp]at hK'
 rw[hK']
 clear hK' K'
 have h3:=h2.setTree ns
 have ha3:=ha2.own (b:=t) (by rw[h2.tree];simp) (.abs (xy t ns))
 simp
 exact⟨_,zu.refl _,hQ _ _ ⟨_,rfl,rfl,h3,ha3,ho.same ⟨rfl,rfl⟩ rfl rfl,⟨rfl,[],by simp[Cs.names]⟩,FrC.refl _ _,fun _ h=>h⟩⟩
theorem CtxD.growA {σ:Cs}(h:CtxD c σ t mb osl asl M){o:Aft}{b:Nat}(hap:yi M L c){K1:Lg}(g:Grown (M.over L) asl b (zm Aft.cells σ.afts++o.cells) K1):∃M1,CtxD c { σ with afts:=σ.afts++[o] } t mb osl (.sl (some (b,0)) (σ.afts.length+1) (σ.afts.length+1) 3) M1∧yi M1 L c∧zu (K1.put c (.raw (.cells [ptr σ.t,.p (some (t,0)),osl,.sl (some (b,0)) (σ.afts.length+1) (σ.afts.length+1) 3,.m (some mb)]))) (M1.over L):=by
 have hbM:=yI.1 g.fresh
 have fr:=h.fresh hbM.1
 let M0:Lg:=fun r=>if slB asl=some r then none else M r
 have hM0:∀r,slB asl≠some r→M0 r=M r:=fun r hr=>by simp[M0,hr]
 have hM0':∀r,slB asl=some r→M0 r=none:=fun r hr=>by simp[M0,hr]
 let M1:Lg:=(M0.put b (.raw (.cells (zm Aft.cells σ.afts++o.cells)))).put c (.raw (.cells [ptr σ.t,.p (some (t,0)),osl,.sl (some (b,0)) (σ.afts.length+1) (σ.afts.length+1) 3,.m (some mb)]))
 have e1:∀r,r≠b→r≠c→slB asl≠some r→M1 r=M r:=fun r h1 h2 h3=>by
  show (Lg.put _ _ _) r=_
  rw[zb _ _ _ h2,zb _ _ _ h1,hM0 r h3]
 have eb:M1 b=some (.raw (.cells (zm Aft.cells σ.afts++o.cells))):=by
  show (Lg.put _ _ _) b=_
  rw[zb _ _ _ fr.1,ze]
 have hfl:zm Aft.cells (σ.afts++[o])=zm Aft.cells σ.afts++o.cells:=by rw[ya];simp[zm]
 have hlen:(zm Aft.cells σ.afts++o.cells).length=(σ.afts.length+1) * 3:=by rw[List.length_append,zV Aft.len,Aft.len];omega
 have nt:slB asl≠some t:=fun h9=>(h.na t h9).2.1 rfl
 have nm:slB asl≠some mb:=fun h9=>(h.na mb h9).2.2.1 rfl
 refine⟨M1,⟨ze _ _ _,by rw[e1 t (Ne.symm fr.2.1) (Ne.symm h.n1) nt];exact h.tree,?_,?_,?_,h.n1,h.n2,h.n3,?_,?_,?_⟩,?_,?_⟩
 ·obtain⟨es,h1,h2⟩:=h.map
  exact⟨es,by rw[e1 mb (Ne.symm fr.2.2.1) (Ne.symm h.n2) nm];exact h1,h2⟩
 ·refine h.ones.mono fun b' hb'=>e1 b' ?_ (h.no b' hb').1 ?_
  ·rintro rfl;exact fr.2.2.2.1 hb'
  ·intro h9;exact (h.na b' h9).2.2.2 hb'
 ·exact .inr ⟨b,3,by simp,by simp,.inr rfl,by rw[eb,hfl],by rw[hfl];simpa using hlen⟩
 ·exact h.no
 ·intro b' hb'
  simp[slB]at hb';subst hb'
  exact⟨fr.1,fr.2.1,fr.2.2.1,fr.2.2.2.1⟩
 ·intro q hq
  by_cases q1:q=c
  ·exact .inl q1
  by_cases q2:q=b
  ·subst q2;exact .inr (.inr (.inr (.inr rfl)))
  by_cases q3:slB asl=some q
  ·exfalso;apply hq
   show (Lg.put _ _ _) q=_
   rw[zb _ _ _ q1,zb _ _ _ q2,hM0' q q3]
  rw[e1 q q2 q1 q3]at hq
  rcases h.dom q hq with h9 | h9 | h9 | h9 | h9
  ·exact absurd h9 q1
  ·exact .inr (.inl h9)
  ·exact .inr (.inr (.inl h9))
  ·exact .inr (.inr (.inr (.inl h9)))
  ·exact absurd h9 q3
 ·intro q hq hM
  by_cases q2:q=b
  ·subst q2;exact hbM.2
  by_cases q3:slB asl=some q
  ·exfalso;apply hM
   show (Lg.put _ _ _) q=_
   rw[zb _ _ _ hq,zb _ _ _ q2,hM0' q q3]
  rw[e1 q q2 hq q3]at hM
  exact hap q hq hM
 ·apply zu.drop
  intro r d hr
  by_cases q1:r=c
  ·subst q1
   rw[zY (d:=_) (ze _ _ _)]at hr
   rw[ze];exact hr
  rw[zb _ _ _ q1]
  by_cases q2:r=b
  ·subst q2;rw[zY eb]at hr;rw[g.now];exact hr
  by_cases q3:slB asl=some r
  ·exfalso
   have hz:M1 r=none:=by
    show (Lg.put _ _ _) r=_
    rw[zb _ _ _ q1,zb _ _ _ q2,hM0' r q3]
   rw[yG hz]at hr
   have:=hap r q1 (by rw[h.afts.block q3];simp)
   rw[this]at hr;cases hr
  rw[g.same r q2 q3]
  unfold Lg.over at hr ⊢
  rw[e1 r q2 q1 q3]at hr
  exact hr
def Cs.aft (σ:Cs)(up:One)(prog:Int):Cs :=
 let r:=zL σ.tree up.node true
 { σ with tree:=r.1,who:=yN σ.who r.2.1 (some (-(σ.afts.length:Int)-1)),afts:=σ.afts++[⟨r.2.1,prog,false⟩] }
def CX.afterX (S:CX)(id prog:Int):Option (CX×Int×List (Int×Int)×Int) :=
 if S.σ.has id=false then some (S,0,[],4)else if prog<0 then some (S,0,[],1)else if 64≤S.σ.afts.length then some (S,0,[],3)
 else if kok S.σ.tree=true then match S.σ.ones[id.toNat]? with
  | none=>none
  | some up=>if up.err≠0 then match (S.σ.aft up prog).startP S.σ.afts.length with
    | none=>none
    | some r=>some ({ S with σ:=r.1 },S.σ.afts.length,[r.2],0)
   else some ({ S with σ:=S.σ.aft up prog },S.σ.afts.length,[],0)
 else none
theorem zbr (hf:H_f146 F){id prog:Int}{r:CX×Int×List (Int×Int)×Int}(hp:S.afterX id prog=some r)(hd:CtxD c S.σ t mb osl asl M)(ha:yi M L c)(ho:OutC c S L)(hc:L c≠none) :
  zd F k_f146 [.p (some (c,0)),.i .i64 id,.i .i64 prog] (M.over L) fun v K'=>∃(M' L':Lg) (asl' v2:AV),v=.tup [.i .i64 r.2.1,v2,.i .i64 r.2.2.2]∧K'=M'.over L'∧CO c t mb S r.1 L osl asl' M' L'∧OSl L' v2 (zm stc r.2.2.1) r.2.2.1.length 2∧∀b,slB v2=some b→L b=none:=by
 refine zr ?_
 intro Q hQ
 apply r_f146 hf.code
 unfold D_f146_1 D_f146_2
 refine (xx hf.f127 hd L id).mono ?_
 rintro _ K' ⟨rfl,hK'⟩
 rw[hK']
 clear hK' K'
 unfold CX.afterX at hp
 have errE:∀k,r=(S,0,[],k)→zl (some (.tup [.i .i64 0,.sl none 0 0 0,.i .i64 k])) Q (M.over L):=by
  rintro k rfl
  exact⟨_,zu.refl _,hQ _ _ ⟨M,L,asl,_,rfl,rfl,CO.refl hd ha ho,.inl ⟨rfl,rfl,rfl⟩,fun b h=>by cases h⟩⟩
 cases hh:S.σ.has id
 ·rw[if_pos hh]at hp
  cases hp
  simpa using errE 4 rfl
 rw[if_neg (by simp[hh])]at hp
 obtain⟨i,rfl,hi⟩:=has_nat hh
 by_cases hprog:prog<0
 ·rw[if_pos hprog]at hp
  cases hp
  simpa[hprog]using errE 1 rfl
 rw[if_neg hprog]at hp
 by_cases h64:64≤S.σ.afts.length
 ·rw[if_pos h64]at hp
  cases hp
  have:(64:Int)≤(S.σ.afts.length:Int):=by omega
  simpa[hprog,hd.f3,hd.afts.len,this]using errE 3 rfl
 rw[if_neg h64]at hp
 have h64':¬(64:Int)≤(S.σ.afts.length:Int):=by omega
 split at hp
 case isFalse=>cases hp
 rename_i hkk
 simp only[Int.toNat_natCast]at hp
 split at hp
 case h_1=>cases hp
 rename_i up hup
 simp[hprog,hd.f3,hd.afts.len,h64']
 unfold D_f146_3
 obtain⟨b,a1,a2,a3,a4,a5⟩:=hd.fo (F:=F) hup
 have r0:rdL (M.over L) (b,i * 9) none=some (.i .i64 up.node):=by have:=a4 L 0 (by omega);simpa[One.cells]using this
 simp[hd.f1,hd.f2,a3,r0]
 refine (YT hf.f120 (zY hd.tree) (zcn hkk) up.node true).mono ?_
 rintro _ K' ⟨rfl,hK'⟩
 rw[xp]at hK'
 rw[hK']
 clear hK' K'
 have h2:=hd.setTree (zL S.σ.tree up.node true).1
 have ap2:=ha.own (b:=t) (by rw[hd.tree];simp) (.abs (xy t (zL S.σ.tree up.node true).1))
 simp
 unfold D_f146_4
 simp[h2.f3,h2.afts.len]
 unfold D_f146_5
 obtain⟨es,m1,m2⟩:=h2.map
 obtain⟨es',s1,s2⟩:=m2.set (zL S.σ.tree up.node true).2.1 (-(S.σ.afts.length:Int)-1)
 have w1:wr .i64 (0-(S.σ.afts.length:Int))=-(S.σ.afts.length:Int):=by rw[zS (by omega) (by omega)];omega
 have w1':wr .i64 (-(S.σ.afts.length:Int))=-(S.σ.afts.length:Int):=zS (by omega) (by omega)
 have w2:wr .i64 (-(S.σ.afts.length:Int)-1)=-(S.σ.afts.length:Int)-1:=zS (by omega) (by omega)
 simp[h2.f4,w1,w1',w2,VY,zY m1,s1]
 rw[xp]
 have h3:=h2.setWho s2
 have ap3:=ap2.own (b:=mb) (by rw[m1];simp) (.raw (.map es'))
 generalize hr:zL S.σ.tree up.node true=rr at h3 ap3
 generalize ((M.put t (.abs (xy t rr.1))).put mb (.raw (.map es')))=M3 at h3 ap3
 unfold D_f146_6
 simp[h3.f3,zE,zo,zq,zp,AV.cellsOf]
 rw[yg (c:=[.i .i64 rr.2.1,.i .i64 prog,.b false]) _ _ (by simp[y5,zE,zo,zq,zp,AV.cellsOf]) (by simp)]
 intro b5 hb5
 have hb5':=yI.1 hb5
 rw[yH hb5'.1]
 have ap4:=ap3.putL hb5'.1 (.raw (.cells [.i .i64 rr.2.1,.i .i64 prog,.b false]))
 have g5:(M3.over (L.put b5 (.raw (.cells [.i .i64 rr.2.1,.i .i64 prog,.b false])))) b5=some (.raw (.cells [.i .i64 rr.2.1,.i .i64 prog,.b false])):=by rw[yG hb5'.1,ze]
 have ho1:=ho.put hb5'.2 (.raw (.cells [.i .i64 rr.2.1,.i .i64 prog,.b false]))
 have hh1:∀r,(L.put b5 (.raw (.cells [.i .i64 rr.2.1,.i .i64 prog,.b false]))) r=none→L r=none:=fun r hr=>by
  by_cases e:r=b5
  ·subst e;exact hb5'.2
  ·rwa [zb _ _ _ e]at hr
 have fr1:FrC S.σ L (L.put b5 (.raw (.cells [.i .i64 rr.2.1,.i .i64 prog,.b false]))):=(FrC.refl _ _).put hb5'.2 _
 generalize L.put b5 (.raw (.cells [.i .i64 rr.2.1,.i .i64 prog,.b false]))=L1 at ap4 g5 ho1 hh1 fr1
 have hb1:OSl (M3.over L1) asl (zm Aft.cells S.σ.afts) S.σ.afts.length 3:=h3.afts.mono fun b hb=>by
  have:=h3.afts.block hb
  rw[this];exact zY this
 simp
 refine hb1.app (m:=1) (by omega) rfl (by omega) (new:=[.i .i64 rr.2.1,.i .i64 prog,.b false]) (by simp[zF,g5,AB.read,cut,zq]) rfl (by simp) (by omega) ?_
 intro b6 K1 gr _
 have frb:=h3.fresh (yI.1 gr.fresh).1
 obtain⟨M4,h7,ap7,hs7⟩:=h3.growA (o:=⟨rr.2.1,prog,false⟩) ap4 gr
 have hKc:K1 c=some (.raw (.cells [ptr S.σ.t,.p (some (t,0)),osl,asl,.m (some mb)])):=by
  rw[gr.same c (Ne.symm frb.1) (fun h9=>(h3.na c h9).1 rfl)]
  exact zY h3.root
 have hσ:S.σ.aft up prog={ ({ ({ S.σ with tree:=rr.1 }:Cs)with who:=yN S.σ.who rr.2.1 (some (-(S.σ.afts.length:Int)-1)) }:Cs)with afts:=S.σ.afts++[⟨rr.2.1,prog,false⟩] }:=by simp[Cs.aft,hr]
 have h8:CtxD c (S.σ.aft up prog) t mb osl (.sl (some (b6,0)) (S.σ.afts.length+1) (S.σ.afts.length+1) 3) M4:=by rw[hσ];exact h7
 have hob:K1 b=some (.raw (.cells (zm One.cells S.σ.ones))):=by
  have hbo:=h3.ones.block a1
  rw[gr.same b (by rintro rfl;exact frb.2.2.2.1 a1) (fun h9=>(h3.na b h9).2.2.2 a1)]
  exact zY hbo
 have re:∀X,(K1.put c X) b=some (.raw (.cells (zm One.cells S.σ.ones))):=fun X=>by rw[zb _ _ _ (h3.no b a1).1];exact hob
 have rce:∀X,X=K1.put c (.raw (.cells ([ptr S.σ.t,.p (some (t,0)),osl,asl,.m (some mb)].set 3 (.sl (some (b6,0)) (S.σ.afts.length+1) (S.σ.afts.length+1) 3))))→rdL X (c,2) none=some osl∧rdL X (b,i * 9+3) none=some (.i .i64 up.err):=by
  rintro X rfl
  refine⟨by rw[zk (ze _ _ _)];rfl,?_⟩
  rw[zk (re _),vo One.len _ i 3 up hup (by omega)];rfl
 simp only[zf,zg,zj,Nat.zero_add,yv]
 rw[zH hKc (by simp) rfl]
 obtain⟨rc2,rc3⟩:=rce _ rfl
 simp only[List.set_cons_succ,List.set_cons_zero]at rc2 rc3 ⊢
 simp[rc2,a3,rc3]
 have hsubA:SubC S.σ (S.σ.aft up prog):=⟨rfl,[],by simp[Cs.aft,Cs.names]⟩
 have hoA:OutC c { S with σ:=S.σ.aft up prog } L1:=ho1.same ⟨rfl,rfl⟩ rfl rfl
 split at hp
 ·rename_i herr
  split at hp
  case h_1=>cases hp
  rename_i rs hrs
  cases hp
  refine⟨fun _=>?_,fun h9=>absurd h9 herr⟩
  refine zd.pre hs7 ?_
  refine (Yr hf.f140 h8 ap7 hrs).mono ?_
  rintro _ K' ⟨rfl,M5,rfl,hd5,ap5⟩
  have hsm:=Xz hrs
  simp
  rw[yg (c:=[.i .i64 rs.2.1,.i .i64 rs.2.2]) _ _ (by simp[y5,zE,zo,zq,zp,AV.cellsOf]) (by simp)]
  intro b9 hb9
  have hb9':=yI.1 hb9
  rw[yH hb9'.1]
  have hb9L:=hh1 _ hb9'.2
  simp
  refine⟨_,zu.refl _,hQ _ _ ⟨M5,_,_,_,rfl,rfl,⟨hd5,ap5.putL hb9'.1 _,?_,hsubA.trans hsm.1.sub,fr1.put hb9L _,?_⟩,.inr ⟨b9,0,by simp,by simp,.inl rfl,by rw[ze];rfl,rfl⟩,?_⟩⟩
  ·exact OutC.put (OutC.same (S2:={ S with σ:=rs.1 }) hoA hsm.1 rfl rfl) hb9'.2 _
  ·intro q hq
   by_cases e:q=b9
   ·subst e;exact hb9L
   ·rw[zb _ _ _ e]at hq;exact hh1 q hq
  ·intro q hq;simp[slB]at hq;subst hq;exact hb9L
 ·rename_i herr
  cases hp
  refine⟨fun h9=>absurd h9 herr,fun _=>?_⟩
  refine⟨_,hs7,hQ _ _ ⟨M4,L1,_,_,rfl,rfl,⟨h8,ap7,hoA,hsubA,fr1,hh1⟩,.inl ⟨rfl,rfl,rfl⟩,fun b h=>by cases h⟩⟩
end
end
section
variable {F:Nat→Option AFn}
def Tms.fineB (σ:Tms):Bool:=decide (σ.x.l.length<1000000)&&decide (0≤σ.x.seq)&&decide (σ.x.seq<4611686018427387904)&&decide (0≤σ.named)&&decide (σ.named≤64)&&decide (σ.ones.length<1000000)
theorem WO {σ:Tms}(h:σ.fineB=true):σ.fine 1000000 4611686018427387904:=by
 simp[Tms.fineB]at h
 obtain⟨⟨⟨⟨⟨h1,h2⟩,h3⟩,h4⟩,h5⟩,h6⟩:=h
 exact⟨h1,h2,h3,⟨h4,h5⟩,h6⟩
theorem zeF (hf:H_f55 F)(when:Int)(i:Nat)(L:Lg):zd F k_f55 [.p none,.i .i64 when,.i .i64 i] L fun v L'=>v=.tup [.i .i64 0,.i .i64 3]∧L'=L:=by
 refine zr ?_
 intro Q hQ
 apply r_f55 hf.code
 unfold D_f55_1
 simp[zE,zo,zq,zp,AV.cellsOf]
 have:zd F k_f38 [.p none,.agg [.i .i64 4,.i .i64 i,.p none,.i .i64 0],.i .i64 0,.i .i64 when] L fun v L'=>v=.tup [.i .i64 0,.i .i64 3]∧L'=L:=by
  refine zr ?_
  intro Q hQ
  apply r_f38 hf.f38.code
  unfold D_f38_1
  simp
  rw[zN _ _ _ (by simp)]
  intro b hb
  unfold D_f38_2
  refine (zcB hf.f38.f24 0).mono ?_
  rintro _ K ⟨rfl,rfl⟩
  have r0:rdL (L.put b (.raw (.cells [.i .i64 4,.i .i64 i,.p none,.i .i64 0]))) (b,0) none=some (.i .i64 4):=by rw[zk (ze _ _ _)];rfl
  have r1:rdL (L.put b (.raw (.cells [.i .i64 4,.i .i64 i,.p none,.i .i64 0]))) (b,1) none=some (.i .i64 i):=by rw[zk (ze _ _ _)];rfl
  have hn:¬((i:Int)<0):=by omega
  simp[r0,r1,hn]
  exact⟨_,((yq.refl L).put hb _).sees,hQ _ _ ⟨rfl,rfl⟩⟩
 refine this.mono ?_
 rintro _ K ⟨rfl,rfl⟩
 simp
 exact⟨_,zu.refl _,hQ _ _ ⟨rfl,rfl⟩⟩
section
variable {M L L0:Lg} {c t mb:Nat} {osl asl:AV} {S S':CX} {Q:AV→Lg→Prop}
def CX.armP (S:CX)(id:Nat)(when:Int):Option CX:=match S.σ.t with
 | none=>some S
 | some _=>if S.τ.fineB=true then
   if (S.τ.make ⟨4,id,none,0⟩ 0 when).2.2=0 then match S.σ.ones[id]? with
    | none=>none
    | some o=>some { ({ S with τ:=(S.τ.make ⟨4,id,none,0⟩ 0 when).1 }:CX).setOne id { o with timer:=(S.τ.make ⟨4,id,none,0⟩ 0 when).2.1 }with τ:=(S.τ.make ⟨4,id,none,0⟩ 0 when).1 }
   else some { S with τ:=(S.τ.make ⟨4,id,none,0⟩ 0 when).1 }
  else none
def CX.deadlineP (S:CX)(parent when now:Int)(a:Nat):Option zcG :=
 if S.σ.room parent≠0 then some (S,0,[],S.σ.room parent)
 else match S.σ.ones[parent.toNat]? with
  | none=>none
  | some up=>if up.has=true∧up.when≤max (zM when 0) 0 then S.cancelsP parent a
   else if S.okAdd=true then match (S.addS { One.zero with when:=max (zM when 0) 0,has:=true,own:=true } up.node a).beginP S.σ.ones.length parent with
    | none=>none
    | some r=>if 0<r.2.length then some (r.1,S.σ.ones.length,r.2,0)
     else if max (zM when 0) 0≤now then match r.1.cancelP 200 S.σ.ones.length 2 2 with
      | none=>none
      | some r2=>some (r2.1,S.σ.ones.length,r2.2.1,0)
     else match r.1.armP S.σ.ones.length (max (zM when 0) 0)with
      | none=>none
      | some S2=>some (S2,S.σ.ones.length,[],0)
   else none
theorem Us.len1 {v1 v2:AV}{laps:List Lap}{sts:List (Int×Int)}{K:Lg}(h:Us L K v1 v2 laps sts)(X:Lg)(k:AV→Lg→Prop):za F .lenSl [v1] X k=k (.i .i64 laps.length) X:=by
 obtain⟨ps,h1,h2⟩:=h
 rw[h2.o1.len,←h1];simp
theorem zh7 (hl:H_f55 F){i:Nat}{when:Int}(hp:S.armP i when=some S')(hd:CtxD c S.σ t mb osl asl M)(ha:yi M L c)(ho:OutC c S L)(hi:i<S.σ.ones.length)
  (hQ:∀M' L',CO c t mb S S' L osl asl M' L'→zl (some (.tup [.i .i64 i,.sl none 0 0 0,.i .i64 0])) Q (M'.over L')):D_f144_8 F Q (.p (some (c,0))) (.i .i64 when) (.i .i64 i) (M.over L):=by
 unfold D_f144_8
 unfold CX.armP at hp
 split at hp
 case h_1 =>
  rename_i hs
  cases hp
  simp[hd.f0,hs,ptr]
  refine (zeF hl when i _).mono ?_
  rintro _ K' ⟨rfl,rfl⟩
  simp
  exact hQ _ _ (CO.refl hd ha ho)
 rename_i s hs
 split at hp
 case isFalse=>cases hp
 rename_i hfi
 have hts:=ho.tms s hs
 have hMs:=ha.low hts.1 hts.2
 simp[hd.f0,hs,ptr]
 refine (zaN hl (ha.get hts.1 hts.2) (WO hfi) when i).mono ?_
 rintro _ K' ⟨rfl,hK'⟩
 rw[hK',yH hMs]
 clear hK' K'
 generalize hmk:S.τ.make ⟨4,i,none,0⟩ 0 when=mk at hp
 have ap1:=ha.putL hMs (.abs (ZT s mk.1))
 have ho1:∀(S2:CX),SameC S.σ S2.σ→S2.τ=mk.1→S2.χ=S.χ→OutC c S2 (L.put s (.abs (ZT s mk.1))):=by
  intro S2 h1 h2 h3
  refine⟨fun s' hs'=>?_,fun o1 h4 a h5=>?_⟩
  ·have e:s'=s:=by rw[h1.t,hs]at hs';cases hs';rfl
   subst e
   exact⟨hts.1,by rw[ze,h2]⟩
  ·obtain⟨o',h6,h7⟩:=h1.cs ⟨o1,h4,h5⟩
   have:=ho.chs o' h6 a h7
   refine⟨this.1,by rw[h1.t];exact this.2.1,?_⟩
   rw[zb _ _ _ (by rintro rfl;exact this.2.1 hs),h3];exact this.2.2
 have fr1:FrC S.σ L (L.put s (.abs (ZT s mk.1))):=fun r hr h1 h2=>zb _ _ _ (by rintro rfl;exact h1 hs)
 have hh1:∀r,(L.put s (.abs (ZT s mk.1))) r=none→L r=none:=fun r hr=>by
  by_cases e:r=s
  ·subst e;rw[ze]at hr;cases hr
  ·rwa [zb _ _ _ e]at hr
 simp
 split at hp
 ·rename_i hz
  split at hp
  case h_1=>cases hp
  rename_i o hoi
  cases hp
  refine⟨fun _=>?_,fun h9=>absurd hz h9⟩
  obtain⟨b,a1,a2,a3,a4,a5⟩:=hd.fo (F:=F) hoi
  have hlt:i * 9+9≤(zm One.cells S.σ.ones).length:=(wa One.len S.σ.ones i o hoi).2
  simp[hd.f2,a3]
  rw[zH (zY a2) (by omega) rfl,xp]
  have d1:=hd.setOne (o':={ o with timer:=mk.2.1 }) hoi a1 (j:=8) (v:=.i .i64 mk.2.1) (by omega) rfl
  have ap2:=ap1.own (b:=b) (by rw[a2];simp) (.raw (.cells ((zm One.cells S.σ.ones).set (i * 9+8) (.i .i64 mk.2.1))))
  have hsm:SameC S.σ (S.setOne i { o with timer:=mk.2.1 }).σ:=XD hoi rfl rfl
  exact hQ _ _ ⟨d1,ap2,ho1 _ hsm rfl rfl,hsm.sub,fr1,hh1⟩
 ·rename_i hz
  cases hp
  refine⟨fun h9=>absurd h9 hz,fun _=>?_⟩
  exact hQ _ _ ⟨hd,ap1,ho1 _ (SameC.refl _) rfl rfl,(SameC.refl _).sub,fr1,hh1⟩
theorem Uc (hf:H_f144 F){parent when now:Int}(hp:∀a,L a=none→∃r,S.deadlineP parent when now a=some r)(hd:CtxD c S.σ t mb osl asl M)(ha:yi M L c)(ho:OutC c S L)(hc:L c≠none) :
  zd F k_f144 [.p (some (c,0)),.i .i64 parent,.i .i64 when,.i .i64 now] (M.over L) fun v K'=>∃(a:Nat) (r:zcG) (M' L':Lg) (osl' v1 v2:AV) (sts:List (Int×Int)),(S.σ.room parent=0→L a=none)∧S.deadlineP parent when now a=some r∧v=.tup [.i .i64 r.2.1,v1,.i .i64 r.2.2.2]∧K'=M'.over L'∧CO c t mb S r.1 L osl' asl M' L'∧Us L L' v1 v2 r.2.2.1 sts:=by
 refine zr ?_
 intro Q hQ
 apply r_f144 hf.code
 unfold D_f144_1 D_f144_2
 refine (Zl hf.f128 hd L parent).mono ?_
 rintro _ K' ⟨rfl,hK'⟩
 rw[hK']
 clear hK' K'
 by_cases hr0:S.σ.room parent=0
 case neg =>
  simp[hr0]
  exact⟨_,zu.refl _,hQ _ _ ⟨0,_,M,L,osl,.sl none 0 0 0,.sl none 0 0 0,[],fun h=>absurd h hr0,by simp only[CX.deadlineP,ne_eq,hr0,not_false_eq_true,if_true];rfl,rfl,rfl,⟨hd,ha,ho,(SameC.refl _).sub,FrC.refl _ _,fun _ h=>h⟩,[],rfl,ResP.nil _ _⟩⟩
 obtain⟨i,rfl,hi⟩:=Z8 hr0
 have hup:S.σ.ones[i]?=some S.σ.ones[i]:=List.getElem?_eq_getElem hi
 generalize S.σ.ones[i]=up at hup
 simp[hr0]
 unfold D_f144_3
 refine (vE hf.f2 when 0 _).mono ?_
 rintro _ K' ⟨rfl,hK'⟩
 rw[hK']
 clear hK' K'
 simp
 have hPd:∀a,S.deadlineP i when now a=if up.has=true∧up.when≤max (zM when 0) 0 then S.cancelsP i a
   else if S.okAdd=true then match (S.addS { One.zero with when:=max (zM when 0) 0,has:=true,own:=true } up.node a).beginP S.σ.ones.length i with
    | none=>none
    | some r=>if 0<r.2.length then some (r.1,(S.σ.ones.length:Int),r.2,0)
     else if max (zM when 0) 0≤now then match r.1.cancelP 200 S.σ.ones.length 2 2 with
      | none=>none
      | some r2=>some (r2.1,(S.σ.ones.length:Int),r2.2.1,0)
     else match r.1.armP S.σ.ones.length (max (zM when 0) 0)with
      | none=>none
      | some S2=>some (S2,(S.σ.ones.length:Int),[],0)
   else none:=by
  intro a
  unfold CX.deadlineP
  rw[if_neg (by simp[hr0])]
  simp only[Int.toNat_natCast,hup]
 generalize hwh:max (zM when 0) 0=wh at hPd
 unfold D_f144_4
 obtain⟨b,a1,a2,a3,a4,a5⟩:=hd.fo (F:=F) hup
 simp[hd.f2,a3,a5]
 intro b8 hb8
 have hb:=yI.1 hb8
 rw[zw (n:=9) (ze _ _ _) (One.one up) (One.len up) (by simp),zA]
 have hsp:zo [AV.i .i64 0,.b false,.p none,.i .i64 0,.i .i64 0,.i .i64 0,.b false,.b false,.i .i64 0] 0 up.cells=up.cells:=rfl
 rw[hsp,yH hb.1]
 have ap1:=ha.putL hb.1 (.raw (.cells up.cells))
 have g:((L.put b8 (.raw (.cells up.cells)))) b8=some (.raw (.cells up.cells)):=ze _ _ _
 have ho1:=ho.put hb.2 (.raw (.cells up.cells))
 have hh1:∀r,(L.put b8 (.raw (.cells up.cells))) r=none→L r=none:=fun r hr=>by
  by_cases e:r=b8
  ·subst e;exact hb.2
  ·rwa [zb _ _ _ e]at hr
 have fr1:FrC S.σ L (L.put b8 (.raw (.cells up.cells))):=(FrC.refl _ _).put hb.2 _
 generalize hL1:L.put b8 (.raw (.cells up.cells))=L1 at ap1 g ho1 hh1 fr1
 have hcL1:L1 c≠none:=fun h9=>hc (hh1 c h9)
 have hb8M:∀X:Lg,rdL (M.over X) (b8,0) none=rdL X (b8,0) none∧rdL (M.over X) (b8,5) none=rdL X (b8,5) none∧rdL (M.over X) (b8,6) none=rdL X (b8,6) none:=fun X=>by simp[rdL,yG hb.1]
 have rd:∀X:Lg,X b8=some (.raw (.cells up.cells))→rdL X (b8,0) none=some (.i .i64 up.node)∧rdL X (b8,5) none=some (.i .i64 up.when)∧rdL X (b8,6) none=some (.b up.has):=fun X h=>⟨by rw[zk h];rfl,by rw[zk h];rfl,by rw[zk h];rfl⟩
 have q1:=hb8M L1
 rw[(rd _ g).1,(rd _ g).2.1,(rd _ g).2.2]at q1
 unfold D_f144_5
 have hcan:up.has=true∧up.when≤wh→zd F k_f143 [.p (some (c,0)),.i .i64 i] (M.over L1) fun v8 L8=>za F (.ext 0) [v8] L8 fun v9 L9=>za F (.ext 1) [v8] L9 fun v10 L10=>za F (.ext 2) [v8] L10 fun v11 L11=>zl (some (.tup [v9,v10,v11])) Q L11:=by
  intro hcond
  refine (Y3 hf.f143 (parent:=i) ?_ hd ap1 ho1 hcL1).mono ?_
  ·intro a h
   obtain⟨r,hr⟩:=hp a (hh1 a h)
   rw[hPd,if_pos hcond]at hr
   exact⟨r,hr⟩
  ·rintro _ K' ⟨a,r,M',L',osl',v1,v2,sts,haL,hr,rfl,rfl,co,ps,hps,hres⟩
   simp
   exact⟨_,zu.refl _,hQ _ _ ⟨a,r,M',L',osl',v1,v2,sts,fun h=>hh1 a (haL h),by rw[hPd,if_pos hcond];exact hr,rfl,rfl,⟨co.d,co.ap,co.out,co.sub,fr1.trans (SameC.refl _) co.fr,fun q hq=>hh1 q (co.has q hq)⟩,ps,hps,hres.low fun q hq _=>hh1 q hq⟩⟩
 have hown:¬(up.has=true∧up.when≤wh)→D_f144_6 F Q (.p (some (c,0))) (.i .i64 i) (.i .i64 wh) (.i .i64 now) (.p (some (b8,0))) (M.over L1):=by
  intro hcond
  unfold D_f144_6
  refine (XA hf.f129).mono ?_
  rintro _ K' ⟨a,haK,rfl,hK'⟩
  have haK':=yI.1 haK
  have haL:L a=none:=hh1 a haK'.2
  have hac:a≠c:=by rintro rfl;exact hc haL
  rw[hK',yH haK'.1]
  clear hK' K'
  obtain⟨r,hr⟩:=hp a haL
  have hr':=hr
  rw[hPd,if_neg hcond]at hr
  split at hr
  case isFalse=>cases hr
  rename_i hok
  simp only[CX.okAdd,Bool.and_eq_true,decide_eq_true_eq]at hok
  split at hr
  case h_1=>cases hr
  rename_i r1 hr1
  have ap2:=ap1.putL haK'.1 (.abs (yu a .sg))
  have hn8:b8≠a:=by rintro rfl;rw[g]at haK';cases haK'.2
  have g2:(L1.put a (.abs (yu a .sg))) b8=some (.raw (.cells up.cells)):=by rw[zb _ _ _ hn8];exact g
  have q2:=hb8M (L1.put a (.abs (yu a .sg)))
  rw[(rd _ g2).1,(rd _ g2).2.1,(rd _ g2).2.2]at q2
  simp[q2,zE,zo,zq,zp,AV.cellsOf]
  have hoS:OutC c (S.addS { One.zero with when:=wh,has:=true,own:=true } up.node a) (L1.put a (.abs (yu a .sg))):=ho1.addS haK'.2 hac _
  have hcell:AV.agg [.i .i64 0,.b false,.p (some (a,0)),.i .i64 0,.i .i64 0,.i .i64 wh,.b true,.b true,.i .i64 0]=AV.agg ({ ({ One.zero with when:=wh,has:=true,own:=true }:One)with c:=some a }:One).cells:=rfl
  rw[hcell]
  refine (vD hf.f121 hd ap2 ({ ({ One.zero with when:=wh,has:=true,own:=true }:One)with c:=some a }:One) up.node hok.1 hok.2).mono ?_
  rintro _ K' ⟨rfl,M3,osl3,rfl,hd3,ap3⟩
  have hcL2:(L1.put a (.abs (yu a .sg))) c≠none:=by rw[zb _ _ _ (Ne.symm hac)];exact hcL1
  have hh2:∀q,(L1.put a (.abs (yu a .sg))) q=none→L q=none:=fun q hq=>by
   by_cases e:q=a
   ·subst e;exact haL
   ·rw[zb _ _ _ e]at hq;exact hh1 q hq
  have hd3':CtxD c (S.addS { One.zero with when:=wh,has:=true,own:=true } up.node a).σ t mb osl3 asl M3:=hd3
  refine⟨by simp[z8,yB,Xm,q1,q2],?_⟩
  unfold D_f144_7
  refine (Vx hf.f142 hr1 hd3' ap3 hoS hcL2).mono ?_
  rintro v K' ⟨M4,L4,v2,sts,rfl,co,hsmB,hres⟩
  have hsub:SubC S.σ (S.addS { One.zero with when:=wh,has:=true,own:=true } up.node a).σ:=zcD _ _ _
  have frN:∀{S2:CX} {L5:Lg},FrC (S.addS { One.zero with when:=wh,has:=true,own:=true } up.node a).σ (L1.put a (.abs (yu a .sg))) L5→FrC S.σ L L5:=by
   intro S2 L5 hfr q hq h1 h2
   have e1:(L1.put a (.abs (yu a .sg))) q=L q:=by rw[zb _ _ _ (by rintro rfl;exact hq haL)];exact fr1 q hq h1 h2
   rw[←e1]
   refine hfr q (by rw[e1];exact hq) h1 ?_
   intro o1 ho1 h9
   have h1':o1∈S.σ.ones++[{ ({ ({ One.zero with when:=wh,has:=true,own:=true }:One)with c:=some a }:One)with node:=(zL S.σ.tree up.node (!One.zero.free)).2.1,timer:=-1 }]:=ho1
   rcases List.mem_append.1 h1' with h1' | h1'
   ·exact h2 o1 h1' h9
   ·simp at h1';subst h1';simp at h9;subst h9;exact hq haL
  have hcL4:L4 c≠none:=fun h9=>hc (hh2 c (co.has c h9))
  simp[hres.len1]
  split at hr
  ·rename_i hpos
   cases hr
   refine⟨fun _=>?_,fun h9=>absurd h9 (by first | omega | (intro h8;rw[h8]at hpos;simp at hpos))⟩
   exact⟨_,zu.refl _,hQ _ _ ⟨a,_,M4,L4,osl3,v,v2,sts,fun _=>haL,hr',rfl,rfl,⟨co.d,co.ap,co.out,hsub.trans co.sub,frN (S2:=S) co.fr,fun q hq=>hh2 q (co.has q hq)⟩,by obtain⟨ps,h1,h2⟩:=hres;exact⟨ps,h1,h2.low fun q hq _=>hh2 q hq⟩⟩⟩
  ·rename_i hpos
   have hz:r1.2.length=0:=by omega
   have hz':r1.2=[]:=List.length_eq_zero_iff.1 hz
   refine⟨fun h9=>absurd h9 (by omega),fun _=>?_⟩
   split at hr
   ·rename_i hnow
    split at hr
    case h_1=>cases hr
    rename_i r2 hr2
    cases hr
    refine⟨fun _=>?_,fun h9=>absurd hnow (by omega)⟩
    refine (zat hf.f141 hr2 co.d co.ap co.out hcL4).mono ?_
    rintro _ K' ⟨M5,L5,w1,w2,rfl,rfl,co5,_,hres5⟩
    simp
    refine⟨_,zu.refl _,hQ _ _ ⟨a,_,M5,L5,osl3,w1,w2,r2.2.2,fun _=>haL,hr',rfl,rfl,⟨co5.d,co5.ap,co5.out,(hsub.trans co.sub).trans co5.sub,frN (S2:=S) (FrC.trans hsmB co.fr co5.fr),fun q hq=>hh2 q (co.has q (co5.has q hq))⟩,by obtain⟨ps,h1,h2⟩:=hres5;exact⟨ps,h1,h2.low fun q hq _=>hh2 q (co.has q hq)⟩⟩⟩
   ·rename_i hnow
    split at hr
    case h_1=>cases hr
    rename_i S2 hS2
    cases hr
    refine⟨fun h9=>absurd h9 (by omega),fun _=>?_⟩
    have hlen:S.σ.ones.length<r1.1.σ.ones.length:=by
     have:=congrArg List.length hsmB.names
     simp[Cs.names,CX.addS,Cs.add]at this
     omega
    refine zh7 hf.f55 hS2 co.d co.ap co.out hlen ?_
    intro M5 L5 co5
    refine⟨_,zu.refl _,hQ _ _ ⟨a,_,M5,L5,osl3,.sl none 0 0 0,.sl none 0 0 0,[],fun _=>haL,hr',rfl,rfl,⟨co5.d,co5.ap,co5.out,(hsub.trans co.sub).trans co5.sub,frN (S2:=S) (FrC.trans hsmB co.fr co5.fr),fun q hq=>hh2 q (co.has q (co5.has q hq))⟩,[],rfl,ResP.nil _ _⟩⟩
 cases hhas:up.has
 ·have:=hown (by simp[hhas])
  simpa[q1,hhas]using this
 ·simp[q1,hhas]
  refine⟨fun h9=>hcan ⟨hhas,h9⟩,fun h9=>hown (by rintro⟨_,h8⟩;omega)⟩
end
end
section
variable {F:Nat→Option AFn}
section
variable {M L L0:Lg} {c t mb:Nat} {osl asl:AV} {S S':CX} {σ:Cs} {Q:AV→Lg→Prop}
def Cs.one (σ:Cs)(id:Int):Option One:=if σ.has id=true then σ.ones[id.toNat]? else none
theorem Xo {σ:Cs}{id:Int}(h:σ.has id=true):∃i:Nat,∃o,id=(i:Int)∧σ.ones[i]?=some o∧σ.one id=some o:=by
 obtain⟨i,rfl,hi⟩:=has_nat h
 exact⟨i,σ.ones[i],rfl,List.getElem?_eq_getElem hi,by simp[Cs.one,h,hi]⟩
theorem Yd {σ:Cs}{id:Int}(h:σ.has id=false):σ.one id=none:=by simp[Cs.one,h]
theorem zbi (hf:H_f149 F)(e:L c=some (.abs (YA c σ)))(id:Int):zd F k_f149 [.p (some (c,0)),.i .i64 id] L fun v L'=>v=.tup [.i .i64 (match σ.one id with | some o=>o.err | none=>0),.i .i64 (if σ.has id=true then 0 else 4)]∧L'=L:=by
 refine zr ?_
 intro Q hQ
 refine yA e fun M t mb osl asl hd ha=>?_
 apply r_f149 hf.code
 unfold D_f149_1
 refine (xx hf.f127 hd L id).mono ?_
 rintro _ K' ⟨rfl,hK'⟩
 rw[hK']
 cases hh:σ.has id
 ·simp
  exact⟨_,hd.back ha e,hQ _ _ ⟨by simp[Yd hh,hh],rfl⟩⟩
 ·obtain⟨i,o,rfl,hi,ho⟩:=Xo hh
  obtain⟨b,a1,a2,a3,a4,a5⟩:=hd.fo (F:=F) hi
  have r3:rdL (M.over L) (b,i * 9+3) none=some (.i .i64 o.err):=a4 L 3 (by omega)
  simp[hd.f2,a3,r3]
  exact⟨_,hd.back ha e,hQ _ _ ⟨by simp[ho,hh],rfl⟩⟩
theorem Uf (hf:H_f150 F)(e:L c=some (.abs (YA c σ)))(id:Int):zd F k_f150 [.p (some (c,0)),.i .i64 id] L fun v L'=>v=.tup [.i .i64 (match σ.one id with | some o=>o.cause | none=>0),.i .i64 (if σ.has id=true then 0 else 4)]∧L'=L:=by
 refine zr ?_
 intro Q hQ
 refine yA e fun M t mb osl asl hd ha=>?_
 apply r_f150 hf.code
 unfold D_f150_1
 refine (xx hf.f127 hd L id).mono ?_
 rintro _ K' ⟨rfl,hK'⟩
 rw[hK']
 cases hh:σ.has id
 ·simp
  exact⟨_,hd.back ha e,hQ _ _ ⟨by simp[Yd hh,hh],rfl⟩⟩
 ·obtain⟨i,o,rfl,hi,ho⟩:=Xo hh
  obtain⟨b,a1,a2,a3,a4,a5⟩:=hd.fo (F:=F) hi
  have r3:rdL (M.over L) (b,i * 9+4) none=some (.i .i64 o.cause):=a4 L 4 (by omega)
  simp[hd.f2,a3,r3]
  exact⟨_,hd.back ha e,hQ _ _ ⟨by simp[ho,hh],rfl⟩⟩
theorem zaq (hf:H_f157 F)(e:L c=some (.abs (YA c σ)))(id:Int):zd F k_f157 [.p (some (c,0)),.i .i64 id] L fun v L'=>v=.tup [ptr (match σ.one id with | some o=>o.c | none=>none),.i .i64 (if σ.has id=true then 0 else 4)]∧L'=L:=by
 refine zr ?_
 intro Q hQ
 refine yA e fun M t mb osl asl hd ha=>?_
 apply r_f157 hf.code
 unfold D_f157_1
 refine (xx hf.f127 hd L id).mono ?_
 rintro _ K' ⟨rfl,hK'⟩
 rw[hK']
 cases hh:σ.has id
 ·simp
  exact⟨_,hd.back ha e,hQ _ _ ⟨by simp[Yd hh,hh,ptr],rfl⟩⟩
 ·obtain⟨i,o,rfl,hi,ho⟩:=Xo hh
  obtain⟨b,a1,a2,a3,a4,a5⟩:=hd.fo (F:=F) hi
  have r3:rdL (M.over L) (b,i * 9+2) none=some (ptr o.c):=a4 L 2 (by omega)
  simp[hd.f2,a3,r3]
  exact⟨_,hd.back ha e,hQ _ _ ⟨by simp[ho,hh],rfl⟩⟩
theorem Ue (hf:H_f147 F)(e:L c=some (.abs (YA c σ)))(id:Int):zd F k_f147 [.p (some (c,0)),.i .i64 id] L fun v L'=>v=.tup [.i .i64 (match σ.one id with | some o=>o.when | none=>0),.b (match σ.one id with | some o=>o.has | none=>false),.i .i64 (if σ.has id=true then 0 else 4)]∧L'=L:=by
 refine zr ?_
 intro Q hQ
 refine yA e fun M t mb osl asl hd ha=>?_
 apply r_f147 hf.code
 unfold D_f147_1
 refine (xx hf.f127 hd L id).mono ?_
 rintro _ K' ⟨rfl,hK'⟩
 rw[hK']
 cases hh:σ.has id
 ·simp
  exact⟨_,hd.back ha e,hQ _ _ ⟨by simp[Yd hh,hh],rfl⟩⟩
 ·obtain⟨i,o,rfl,hi,ho⟩:=Xo hh
  obtain⟨b,a1,a2,a3,a4,a5⟩:=hd.fo (F:=F) hi
  have r3:rdL (M.over L) (b,i * 9+5) none=some (.i .i64 o.when):=a4 L 5 (by omega)
  have r4:rdL (M.over L) (b,i * 9+6) none=some (.b o.has):=a4 L 6 (by omega)
  simp[hd.f2,a3,r3,r4]
  exact⟨_,hd.back ha e,hQ _ _ ⟨by simp[ho,hh],rfl⟩⟩
theorem zbh (hf:H_f155 F)(e:L c=some (.abs (YA c σ))):zd F k_f155 [.p (some (c,0))] L fun v L'=>v=.i .i64 σ.ones.length∧L'=L:=by
 refine zr ?_
 intro Q hQ
 refine yA e fun M t mb osl asl hd ha=>?_
 apply r_f155 hf.code
 unfold D_f155_1
 simp[hd.f2,hd.ones.len]
 exact⟨_,hd.back ha e,hQ _ _ ⟨rfl,rfl⟩⟩
def Cs.new (t:Option Nat):Cs:=(⟨t,[],[],[],fun _=>none⟩:Cs).add { One.zero with free:=true } (-1)
theorem zbg (hf:H_f122 F)(L:Lg)(t:Option Nat):zd F k_f122 [ptr t] L fun v L'=>∃c,L c=none∧v=.p (some (c,0))∧L'=L.put c (.abs (YA c (.new t))):=by
 refine zr ?_
 intro Q hQ
 apply r_f122 hf.code
 unfold D_f122_1
 refine (UE hf.f117).mono ?_
 rintro _ L1 ⟨tr,htr,rfl,rfl⟩
 simp
 intro mb hmb
 have hfl:zE [.p none,.p none,.sl none 0 0 0,.sl none 0 0 0,.m none] [(0,1),(1,1),(4,1)] [ptr t,.p (some (tr,0)),.m (some mb)]=some [ptr t,.p (some (tr,0)),.sl none 0 0 0,.sl none 0 0 0,.m (some mb)]:=rfl
 rw[hfl]
 simp only[Option.map_some,zh,ZB]
 rw[zN _ _ _ (by simp[ptr])]
 intro c hc
 simp[zE,zo,zq,zp,AV.cellsOf]
 have n1:mb≠tr:=by rintro rfl;rw[ze]at hmb;cases hmb
 have n2:c≠mb:=by rintro rfl;rw[ze]at hc;cases hc
 have hc1:=hc
 rw[zb _ _ _ n2]at hc1
 have n3:c≠tr:=by rintro rfl;rw[ze]at hc1;cases hc1
 rw[zb _ _ _ n3]at hc1
 rw[zb _ _ _ n1]at hmb
 let M:Lg:=((Lg.nil.put tr (.abs (xy tr []))).put mb (.raw (.map []))).put c (.raw (.cells [ptr t,.p (some (tr,0)),.sl none 0 0 0,.sl none 0 0 0,.m (some mb)]))
 have hK:((L.put tr (.abs (xy tr []))).put mb (.raw (.map []))).put c (.raw (.cells [ptr t,.p (some (tr,0)),.sl none 0 0 0,.sl none 0 0 0,.m (some mb)]))=M.over L:=by
  show _=Lg.over (Lg.put _ _ _) L
  rw[←xp,←xp,←xp];rfl
 have hd:CtxD c ⟨t,[],[],[],fun _=>none⟩ tr mb (.sl none 0 0 0) (.sl none 0 0 0) M:=by
  refine⟨ze _ _ _,?_,⟨[],?_,V2⟩,.inl ⟨rfl,rfl,rfl⟩,.inl ⟨rfl,rfl,rfl⟩,n3,n2,Ne.symm n1,fun b h=>(by cases h),fun b h=>(by cases h),?_⟩
  ·show (Lg.put _ _ _) tr=_
   rw[zb _ _ _ (Ne.symm n3),zb _ _ _ (Ne.symm n1),ze]
  ·show (Lg.put _ _ _) mb=_
   rw[zb _ _ _ (Ne.symm n2),ze]
  ·intro b hb
   by_cases e1:b=c
   ·exact .inl e1
   by_cases e2:b=mb
   ·exact .inr (.inr (.inl e2))
   by_cases e3:b=tr
   ·exact .inr (.inl e3)
   exfalso;apply hb
   show (Lg.put _ _ _) b=_
   rw[zb _ _ _ e1,zb _ _ _ e2,zb _ _ _ e3];rfl
 have ap:yi M L c:=by
  intro b hb hM
  rcases hd.dom b hM with h | h | h | h | h
  ·exact absurd h hb
  ·rw[h];exact htr
  ·rw[h];exact hmb
  ·cases h
  ·cases h
 rw[hK]
 have hcell:AV.agg [.i .i64 0,.b true,.p none,.i .i64 0,.i .i64 0,.i .i64 0,.b false,.b false,.i .i64 0]=AV.agg ({ One.zero with free:=true }:One).cells:=rfl
 rw[hcell]
 refine (vD hf.f121 hd ap { One.zero with free:=true } (-1) rfl (by simp)).mono ?_
 rintro _ K' ⟨rfl,M3,osl3,rfl,hd3,ap3⟩
 simp
 exact⟨_,hd3.shut ap3,hQ _ _ ⟨c,hc1,rfl,rfl⟩⟩
theorem zas (hf:H_f143 F){parent:Int}(hp:∀a,L a=none→∃r,S.cancelsP parent a=some r)(e:L c=some (.abs (YA c S.σ)))(ho:OutC c S L) :
  zd F k_f143 [.p (some (c,0)),.i .i64 parent] L fun v L2=>∃(a:Nat) (r:zcG) (v1 v2:AV) (sts:List (Int×Int)),(S.σ.room parent=0→L a=none)∧S.cancelsP parent a=some r∧v=.tup [.i .i64 r.2.1,v1,.i .i64 r.2.2.2]∧CDone c S r.1 L L2∧Us L L2 v1 v2 r.2.2.1 sts:=by
 have hc:L c≠none:=by rw[e];simp
 refine yA e fun M t mb osl asl hd ha=>?_
 refine (Y3 hf hp hd ha ho hc).sees ?_
 rintro _ K' ⟨a,r,M',L',osl',v1,v2,sts,h1,h2,rfl,rfl,co,hres⟩
 have:=co.shut hc
 exact⟨_,this.1,a,r,v1,v2,sts,h1,h2,rfl,this.2,hres.shut hc _⟩
theorem Ub (hf:H_f144 F){parent when now:Int}(hp:∀a,L a=none→∃r,S.deadlineP parent when now a=some r)(e:L c=some (.abs (YA c S.σ)))(ho:OutC c S L) :
  zd F k_f144 [.p (some (c,0)),.i .i64 parent,.i .i64 when,.i .i64 now] L fun v L2=>∃(a:Nat) (r:zcG) (v1 v2:AV) (sts:List (Int×Int)),(S.σ.room parent=0→L a=none)∧S.deadlineP parent when now a=some r∧v=.tup [.i .i64 r.2.1,v1,.i .i64 r.2.2.2]∧CDone c S r.1 L L2∧Us L L2 v1 v2 r.2.2.1 sts:=by
 have hc:L c≠none:=by rw[e];simp
 refine yA e fun M t mb osl asl hd ha=>?_
 refine (Uc hf hp hd ha ho hc).sees ?_
 rintro _ K' ⟨a,r,M',L',osl',v1,v2,sts,h1,h2,rfl,rfl,co,hres⟩
 have:=co.shut hc
 exact⟨_,this.1,a,r,v1,v2,sts,h1,h2,rfl,this.2,hres.shut hc _⟩
theorem Ux (hf:H_f145 F){parent:Int}{r:CX×Int×Int}(hp:S.withoutP parent=some r)(e:L c=some (.abs (YA c S.σ)))(ho:OutC c S L) :
  zd F k_f145 [.p (some (c,0)),.i .i64 parent] L fun v L2=>v=.tup [.i .i64 r.2.1,.i .i64 r.2.2]∧CDone c S r.1 L L2:=by
 have hc:L c≠none:=by rw[e];simp
 refine yA e fun M t mb osl asl hd ha=>?_
 refine (Uy hf hp hd ha ho hc).sees ?_
 rintro _ K' ⟨M',L',osl',rfl,rfl,co⟩
 have:=co.shut hc
 exact⟨_,this.1,rfl,this.2⟩
theorem zau (hf:H_f148 F){id cause:Int}{r:CX×List Lap×List (Int×Int)×Int}(hp:S.cancelX id cause=some r)(e:L c=some (.abs (YA c S.σ)))(ho:OutC c S L) :
  zd F k_f148 [.p (some (c,0)),.i .i64 id,.i .i64 cause] L fun v L2=>∃v1 v2,v=.tup [v1,v2,.i .i64 r.2.2.2]∧CDone c S r.1 L L2∧Us L L2 v1 v2 r.2.1 r.2.2.1:=by
 have hc:L c≠none:=by rw[e];simp
 refine yA e fun M t mb osl asl hd ha=>?_
 refine (zav hf hp hd ha ho hc).sees ?_
 rintro _ K' ⟨M',L',v1,v2,rfl,rfl,co,hres⟩
 have:=co.shut hc
 exact⟨_,this.1,v1,v2,rfl,this.2,hres.shut hc _⟩
theorem XX (hf:H_f160 F){id:Int}{r:CX×List Lap×List (Int×Int)×Int}(hp:S.lapseX id=some r)(e:L c=some (.abs (YA c S.σ)))(ho:OutC c S L) :
  zd F k_f160 [.p (some (c,0)),.i .i64 id] L fun v L2=>∃v1 v2,v=.tup [v1,v2,.i .i64 r.2.2.2]∧CDone c S r.1 L L2∧Us L L2 v1 v2 r.2.1 r.2.2.1:=by
 have hc:L c≠none:=by rw[e];simp
 refine yA e fun M t mb osl asl hd ha=>?_
 refine (zaZ hf hp hd ha ho hc).sees ?_
 rintro _ K' ⟨M',L',v1,v2,rfl,rfl,co,hres⟩
 have:=co.shut hc
 exact⟨_,this.1,v1,v2,rfl,this.2,hres.shut hc _⟩
theorem VE (hf:H_f151 F){k:Int}{r:CX×Bool×Int}(hp:S.unafterX k=some r)(e:L c=some (.abs (YA c S.σ)))(ho:OutC c S L) :
  zd F k_f151 [.p (some (c,0)),.i .i64 k] L fun v L2=>v=.tup [.b r.2.1,.i .i64 r.2.2]∧CDone c S r.1 L L2:=by
 have hc:L c≠none:=by rw[e];simp
 refine yA e fun M t mb osl asl hd ha=>?_
 refine (VF hf hp hd ha ho).sees ?_
 rintro _ K' ⟨M',rfl,rfl,co⟩
 have:=co.shut hc
 exact⟨_,this.1,rfl,this.2⟩
theorem zbq (hf:H_f146 F){id prog:Int}{r:CX×Int×List (Int×Int)×Int}(hp:S.afterX id prog=some r)(e:L c=some (.abs (YA c S.σ)))(ho:OutC c S L) :
  zd F k_f146 [.p (some (c,0)),.i .i64 id,.i .i64 prog] L fun v L2=>∃v2,v=.tup [.i .i64 r.2.1,v2,.i .i64 r.2.2.2]∧CDone c S r.1 L L2∧OSl L2 v2 (zm stc r.2.2.1) r.2.2.1.length 2∧∀b,slB v2=some b→L b=none:=by
 have hc:L c≠none:=by rw[e];simp
 refine yA e fun M t mb osl asl hd ha=>?_
 refine (zbr hf hp hd ha ho hc).sees ?_
 rintro _ K' ⟨M',L',asl',v2,rfl,rfl,co,hs,hfr⟩
 have:=co.shut hc
 exact⟨_,this.1,v2,rfl,this.2,hs.mono fun b hb=>zb _ _ _ (by rintro rfl;exact hc (hfr _ hb)),hfr⟩
end
end
section
def vn (ns:List Nd)(k:Int)(i:Nat):Bool:=match ns[i]? with | some n=>n.linked&&decide (n.parent=k) | none=>false
def zI (ns:List Nd)(k:Int):List Nat:=(List.range ns.length).filter (vn ns k)
structure TreeOk (ns:List Nd):Prop where
 len:ns.length≤1000
 kids:∀(k:Nat) (n:Nd),ns[k]?=some n→n.kids=(zI ns (k:Int)).map fun (i:Nat)=>(i:Int)
 par:∀(k:Nat) (n:Nd),ns[k]?=some n→n.linked=true→0≤n.parent∧n.parent<k
theorem xS {ns:List Nd}{k:Int}{i:Nat}:i∈zI ns k↔∃n,ns[i]?=some n∧n.linked=true∧n.parent=k:=by
 simp only[zI,List.mem_filter,List.mem_range,vn]
 constructor
 ·rintro⟨h1,h2⟩
  rw[List.getElem?_eq_getElem h1]at h2 ⊢
  simp at h2
  exact⟨_,rfl,h2.1,h2.2⟩
 ·rintro⟨n,h1,h2,h3⟩
  exact⟨(List.getElem?_eq_some_iff.1 h1).1,by simp[h1,h2,h3]⟩
theorem YZ (ns:List Nd)(k:Int):(zI ns k).Nodup:=List.nodup_range.sublist List.filter_sublist
theorem xh {ns:List Nd}(h:TreeOk ns){k i:Nat}(hi:i∈zI ns (k:Int)):k<i∧i<ns.length:=by
 obtain⟨n,h1,h2,h3⟩:=xS.1 hi
 have:=h.par i n h1 h2
 exact⟨by omega,(List.getElem?_eq_some_iff.1 h1).1⟩
theorem vA (ns:List Nd)(k:Int):(zI ns k).length≤ns.length:=by
 have:=(List.filter_sublist (p:=vn ns k) (l:=List.range ns.length)).length_le
 simpa[zI]using this
theorem TreeOk.kok {ns:List Nd}(h:TreeOk ns):kok ns=true:=by
 refine List.all_eq_true.2 fun n hn=>?_
 obtain⟨k,hk⟩:=List.mem_iff_getElem?.1 hn
 rw[h.kids k n hk]
 have:=vA ns k
 have:=h.len
 simp;omega
theorem TreeOk.kidsT {ns:List Nd}(h:TreeOk ns){k:Nat}(hk:k<ns.length):kidsT ns k=(zI ns (k:Int)).map fun (i:Nat)=>(i:Int):=by
 have:YI ns k=true:=by simp[YI];omega
 simp only[Go.AM.kidsT,this,if_true,Int.toNat_natCast,List.getD_eq_getElem?_getD]
 rw[List.getElem?_eq_getElem hk]
 exact h.kids k _ (List.getElem?_eq_getElem hk)
theorem Um (ns:List Nd)(i:Nat)(x:Int):(vq ns i x).length=ns.length:=by
 unfold vq;split<;>simp
theorem zdA (ns:List Nd)(i:Nat)(x:Int)(j:Nat):(vq ns i x)[j]?=(ns[j]?).map fun n=>if j=i then { n with kids:=n.kids++[x] }else n:=by
 unfold vq
 split
 ·rename_i n hn
  by_cases e:i=j
  ·subst e
   have hi:i<ns.length:=(List.getElem?_eq_some_iff.1 hn).1
   rw[List.getElem?_set_self hi,hn];simp
  ·rw[List.getElem?_set_ne e]
   cases ns[j]? with
   | none=>rfl
   | some m=>simp[Ne.symm e]
 ·rename_i hn
  cases e:ns[j]? with
  | none=>rfl
  | some m =>
   have:j≠i:=by rintro rfl;rw[hn]at e;cases e
   simp[this]
structure Added (ns:List Nd)(parent:Int)(lk:Bool)(ms:List Nd):Prop where
 len:ms.length=ns.length+1
 old:∀(j:Nat) (n:Nd),ns[j]?=some n→∃m:Nd,ms[j]?=some m∧m.parent=n.parent∧m.linked=n.linked
 new:∃m:Nd,ms[ns.length]?=some m∧m.parent=parent∧m.linked=lk
 ok:TreeOk ms
theorem W0 {ns:List Nd}(h:TreeOk ns)(hl:ns.length<1000){parent:Int}{linked:Bool}(hp:parent=-1∨YI ns parent=true) :
  ∃ms,zL ns parent linked=(ms,(ns.length:Int),0)∧Added ns parent (linked&&decide (parent≠-1)) ms:=by
 unfold zL
 have c1:¬(parent≠-1∧YI ns parent=false):=by
  rintro⟨h1,h2⟩
  rcases hp with h3 | h3
  ·exact h1 h3
  ·rw[h2]at h3;cases h3
 rw[if_neg c1,if_neg (by omega)]
 refine⟨_,rfl,?_⟩
 generalize hlk:(linked&&decide (parent≠-1))=lk
 have hpar:lk=true→∃p:Nat,parent=(p:Int)∧p<ns.length:=by
  intro h1
  rw[←hlk]at h1
  simp at h1
  rcases hp with h3 | h3
  ·exact absurd h3 h1.2
  ·exact V6 h3
 generalize hbase:(if lk=true then vq ns parent.toNat ns.length else ns)=base
 have hblen:base.length=ns.length:=by rw[←hbase];split<;>simp[Um]
 have hbget:∀(j:Nat) (n:Nd),ns[j]?=some n→∃m:Nd,base[j]?=some m∧m.parent=n.parent∧m.linked=n.linked∧m.kids=n.kids++(if lk=true∧parent=(j:Int)then [(ns.length:Int)]else []):=by
  intro j n hn
  rw[←hbase]
  by_cases h1:lk=true
  ·obtain⟨p,hp1,hp2⟩:=hpar h1
   rw[if_pos h1,zdA,hn,hp1]
   by_cases e:j=p
   ·subst e;simp[h1]
   ·have:¬((p:Int)=(j:Int)):=by omega
    simp[e,this]
  ·rw[if_neg h1]
   exact⟨n,hn,rfl,rfl,by simp[h1]⟩
 have hget:∀j,j<ns.length→(base++[(⟨parent,lk,[]⟩:Nd)])[j]?=base[j]?:=fun j hj=>List.getElem?_append_left (by omega)
 have hgetn:(base++[(⟨parent,lk,[]⟩:Nd)])[ns.length]?=some ⟨parent,lk,[]⟩:=by
  rw[List.getElem?_append_right (by omega),hblen];simp
 have hhang:∀(k:Int) (i:Nat),vn (base++[(⟨parent,lk,[]⟩:Nd)]) k i=if i=ns.length then (lk&&decide (parent=k))else vn ns k i:=by
  intro k i
  unfold vn
  by_cases e:i=ns.length
  ·subst e;rw[hgetn];simp
  ·rw[if_neg e]
   by_cases hi:i<ns.length
   ·rw[hget i hi]
    obtain⟨m,h1,h2,h3,_⟩:=hbget i _ (List.getElem?_eq_getElem hi)
    rw[h1,List.getElem?_eq_getElem hi];simp[h2,h3]
   ·rw[List.getElem?_eq_none (by simp;omega),List.getElem?_eq_none (by omega)]
 have hkids:∀k:Int,zI (base++[(⟨parent,lk,[]⟩:Nd)]) k=zI ns k++(if lk=true∧parent=k then [ns.length]else []):=by
  intro k
  unfold zI
  rw[List.length_append,hblen,List.length_singleton,List.range_succ,List.filter_append]
  congr 1
  ·apply List.filter_congr
   intro i hi
   have:i≠ns.length:=by have:=List.mem_range.1 hi;omega
   rw[hhang,if_neg this]
  ·simp only[List.filter_cons,List.filter_nil,hhang,if_true]
   by_cases h1:lk=true<;>by_cases h2:parent=k<;>simp[h1,h2]
 refine⟨by simp[hblen],?_,⟨_,hgetn,rfl,rfl⟩,⟨by simp[hblen];omega,?_,?_⟩⟩
 ·intro j n hn
  have hj:j<ns.length:=(List.getElem?_eq_some_iff.1 hn).1
  obtain⟨m,h1,h2,h3,_⟩:=hbget j n hn
  exact⟨m,by rw[hget j hj];exact h1,h2,h3⟩
 ·intro k n hn
  rw[hkids]
  by_cases hk:k<ns.length
  ·rw[hget k hk]at hn
   obtain⟨m,h1,h2,h3,h4⟩:=hbget k _ (List.getElem?_eq_getElem hk)
   rw[hn]at h1;cases h1
   rw[h4,h.kids k _ (List.getElem?_eq_getElem hk),List.map_append]
   congr 1
   split<;>simp
  ·have hk2:k=ns.length:=by
    have:=(List.getElem?_eq_some_iff.1 hn).1
    simp[hblen]at this;omega
   subst hk2
   rw[hgetn]at hn;cases hn
   have e1:zI ns (ns.length:Int)=[]:=by
    rw[List.eq_nil_iff_forall_not_mem]
    intro i hi
    have:=xh h hi
    omega
   have e2:¬(lk=true∧parent=(ns.length:Int)):=by
    rintro⟨h1,h2⟩
    obtain⟨p,h3,h4⟩:=hpar h1
    omega
   simp[e1,e2]
 ·intro k n hn hl2
  by_cases hk:k<ns.length
  ·rw[hget k hk]at hn
   obtain⟨m,h1,h2,h3,h4⟩:=hbget k _ (List.getElem?_eq_getElem hk)
   rw[hn]at h1;cases h1
   rw[h2]
   exact h.par k _ (List.getElem?_eq_getElem hk) (by rw[←h3];exact hl2)
  ·have hk2:k=ns.length:=by
    have:=(List.getElem?_eq_some_iff.1 hn).1
    simp[hblen]at this;omega
   subst hk2
   rw[hgetn]at hn;cases hn
   obtain⟨p,h3,h4⟩:=hpar hl2
   simp only
   omega
def ye (ns:List Nd)(A:Nat→Bool):List Nd:=(List.range ns.length).map fun k=>match ns[k]? with
 | some n=>{ n with linked:=n.linked&&!A k,kids:=n.kids.filter fun x=>!A x.toNat }
 | none=>⟨0,false,[]⟩
theorem yC (ns:List Nd)(A:Nat→Bool):(ye ns A).length=ns.length:=by simp[ye]
theorem y3 (ns:List Nd)(A:Nat→Bool)(k:Nat):(ye ns A)[k]?=(ns[k]?).map fun n=>{ n with linked:=n.linked&&!A k,kids:=n.kids.filter fun x=>!A x.toNat }:=by
 unfold ye
 rw[List.getElem?_map]
 cases e:ns[k]? with
 | some n =>
  have hk:k<ns.length:=(List.getElem?_eq_some_iff.1 e).1
  rw[List.getElem?_range hk]
  simp[e]
 | none =>
  have hk:¬k<ns.length:=fun h9=>by rw[List.getElem?_eq_getElem h9]at e;cases e
  rw[List.getElem?_eq_none (by simpa using hk)];rfl
theorem zhD (m:Nd){b:Bool}{l:List Int}(h1:b=m.linked)(h2:l=m.kids):({ m with linked:=b,kids:=l }:Nd)=m:=by
 subst h1;subst h2;rfl
theorem ZM (ns:List Nd)(A B:Nat→Bool):ye (ye ns A) B=ye ns fun k=>A k||B k:=by
 apply List.ext_getElem?
 intro k
 rw[y3,y3,y3]
 cases ns[k]? with
 | none=>rfl
 | some n=>simp[List.filter_filter,Bool.and_assoc,Bool.and_comm]
theorem Zu (ns:List Nd){A:Nat→Bool}(h:∀k,A k=false):ye ns A=ns:=by
 apply List.ext_getElem?
 intro k
 rw[y3]
 cases ns[k]? with
 | none=>rfl
 | some n=>simp only[Option.map_some];rw[zhD n (by simp[h]) (List.filter_eq_self.2 (by simp[h]))]
theorem zdf (ns:List Nd)(A:Nat→Bool)(k:Int)(i:Nat):vn (ye ns A) k i=(vn ns k i&&!A i):=by
 unfold vn
 rw[y3]
 cases ns[i]? with
 | none=>rfl
 | some n=>simp;cases n.linked<;>cases A i<;>simp
theorem wQ (ns:List Nd)(A:Nat→Bool)(k:Int):zI (ye ns A) k=(zI ns k).filter fun i=>!A i:=by
 unfold zI
 rw[yC,List.filter_filter]
 apply List.filter_congr
 intro i _
 rw[zdf,Bool.and_comm]
theorem TreeOk.kill {ns:List Nd}(h:TreeOk ns)(A:Nat→Bool):TreeOk (ye ns A):=by
 refine⟨by rw[yC];exact h.len,?_,?_⟩
 ·intro k n hn
  rw[y3]at hn
  cases e:ns[k]? with
  | none=>rw[e]at hn;cases hn
  | some m =>
   rw[e]at hn;simp at hn;subst hn
   simp only
   rw[wQ,h.kids k m e,List.filter_map]
   rfl
 ·intro k n hn hl
  rw[y3]at hn
  cases e:ns[k]? with
  | none=>rw[e]at hn;cases hn
  | some m =>
   rw[e]at hn;simp at hn;subst hn
   simp at hl
   exact h.par k m e hl.1
theorem XY (x:Int):∀(l:List Int) (k:Nat),l.Nodup→x∈l→∃j:Nat,za4 l x k=(j:Int)∧k≤j∧l.eraseIdx (j-k)=l.filter fun y=>decide (y≠x)
 | [],k,_,h=>by simp at h
 | y::r,k,hn,h=>by
  unfold za4
  by_cases e:x=y
  ·subst e
   rw[if_pos rfl]
   refine⟨k,rfl,Nat.le_refl _,?_⟩
   have hx:x∉r:=(List.nodup_cons.1 hn).1
   simp only[Nat.sub_self,List.eraseIdx_cons_zero]
   rw[List.filter_cons]
   simp
   exact (List.filter_eq_self.2 fun a ha=>by simp;rintro rfl;exact hx ha).symm
  ·rw[if_neg e]
   have hxr:x∈r:=by simpa[e]using h
   obtain⟨j,h1,h2,h3⟩:=XY x r (k+1) (List.nodup_cons.1 hn).2 hxr
   refine⟨j,h1,by omega,?_⟩
   have:j-k=(j-(k+1))+1:=by omega
   rw[this,List.eraseIdx_cons_succ,h3]
   rw[List.filter_cons]
   simp[Ne.symm e]
theorem Ua {ns:List Nd}(h:TreeOk ns){i:Nat}(hi:i<ns.length):zfj ns i=some (ye ns fun k=>decide (k=i)):=by
 have hn:ns[i]?=some ns[i]:=List.getElem?_eq_getElem hi
 unfold zfj
 simp only[Int.toNat_natCast]
 cases hl:ns[i].linked
 ·have h1:okd ns i=true:=by simp[okd,hn,hl]
  rw[if_pos ⟨by omega,h1,h.kok⟩]
  simp only[vt,hn,hl]
  congr 1
  apply List.ext_getElem?
  intro k
  rw[y3]
  cases e:ns[k]? with
  | none=>simp[e]
  | some m =>
   have hk2:m.kids.filter (fun x=>!decide (x.toNat=i))=m.kids:=by
    apply List.filter_eq_self.2
    intro a ha
    rw[h.kids k m e]at ha
    obtain⟨j,hj,rfl⟩:=List.mem_map.1 ha
    simp
    rintro rfl
    obtain⟨n,h2,h3,_⟩:=xS.1 hj
    rw[hn]at h2;cases h2
    rw[hl]at h3;cases h3
   simp only[Option.map_some]
   rw[zhD m ?_ hk2]
   ·exact e
   ·by_cases hki:k=i
    ·subst hki;rw[hn]at e;cases e;simp[hl]
    ·simp[hki]
 ·have hp:=h.par i _ hn hl
  obtain⟨p,hp1⟩:=Int.eq_ofNat_of_zero_le hp.1
  rw[hp1]at hp
  have hpi:p<i:=by omega
  have hpl:p<ns.length:=by omega
  have hpm:ns[p]?=some ns[p]:=List.getElem?_eq_getElem hpl
  have hki:(i:Int)∈ns[p].kids:=by
   rw[h.kids p _ hpm]
   exact List.mem_map.2 ⟨i,xS.2 ⟨_,hn,hl,hp1⟩,rfl⟩
  have hnd:ns[p].kids.Nodup:=by
   rw[h.kids p _ hpm]
   exact List.Pairwise.map _ (fun a b (hab:a≠b)=>by show (a:Int)≠(b:Int);omega) (YZ ns p)
  obtain⟨j,h1,_,h3⟩:=XY (i:Int) _ 0 hnd hki
  simp at h3
  have hok:okd ns i=true:=by
   have h4:¬p=i:=by omega
   simp[okd,hn,hl,hp1,h4,hpm,h1]
  rw[if_pos ⟨by omega,hok,h.kok⟩]
  simp only[vt,hn,hl,if_true,hp1,Int.toNat_natCast]
  congr 1
  have hun:UD ns i=ns.set i { ns[i]with linked:=false }:=by simp[UD,hn]
  rw[hun]
  have hpm2:(ns.set i { ns[i]with linked:=false })[p]?=some ns[p]:=by rw[List.getElem?_set_ne (by omega)];exact hpm
  unfold zap
  rw[hpm2]
  simp only[h1,Int.toNat_natCast]
  apply List.ext_getElem?
  intro k
  rw[y3]
  have hkf:∀m,ns[k]?=some m→k≠p→m.kids.filter (fun x=>!decide (x.toNat=i))=m.kids:=by
   intro m hm hkp
   apply List.filter_eq_self.2
   intro a ha
   rw[h.kids k m hm]at ha
   obtain⟨q,hq,rfl⟩:=List.mem_map.1 ha
   simp
   rintro rfl
   obtain⟨n,h5,h6,h7⟩:=xS.1 hq
   rw[hn]at h5;cases h5
   rw[hp1]at h7;omega
  by_cases hkp:k=p
  ·subst hkp
   rw[List.getElem?_set_self (by simpa using hpl),hpm]
   have hki2:¬k=i:=by omega
   simp only[Option.map_some,hki2,decide_false,Bool.not_false,Bool.and_true]
   congr 1
   congr 1
   rw[h3]
   apply List.filter_congr
   intro x hx
   rw[h.kids k _ hpm]at hx
   obtain⟨q,hq,rfl⟩:=List.mem_map.1 hx
   simp
   by_cases hqi:q=i<;>simp[hqi]<;>omega
  ·rw[List.getElem?_set_ne (Ne.symm hkp)]
   by_cases hki2:k=i
   ·subst hki2
    rw[List.getElem?_set_self hi,hn]
    simp only[Option.map_some,decide_true,Bool.not_true,Bool.and_false]
    rw[hkf _ hn hkp]
   ·rw[List.getElem?_set_ne (Ne.symm hki2)]
    cases e:ns[k]? with
    | none=>rfl
    | some m =>
     simp only[Option.map_some]
     rw[zhD m (by simp[hki2]) (hkf _ e hkp)]
def pre (ns:List Nd):Nat→Nat→List Nat
 | 0,_=>[]
 | f+1,k=>k::(zI ns (k:Int)).flatMap (pre ns f)
theorem vW {ns:List Nd}(h:TreeOk ns):∀(f k i:Nat),i∈pre ns f k→k≤i∧(k<ns.length→i<ns.length)
 | 0,k,i,hi=>by simp[pre]at hi
 | f+1,k,i,hi=>by
  simp only[pre,List.mem_cons,List.mem_flatMap]at hi
  rcases hi with rfl | ⟨j,hj,hi⟩
  ·exact⟨Nat.le_refl _,id⟩
  ·have h1:=xh h hj
   have h2:=vW h f j i hi
   exact⟨by omega,fun _=>h2.2 h1.2⟩
end
section
theorem UY {ns:List Nd}:∀(f k i:Nat),i∈pre ns f k→i≠k→∃n,ns[i]?=some n∧n.linked=true∧n.parent.toNat∈pre ns f k∧0≤n.parent∨False
 | 0,k,i,h,_=>by simp[pre]at h
 | f+1,k,i,h,hik=>by
  have h':=h
  simp only[pre,List.mem_cons,List.mem_flatMap]at h
  rcases h with h | ⟨j,hj,hi⟩
  ·exact absurd h hik
  ·by_cases e:i=j
   ·subst e
    obtain⟨n,h1,h2,h3⟩:=xS.1 hj
    exact⟨n,.inl ⟨h1,h2,by rw[h3];simp[pre],by omega⟩⟩
   ·obtain⟨n,h1⟩:=UY f j i hi e
    rcases h1 with⟨h1,h2,h3,h4⟩ | h1
    ·refine⟨n,.inl ⟨h1,h2,?_,h4⟩⟩
     simp only[pre,List.mem_cons,List.mem_flatMap]
     exact .inr ⟨j,hj,h3⟩
    ·exact h1.elim
theorem XM {ns:List Nd}(ht:TreeOk ns){k j1 j2:Nat}(h1:j1∈zI ns (k:Int))(h2:j2∈zI ns (k:Int))(hlt:j1<j2)(f g:Nat):∀i,i∈pre ns f j1→i∈pre ns g j2→False:=by
 intro i
 induction i using Nat.strongRecOn with
 | ind i ih =>
  intro hi1 hi2
  have hg:=(vW ht _ _ _ hi2).1
  obtain⟨n,hn⟩:=UY f j1 i hi1 (by omega)
  rcases hn with⟨n1,n2,n3,n4⟩ | hn
  case inr=>exact hn
  by_cases e:i=j2
  ·subst e
   obtain⟨m,m1,m2,m3⟩:=xS.1 h2
   rw[n1]at m1;cases m1
   rw[m3]at n3
   have:=(vW ht _ _ _ n3).1
   have:=xh ht h1
   simp at *
   omega
  ·obtain⟨m,hm⟩:=UY g j2 i hi2 e
   rcases hm with⟨m1,m2,m3,m4⟩ | hm
   case inr=>exact hm
   rw[n1]at m1;cases m1
   have:=ht.par i n n1 n2
   exact ih n.parent.toNat (by omega) n3 m3
theorem xY {ns:List Nd}(ht:TreeOk ns):∀(f k:Nat),(pre ns f k).Nodup
 | 0,_=>by simp[pre]
 | f+1,k=>by
  simp only[pre,List.nodup_cons]
  refine⟨?_,?_⟩
  ·intro h
   obtain⟨j,hj,hk⟩:=List.mem_flatMap.1 h
   have h1:=xh ht hj
   have h2:=(vW ht _ _ _ hk).1
   omega
  ·unfold List.Nodup
   rw[List.pairwise_flatMap]
   refine⟨fun j hj=>xY ht f j,?_⟩
   have hs:(zI ns (k:Int)).Pairwise (fun a b=>a<b):=List.Pairwise.sublist List.filter_sublist List.pairwise_lt_range
   refine hs.imp_of_mem ?_
   intro a b ha hb hab x hx y hy e
   subst e
   exact XM ht ha hb hab _ _ x hx hy
theorem XQ:∀(n:Nat) (l:List Nat),l.Nodup→(∀x∈l,x<n)→l.length≤n
 | 0,l,_,h=>by
  cases l with
  | nil=>simp
  | cons a r=>have:=h a (by simp);omega
 | n+1,l,hn,h=>by
  have h1:(l.filter fun x=>decide (x≠n)).length≤n:=by
   refine XQ n _ (hn.sublist List.filter_sublist) ?_
   intro x hx
   simp at hx
   have:=h x hx.1
   omega
  have h2:l.length≤(l.filter fun x=>decide (x≠n)).length+1:=by
   by_cases hm:n∈l
   ·have:=List.nodup_iff_count.1 hn n
    have h3:(l.filter fun x=>decide (x≠n)).length+l.count n=l.length:=by
     rw[←List.countP_eq_length_filter,List.count_eq_countP]
     have:=List.length_eq_countP_add_countP (fun x=>decide (x≠n)) (l:=l)
     rw[this]
     congr 1
     apply List.countP_congr
     intro x _
     simp
    omega
   ·have:(l.filter fun x=>decide (x≠n))=l:=List.filter_eq_self.2 fun x hx=>by simp;rintro rfl;exact hm hx
    rw[this];omega
  omega
theorem zhx {ns:List Nd}(ht:TreeOk ns)(f:Nat){k:Nat}(hk:k<ns.length):(pre ns f k).length≤ns.length :=
 XQ _ _ (xY ht f k) fun x hx=>(vW ht _ _ _ hx).2 hk
def CX.endT (S:CX):Option Nat→CX×List Wk
 | none=>(S,[])
 | some a=>({ S with χ:=y9 S.χ a (S.χ a).endS.1 },(S.χ a).endS.2)
def CX.stopT (S:CX)(id:Int):CX:=match S.σ.t with
 | none=>S
 | some _=>match S.τ.one id with
  | none=>S
  | some _=>{ S with τ:={ S.τ with x:=S.τ.x.stop id } }
def z9 (err cause:Int)(acc:Zq)(node:Nat):Zq :=
 let w:=(acc.1.σ.who node).getD 0
 if w<0 then match acc.1.σ.afts[(-w-1).toNat]? with
  | some x=>({ acc.1 with σ:={ acc.1.σ with afts:=acc.1.σ.afts.set (-w-1).toNat { x with over:=true } } },acc.2.1,acc.2.2++[(-w-1,x.prog)])
  | none=>acc
 else match acc.1.σ.ones[w.toNat]? with
  | some x =>
   let r:=(acc.1.setOne w.toNat { x with err:=err,cause:=cause }).endT x.c
   (r.1.stopT x.timer,acc.2.1++[⟨w,err,cause,r.2⟩],acc.2.2)
  | none=>acc
theorem ze8 (S:CX)(a:Option Nat)(ns:List Nd):(S.setTree ns).endT a=((S.endT a).1.setTree ns,(S.endT a).2):=by cases a<;>rfl
theorem zcR (S:CX)(id:Int)(ns:List Nd):(S.setTree ns).stopT id=(S.stopT id).setTree ns:=by
 have e1:(S.setTree ns).σ.t=S.σ.t:=rfl
 have e2:(S.setTree ns).τ=S.τ:=rfl
 unfold CX.stopT
 rw[e1,e2]
 cases S.σ.t with
 | none=>rfl
 | some s=>simp only[];cases S.τ.one id<;>rfl
theorem zeP (err cause:Int)(S:CX)(out:List Lap)(sts:List (Int×Int))(node:Nat)(ns:List Nd) :
  z9 err cause (S.setTree ns,out,sts) node=((z9 err cause (S,out,sts) node).1.setTree ns,(z9 err cause (S,out,sts) node).2):=by
 have e1:(S.setTree ns).σ.who=S.σ.who:=rfl
 have e2:(S.setTree ns).σ.afts=S.σ.afts:=rfl
 have e3:(S.setTree ns).σ.ones=S.σ.ones:=rfl
 unfold z9
 simp only[e1,e2,e3]
 split
 ·split<;>rfl
 ·split
  ·rename_i x hx
   have e4:∀i o,(S.setTree ns).setOne i o=(S.setOne i o).setTree ns:=fun _ _=>rfl
   rw[e4,ze8]
   simp only[zcR]
  ·rfl
theorem XZ (err cause:Int)(ns:List Nd):∀(l:List Nat) (S:CX) (out:List Lap) (sts:List (Int×Int)),l.foldl (z9 err cause) (S.setTree ns,out,sts)=((l.foldl (z9 err cause) (S,out,sts)).1.setTree ns,(l.foldl (z9 err cause) (S,out,sts)).2)
 | [],_,_,_=>rfl
 | a::r,S,out,sts=>by
  simp only[List.foldl_cons]
  rw[zeP]
  generalize z9 err cause (S,out,sts) a=x
  obtain⟨x1,x2,x3⟩:=x
  exact XZ err cause ns r x1 x2 x3
theorem zgf (err cause:Int)(S:CX)(out:List Lap)(sts:List (Int×Int))(node:Nat) :
  z9 err cause (S,out,sts) node=((z9 err cause (S,[],[]) node).1,out++(z9 err cause (S,[],[]) node).2.1,sts++(z9 err cause (S,[],[]) node).2.2):=by
 unfold z9
 simp only
 split
 ·split<;>simp
 ·split<;>simp
theorem V5 (err cause:Int):∀(l:List Nat) (S:CX) (out:List Lap) (sts:List (Int×Int)),l.foldl (z9 err cause) (S,out,sts)=((l.foldl (z9 err cause) (S,[],[])).1,out++(l.foldl (z9 err cause) (S,[],[])).2.1,sts++(l.foldl (z9 err cause) (S,[],[])).2.2)
 | [],_,_,_=>by simp
 | a::r,S,out,sts=>by
  simp only[List.foldl_cons]
  rw[zgf]
  generalize z9 err cause (S,[],[]) a=x
  obtain⟨x1,x2,x3⟩:=x
  simp only
  rw[V5 err cause r x1 (out++x2),V5 err cause r x1 x2]
  simp
def y8 (T:List Nd)(S:CX)(i:Nat):Prop :=
 (∃(w:Nat) (x:One),S.σ.who i=some (w:Int)∧S.σ.ones[w]?=some x∧x.node=i∧x.free=false∧x.err=0∧(∀a,x.c=some a→(S.χ a).recvs.length+(S.χ a).sends.length≤1000000)∧(∀s o,S.σ.t=some s→S.τ.one x.timer=some o→o.c=none)) ∨
 (∃(k:Nat) (x:Aft),S.σ.who i=some (-(k:Int)-1)∧k≤1000∧S.σ.afts[k]?=some x∧x.node=i∧zI T (i:Int)=[])
theorem zfX (id:Int)(l:List It):(yS id l).length≤l.length:=List.length_filter_le _ _
theorem zd5 (S:CX)(id:Int):(S.stopT id).τ.x.l.length≤S.τ.x.l.length:=by
 unfold CX.stopT
 cases S.σ.t with
 | none=>exact Nat.le_refl _
 | some s =>
  simp only[]
  cases S.τ.one id with
  | none=>exact Nat.le_refl _
  | some o=>exact zfX _ _
theorem xO (S:CX)(id:Int):(S.stopT id).σ=S.σ∧(S.stopT id).χ=S.χ∧(S.stopT id).τ.ones=S.τ.ones:=by
 unfold CX.stopT
 cases S.σ.t with
 | none=>exact⟨rfl,rfl,rfl⟩
 | some s =>
  simp only[]
  cases S.τ.one id<;>exact⟨rfl,rfl,rfl⟩
theorem wj (S:CX)(a:Option Nat):(S.endT a).1.σ=S.σ∧(S.endT a).1.τ=S.τ∧∀b n,(S.χ b).recvs.length+(S.χ b).sends.length≤n→((S.endT a).1.χ b).recvs.length+((S.endT a).1.χ b).sends.length≤n:=by
 cases a with
 | none=>exact⟨rfl,rfl,fun _ _ h=>h⟩
 | some a =>
  refine⟨rfl,rfl,fun b n h=>?_⟩
  simp only[CX.endT,y9]
  split
  ·rename_i e;subst e
   unfold Ch.endS
   split
   ·simp[Ch.ended]
   ·exact h
  ·exact h
theorem wi (err cause:Int)(acc:Zq)(i:Nat):(z9 err cause acc i).1.σ.who=acc.1.σ.who∧(z9 err cause acc i).1.σ.tree=acc.1.σ.tree∧(z9 err cause acc i).1.σ.t=acc.1.σ.t∧(z9 err cause acc i).1.τ.ones=acc.1.τ.ones∧(z9 err cause acc i).1.τ.x.l.length≤acc.1.τ.x.l.length ∧
  (∀b n,(acc.1.χ b).recvs.length+(acc.1.χ b).sends.length≤n→((z9 err cause acc i).1.χ b).recvs.length+((z9 err cause acc i).1.χ b).sends.length≤n)∧(z9 err cause acc i).2.1.length≤acc.2.1.length+1∧(z9 err cause acc i).2.2.length≤acc.2.2.length+1:=by
 unfold z9
 simp only
 split
 ·split<;>simp
 ·split
  ·rename_i x hx
   have h1:=xO ((acc.1.setOne ((acc.1.σ.who i).getD 0).toNat { x with err:=err,cause:=cause }).endT x.c).1 x.timer
   have h2:=wj (acc.1.setOne ((acc.1.σ.who i).getD 0).toNat { x with err:=err,cause:=cause }) x.c
   have h3:=zd5 ((acc.1.setOne ((acc.1.σ.who i).getD 0).toNat { x with err:=err,cause:=cause }).endT x.c).1 x.timer
   simp only
   rw[h1.1,h1.2.1,h1.2.2,h2.1]
   rw[h2.2.1]at h3
   refine⟨rfl,rfl,rfl,by rw[h2.2.1];rfl,h3,?_,by simp,by simp⟩
   intro b n hb
   exact h2.2.2 b n hb
  ·simp
theorem zgO {τ τ':Tms}(h:τ'.ones=τ.ones)(id:Int):τ'.one id=τ.one id:=by
 unfold Tms.one Tms.has;rw[h]
theorem y8.hit {T:List Nd}{acc:Zq}{i j:Nat}(err cause:Int)(h:y8 T acc.1 i)(hj:y8 T acc.1 j)(hij:i≠j):y8 T (z9 err cause acc j).1 i:=by
 have hk:=wi err cause acc j
 have hones:∀(w:Nat) (x:One),acc.1.σ.ones[w]?=some x→x.node=i→(z9 err cause acc j).1.σ.ones[w]?=some x:=by
  intro w x hx hn
  unfold z9
  simp only
  split
  ·split<;>exact hx
  ·rename_i hneg
   split
   ·rename_i y hy
    simp only
    rw[(xO _ _).1,(wj _ _).1]
    show (acc.1.σ.ones.set _ _)[w]?=_
    rw[List.getElem?_set_ne]
    ·exact hx
    ·intro e
     rcases hj with⟨w2,y2,q1,q2,q3,_⟩ | ⟨k2,y2,q1,_⟩
     ·rw[q1]at e hy
      simp at e hy
      rw[q2]at hy;cases hy
      subst e
      rw[q2]at hx;cases hx
      omega
     ·rw[q1]at hneg;simp at hneg;omega
   ·exact hx
 have hafts:∀(k:Nat) (x:Aft),acc.1.σ.afts[k]?=some x→x.node=i→(z9 err cause acc j).1.σ.afts[k]?=some x:=by
  intro w x hx hn
  unfold z9
  simp only
  split
  ·rename_i hneg
   split
   ·rename_i y hy
    show (acc.1.σ.afts.set _ _)[w]?=_
    rw[List.getElem?_set_ne]
    ·exact hx
    ·intro e
     rcases hj with⟨w2,y2,q1,_⟩ | ⟨k2,y2,q1,q5,q2,q3,_⟩
     ·rw[q1]at hneg;simp at hneg;omega
     ·rw[q1]at e hy
      have e2:(-(-(k2:Int)-1)-1).toNat=k2:=by omega
      simp only[Option.getD_some,e2]at e hy
      rw[q2]at hy;cases hy
      subst e
      rw[q2]at hx;cases hx
      omega
   ·exact hx
  ·split
   ·simp only
    rw[(xO _ _).1,(wj _ _).1]
    exact hx
   ·exact hx
 rcases h with⟨w,x,h1,h2,h3,h4,h5,h6,h7⟩ | ⟨k,x,h1,h2,h3,h4,h5⟩
 ·exact .inl ⟨w,x,by rw[hk.1];exact h1,hones w x h2 h3,h3,h4,h5,fun a ha=>hk.2.2.2.2.2.1 a _ (h6 a ha),fun s o hs ho=>h7 s o (by rw[←hk.2.2.1];exact hs) (by rw[←zgO hk.2.2.2.1];exact ho)⟩
 ·exact .inr ⟨k,x,by rw[hk.1];exact h1,h2,hafts k x h3 h4,h4,h5⟩
theorem y8.tree {T:List Nd}{S:CX}{i:Nat}(h:y8 T S i)(ns:List Nd):y8 T (S.setTree ns) i:=h
theorem Zc {T:List Nd}(err cause:Int):∀(l:List Nat) (acc:Zq),(∀i∈l,y8 T acc.1 i)→l.Nodup→let r:=l.foldl (z9 err cause) acc
  r.1.σ.who=acc.1.σ.who∧r.1.σ.tree=acc.1.σ.tree∧r.1.τ.x.l.length≤acc.1.τ.x.l.length∧r.2.1.length≤acc.2.1.length+l.length∧r.2.2.length≤acc.2.2.length+l.length∧∀i,y8 T acc.1 i→i∉l→y8 T r.1 i
 | [],acc,_,_=>by simp
 | a::r,acc,h,hn=>by
  have hk:=wi err cause acc a
  have ha:=h a (by simp)
  have hn':=List.nodup_cons.1 hn
  obtain⟨i1,i2,i3,i4,i5,i6⟩:=Zc err cause r (z9 err cause acc a) (fun i hi=>(h i (by simp[hi])).hit err cause ha (by rintro rfl;exact hn'.1 hi)) hn'.2
  simp only[List.foldl_cons,List.length_cons]
  refine⟨i1.trans hk.1,i2.trans hk.2.1,Nat.le_trans i3 hk.2.2.2.2.1,by have:=hk.2.2.2.2.2.2.1;omega,by have:=hk.2.2.2.2.2.2.2;omega,?_⟩
  intro i hi hil
  simp at hil
  exact i6 i (hi.hit err cause ha hil.1) hil.2
end
section
def walked (T:List Nd)(err cause:Int)(A:Nat→Bool)(l:List Nat)(acc:Zq):Zq :=
 ((l.foldl (z9 err cause) acc).1.setTree (ye T fun i=>A i||decide (i∈l)),(l.foldl (z9 err cause) acc).2)
def VB (T:List Nd)(n:Nat):Prop:=∀(k:Nat) (A:Nat→Bool) (S:CX) (id:Nat) (err cause:Int),T.length<k+n→k<T.length→S.σ.tree=ye T A→(∀i∈pre T n k,A i=false)→(∀i∈pre T n k,y8 T S i)→S.σ.who k=some (id:Int)→S.τ.x.l.length≤1000000 →
 S.cancelP n id err cause=some (walked T err cause A (pre T n k) (S,[],[]))
theorem Xy {T:List Nd}(ht:TreeOk T){S:CX}{A:Nat→Bool}{j k:Nat}{x:Aft}(hS:S.σ.tree=ye T A)(hj:j<T.length)(h1:S.σ.who j=some (-(k:Int)-1))(h3:S.σ.afts[k]?=some x)(h4:x.node=j)(err cause:Int)(out:List Lap)(sts:List (Int×Int)) :
  ∃σ',S.σ.startP k=some (σ',((k:Int),x.prog))∧({ S with σ:=σ' }:CX)=(z9 err cause (S,out,sts) j).1.setTree (ye T fun i=>A i||decide (i=j))∧(z9 err cause (S,out,sts) j).2=(out,sts++[((k:Int),x.prog)]):=by
 have hdet:=Ua (ht.kill A) (i:=j) (by rw[yC];exact hj)
 rw[ZM]at hdet
 have hneg:(-(k:Int)-1)<0:=by omega
 have hk:(-(-(k:Int)-1)-1)=(k:Int):=by omega
 refine⟨{ S.σ with afts:=S.σ.afts.set k { x with over:=true },tree:=ye T fun i=>A i||decide (i=j) },?_,?_,?_⟩
 ·unfold Cs.startP
  rw[if_pos (by omega)]
  simp only[Int.toNat_natCast,h3,h4,hS,hdet]
 ·unfold z9
  simp only[h1,Option.getD_some,hneg,if_true,hk,Int.toNat_natCast,h3]
  rfl
 ·unfold z9
  simp only[h1,Option.getD_some,hneg,if_true,hk,Int.toNat_natCast,h3]
theorem U7 {T:List Nd}(ht:TreeOk T){n:Nat}(ih:VB T n)(err cause:Int)(k:Nat):∀(js:List Nat) (S:CX) (A:Nat→Bool) (out:List Lap) (sts:List (Int×Int)),js.Pairwise (fun a b=>a<b)→(∀j∈js,j∈zI T (k:Int))→T.length<k+n+1→S.σ.tree=ye T A→(∀j∈js,∀i∈pre T n j,A i=false)→(∀j∈js,∀i∈pre T n j,y8 T S i)→S.τ.x.l.length≤1000000 →
  out.length+js.length * T.length≤1000000→sts.length+js.length * T.length≤1000000 →
  (js.map fun (i:Nat)=>(i:Int)).foldlM (UL (CX.cancelP n) err cause) (S,out,sts)=some (walked T err cause A (js.flatMap (pre T n)) (S,out,sts))
 | [],S,A,out,sts,_,_,_,hS,_,_,_,_,_=>by
  simp only[List.map_nil,List.foldlM_nil,List.flatMap_nil,walked,List.foldl_nil]
  have:(ye T fun i=>A i||decide (i∈([]:List Nat)))=S.σ.tree:=by rw[hS];congr 1;funext i;simp
  rw[this];rfl
 | j::r,S,A,out,sts,hp,hk,hn,hS,hA,hL,hτ,ho,hs=>by
  have hjk:=xh ht (hk j (by simp))
  have hpw:=List.pairwise_cons.1 hp
  have hlenj:(pre T n j).length≤T.length:=zhx ht n hjk.2
  have hn0:n≠0:=by rintro rfl;omega
  have hLj:=hL j (by simp)
  have hAj:=hA j (by simp)
  have hself:j∈pre T n j:=by cases n with | zero=>exact absurd rfl hn0 | succ m=>simp[pre]
  simp only[List.length_cons,Nat.add_mul,Nat.one_mul]at ho hs
  simp only[List.map_cons,List.foldlM_cons]
  -- one step is the walk below j
  have key:UL (CX.cancelP n) err cause (S,out,sts) j=some (walked T err cause A (pre T n j) (S,out,sts)):=by
   rcases hLj j hself with⟨w,x,h1,h2,h3,h4,h5,h6,h7⟩ | ⟨q,x,h1,h2,h3,h4,h5⟩
   ·have hc:=ih j A S w err cause (by omega) hjk.2 hS hAj hLj h1 hτ
    have hnn:¬((w:Int)<0):=by omega
    unfold UL
    simp only[h1,Option.getD_some,hnn,if_false,hc,walked]
    have hkeep:=Zc err cause (pre T n j) (S,[],[]) hLj (xY ht n j)
    simp only[List.length_nil,Nat.zero_add]at hkeep
    obtain⟨_,_,_,b4,b5,_⟩:=hkeep
    rw[if_pos ⟨Nat.le_trans (Nat.add_le_add_left b4 _) (by omega),Nat.le_trans (Nat.add_le_add_left b5 _) (by omega)⟩]
    rw[V5 err cause (pre T n j) S out sts]
   ·obtain⟨σ',e1,e2,e3⟩:=Xy ht (S:=S) (A:=A) hS hjk.2 h1 h3 h4 err cause out sts
    have hneg:(-(q:Int)-1)<0:=by omega
    have hkk:(-(-(q:Int)-1)-1)=(q:Int):=by omega
    have hpj:pre T n j=[j]:=by
     cases n with
     | zero=>exact absurd rfl hn0
     | succ m=>simp[pre,h5]
    unfold UL
    simp only[h1,Option.getD_some,hneg,if_true,hkk,e1]
    rw[if_pos ⟨by omega,by omega⟩]
    simp only[walked,hpj,List.foldl_cons,List.foldl_nil,List.mem_singleton]
    rw[e2,e3]
  rw[key]
  show List.foldlM _ _ _=_
  have hkeep:=Zc err cause (pre T n j) (S,out,sts) hLj (xY ht n j)
  simp only at hkeep
  obtain⟨k1,k2,k3,k4,k5,k6⟩:=hkeep
  have hap:∀j'∈r,∀i∈pre T n j',i∉pre T n j:=fun j' hj' i hi h9=>XM ht (hk j (by simp)) (hk j' (by simp[hj'])) (hpw.1 j' hj') n n i h9 hi
  generalize hX:(pre T n j).foldl (z9 err cause) (S,out,sts)=X at k1 k2 k3 k4 k5 k6
  have hw:walked T err cause A (pre T n j) (S,out,sts)=(X.1.setTree (ye T fun i=>A i||decide (i∈pre T n j)),X.2.1,X.2.2):=by simp only[walked,hX]
  rw[hw]
  rw[U7 ht ih err cause k r (X.1.setTree (ye T fun i=>A i||decide (i∈pre T n j))) (fun i=>A i||decide (i∈pre T n j)) X.2.1 X.2.2 hpw.2 (fun j' hj'=>hk j' (by simp[hj'])) hn rfl ?_ ?_ ?_ ?_ ?_]
  ·simp only[walked,List.flatMap_cons,List.foldl_append,hX]
   rw[XZ]
   obtain⟨X1,X2,X3⟩:=X
   simp only
   have hA3:(fun i=>A i||decide (i∈pre T n j)||decide (i∈r.flatMap (pre T n)))=fun i=>A i||decide (i∈pre T n j++r.flatMap (pre T n)):=by
    funext i;simp[Bool.or_assoc]
   rw[hA3]
   rfl
  ·intro j' hj' i hi
   have h1:=hA j' (by simp[hj']) i hi
   have h2:=hap j' hj' i hi
   simp[h1,h2]
  ·intro j' hj' i hi
   exact (k6 i (hL j' (by simp[hj']) i hi) (hap j' hj' i hi)).tree _
  ·exact Nat.le_trans k3 hτ
  ·omega
  ·omega
theorem Wl {T:List Nd}(ht:TreeOk T):∀n,VB T n
 | 0=>by intro k A S id err cause h1 h2;omega
 | n+1=>by
  intro k A S id err cause h1 h2 hS hA hL hw hτ
  have ih:=Wl ht n
  have hself:k∈pre T (n+1) k:=by simp[pre]
  have hkid:∀j∈zI T (k:Int),∀i∈pre T n j,i∈pre T (n+1) k∧i≠k:=fun j hj i hi=>by
   have h3:=xh ht hj
   have h4:=(vW ht _ _ _ hi).1
   refine⟨?_,by omega⟩
   simp only[pre,List.mem_cons,List.mem_flatMap]
   exact .inr ⟨j,hj,hi⟩
  rcases hL k hself with⟨w,x,q1,q2,q3,q4,q5,q6,q7⟩ | ⟨q,x,q1,_⟩
  case inr=>rw[hw]at q1;simp at q1;omega
  rw[hw]at q1
  have hwi:w=id:=by simp at q1;omega
  subst hwi
  unfold CX.cancelP
  rw[if_pos (by omega)]
  simp only[Int.toNat_natCast,q2]
  rw[if_neg (by simp[q4,q5])]
  have hend:(S.setOne w { x with err:=err,cause:=cause }).endP x.c=some ((S.setOne w { x with err:=err,cause:=cause }).endT x.c):=by
   unfold CX.endP CX.endT
   cases hc:x.c with
   | none=>rfl
   | some a=>exact if_pos (q6 a hc)
  rw[hend]
  generalize hS1:(S.setOne w { x with err:=err,cause:=cause }).endT x.c=S1
  have hf1:=wj (S.setOne w { x with err:=err,cause:=cause }) x.c
  rw[hS1]at hf1
  obtain⟨S1,ws⟩:=S1
  simp only at hf1 ⊢
  have hstop:S1.stopP x.timer=some (S1.stopT x.timer):=by
   have e1:S1.σ.t=S.σ.t:=by rw[hf1.1];rfl
   have e2:S1.τ=S.τ:=by rw[hf1.2.1];rfl
   unfold CX.stopP CX.stopT
   rw[e1,e2]
   cases hs:S.σ.t with
   | none=>rfl
   | some s =>
    simp only[]
    cases ho:S.τ.one x.timer with
    | none=>rfl
    | some o=>exact if_pos ⟨q7 s o hs ho,hτ⟩
  rw[hstop]
  have hhit:z9 err cause (S,[],[]) k=(S1.stopT x.timer,[⟨w,err,cause,ws⟩],[]):=by
   have hnn:¬((w:Int)<0):=by omega
   unfold z9
   simp only[hw,Option.getD_some,hnn,if_false,Int.toNat_natCast,q2,hS1,List.nil_append]
  generalize hS2:S1.stopT x.timer=S2 at hhit
  have htree2:S2.σ.tree=ye T A:=by
   have:=wi err cause (S,[],[]) k
   rw[hhit]at this
   exact this.2.1.trans hS
  have hτ2:S2.τ.x.l.length≤1000000:=by
   have:=wi err cause (S,[],[]) k
   rw[hhit]at this
   exact Nat.le_trans this.2.2.2.2.1 hτ
  have hkf:(zI T (k:Int)).filter (fun i=>!A i)=zI T (k:Int):=by
   apply List.filter_eq_self.2
   intro j hj
   have hn0:n≠0:=by rintro rfl;have:=xh ht hj;omega
   have:=hA j ((hkid j hj j (by cases n with | zero=>exact absurd rfl hn0 | succ m=>simp[pre])).1)
   simp[this]
  have hkids:kidsT S2.σ.tree x.node=(zI T (k:Int)).map fun (i:Nat)=>(i:Int):=by
   rw[htree2,q3,(ht.kill A).kidsT (by rw[yC];exact h2),wQ,hkf]
  have hlenk:(zI T (k:Int)).length≤1000:=Nat.le_trans (vA _ _) ht.len
  have hTl:=ht.len
  simp only
  rw[hkids,if_pos ⟨by rw[htree2];exact (ht.kill A).kok,by simp;omega⟩]
  have hpw:(zI T (k:Int)).Pairwise (fun a b=>a<b):=List.Pairwise.sublist List.filter_sublist List.pairwise_lt_range
  have hmul:(zI T (k:Int)).length * T.length≤999000:=by
   rcases Nat.eq_zero_or_pos (zI T (k:Int)).length with h | h
   ·rw[h];omega
   ·have a1:(zI T (k:Int)).length≤999:=by
     have h5:∀i∈zI T (k:Int),i≠k∧i<T.length:=fun i hi=>by have:=xh ht hi;omega
     have h6:(k::zI T (k:Int)).length≤T.length:=XQ _ _ (List.nodup_cons.2 ⟨fun h=>(h5 k h).1 rfl,YZ _ _⟩) (fun i hi=>by
      rcases List.mem_cons.1 hi with rfl | hi
      ·exact h2
      ·exact (h5 i hi).2)
     simp at h6;omega
    exact Nat.le_trans (Nat.mul_le_mul a1 hTl) (by omega)
  rw[U7 ht ih err cause k _ S2 A _ _ hpw (fun j hj=>hj) (by omega) htree2 (fun j hj i hi=>hA i (hkid j hj i hi).1) ?_ hτ2 (by simp;omega) (by simp;omega)]
  ·simp only[walked]
   have hX2:∀Z:CX,zfj (Z.setTree (ye T fun i=>A i||decide (i∈(zI T (k:Int)).flatMap (pre T n)))).σ.tree x.node=some (ye T fun i=>A i||decide (i∈pre T (n+1) k)):=by
    intro Z
    show zfj (ye T _) x.node=_
    rw[q3,Ua (ht.kill _) (by rw[yC];exact h2),ZM]
    congr 2
    funext i
    simp only[pre,List.mem_cons,List.mem_flatMap]
    by_cases hik:i=k<;>simp[hik]
   rw[hX2]
   simp only[pre,List.foldl_cons,hhit]
   rfl
  ·intro j hj i hi
   have h3:=hkid j hj i hi
   have:=(hL i h3.1).hit err cause (hL k hself) h3.2 (acc:=(S,[],[]))
   rw[hhit]at this
   exact this
end
section
structure WF (S:CX):Prop where
 tr:TreeOk S.σ.tree
 sz:S.σ.ones.length≤64∧S.σ.afts.length≤64
 len:S.σ.tree.length=S.σ.ones.length+S.σ.afts.length
 who1:∀(i:Nat) (x:One),S.σ.ones[i]?=some x→∃k:Nat,x.node=(k:Int)∧k<S.σ.tree.length∧S.σ.who k=some (i:Int)
 who2:∀(j:Nat) (x:Aft),S.σ.afts[j]?=some x→∃k:Nat,x.node=(k:Int)∧k<S.σ.tree.length∧S.σ.who k=some (-(j:Int)-1)∧zI S.σ.tree (k:Int)=[]
 cover:∀k:Nat,k<S.σ.tree.length→(∃(i:Nat) (x:One),S.σ.who k=some (i:Int)∧S.σ.ones[i]?=some x∧x.node=(k:Int))∨(∃(j:Nat) (x:Aft),S.σ.who k=some (-(j:Int)-1)∧S.σ.afts[j]?=some x∧x.node=(k:Int))
 live:∀(i k:Nat) (x:One) (n:Nd),S.σ.ones[i]?=some x→x.node=(k:Int)→S.σ.tree[k]?=some n→(n.linked=true↔x.free=false∧x.err=0)
 chs:∀x∈S.σ.ones,∀a,x.c=some a→(S.χ a).recvs.length+(S.χ a).sends.length≤1000000
 tms:∀x∈S.σ.ones,∀s o,S.σ.t=some s→S.τ.one x.timer=some o→o.c=none
 tlen:S.τ.x.l.length≤1000000
theorem WF.liveAt {S:CX}(h:WF S){i k:Nat}{x:One}(hx:S.σ.ones[i]?=some x)(hk:x.node=(k:Int))(hf:x.free=false)(he:x.err=0)(n:Nat):∀j∈pre S.σ.tree n k,y8 S.σ.tree S j:=by
 intro j hj
 have hk2:=h.who1 i x hx
 obtain⟨k',e1,e2,e3⟩:=hk2
 have:k'=k:=by omega
 subst this
 have hjl:=(vW h.tr _ _ _ hj).2 e2
 have hlk:j=k'∨∃m,S.σ.tree[j]?=some m∧m.linked=true:=by
  by_cases e:j=k'
  ·exact .inl e
  ·obtain⟨m,hm⟩:=UY n k' j hj e
   rcases hm with⟨h1,h2,_⟩ | hm
   ·exact .inr ⟨m,h1,h2⟩
   ·exact hm.elim
 rcases h.cover j hjl with⟨i2,x2,c1,c2,c3⟩ | ⟨j2,x2,c1,c2,c3⟩
 ·have hfe:x2.free=false∧x2.err=0:=by
   rcases hlk with rfl | ⟨m,m1,m2⟩
   ·rw[e3]at c1
    have:i=i2:=by simp at c1;omega
    subst this
    rw[hx]at c2;cases c2
    exact⟨hf,he⟩
   ·exact (h.live i2 j x2 m c2 c3 m1).1 m2
  have hmem:=List.mem_of_getElem? c2
  exact .inl ⟨i2,x2,c1,c2,c3,hfe.1,hfe.2,h.chs x2 hmem,h.tms x2 hmem⟩
 ·have hj2:j2<S.σ.afts.length:=(List.getElem?_eq_some_iff.1 c2).1
  obtain⟨k3,d1,d2,d3,d4⟩:=h.who2 j2 x2 c2
  have:k3=j:=by omega
  subst this
  exact .inr ⟨j2,x2,c1,by have:=h.sz.2;omega,c2,c3,d4⟩
theorem WF.cancelP {S:CX}(h:WF S){i k:Nat}{x:One}(hx:S.σ.ones[i]?=some x)(hk:x.node=(k:Int))(hf:x.free=false)(he:x.err=0)(err cause:Int) :
  S.cancelP 200 i err cause=some (walked S.σ.tree err cause (fun _=>false) (pre S.σ.tree 200 k) (S,[],[])):=by
 obtain⟨k',e1,e2,e3⟩:=h.who1 i x hx
 have:k'=k:=by omega
 subst this
 have:=h.len
 have:=h.sz
 exact Wl h.tr 200 k' _ S i err cause (by omega) e2 (Zu _ (fun _=>rfl)).symm (fun _ _=>rfl) (h.liveAt hx hk hf he 200) e3 h.tlen
theorem yK {S:CX}{i:Nat}{x:One}(hx:S.σ.ones[i]?=some x)(he:x.free=true∨x.err≠0)(n:Nat)(err cause:Int):S.cancelP (n+1) i err cause=some (S,[],[]):=by
 unfold CX.cancelP
 rw[if_pos (by omega)]
 simp only[Int.toNat_natCast,hx]
 rw[if_pos he]
structure Whos (S:CX):Prop where
 w1:∀(i:Nat) (x:One),S.σ.ones[i]?=some x→∃k:Nat,x.node=(k:Int)∧S.σ.who k=some (i:Int)
 w2:∀(j:Nat) (x:Aft),S.σ.afts[j]?=some x→∃k:Nat,x.node=(k:Int)∧S.σ.who k=some (-(j:Int)-1)
theorem WF.whos {S:CX}(h:WF S):Whos S:=⟨fun i x hx=>by obtain⟨k,h1,_,h3⟩:=h.who1 i x hx;exact⟨k,h1,h3⟩,fun i x hx=>by obtain⟨k,h1,_,h3,_⟩:=h.who2 i x hx;exact⟨k,h1,h3⟩⟩
def inL (l:List Nat)(n:Int):Bool:=l.any fun i=>decide (n=(i:Int))
theorem zac (err cause:Int){acc:Zq}{j:Nat}{T:List Nd}(hw:Whos acc.1)(hj:y8 T acc.1 j) :
  (∀w:Nat,(z9 err cause acc j).1.σ.ones[w]?=(acc.1.σ.ones[w]?).map fun (x:One)=>if x.node=(j:Int)then { x with err:=err,cause:=cause }else x) ∧
  (∀w:Nat,(z9 err cause acc j).1.σ.afts[w]?=(acc.1.σ.afts[w]?).map fun (x:Aft)=>if x.node=(j:Int)then { x with over:=true }else x):=by
 rcases hj with⟨w0,x0,q1,q2,q3,_⟩ | ⟨k0,x0,q1,q5,q2,q3,_⟩
 ·have hnn:¬((w0:Int)<0):=by omega
  have e:z9 err cause acc j=((((acc.1.setOne w0 { x0 with err:=err,cause:=cause }).endT x0.c).1.stopT x0.timer),acc.2.1++[⟨w0,err,cause,((acc.1.setOne w0 { x0 with err:=err,cause:=cause }).endT x0.c).2⟩],acc.2.2):=by
   unfold z9
   simp only[q1,Option.getD_some,hnn,if_false,Int.toNat_natCast,q2]
  rw[e]
  simp only
  rw[(xO _ _).1,(wj _ _).1]
  refine⟨fun w=>?_,fun w=>?_⟩
  ·show (acc.1.σ.ones.set w0 _)[w]?=_
   by_cases hww:w0=w
   ·subst hww
    have hl:w0<acc.1.σ.ones.length:=(List.getElem?_eq_some_iff.1 q2).1
    rw[List.getElem?_set_self hl,q2];simp[q3]
   ·rw[List.getElem?_set_ne hww]
    cases hx:acc.1.σ.ones[w]? with
    | none=>rfl
    | some y =>
     have:y.node≠(j:Int):=by
      intro h9
      obtain⟨k,h1,h2⟩:=hw.w1 w y hx
      have:k=j:=by omega
      subst this
      rw[q1]at h2;simp at h2;omega
     simp[this]
  ·show acc.1.σ.afts[w]?=_
   cases hx:acc.1.σ.afts[w]? with
   | none=>rfl
   | some y =>
    have:y.node≠(j:Int):=by
     intro h9
     obtain⟨k,h1,h2⟩:=hw.w2 w y hx
     have:k=j:=by omega
     subst this
     rw[q1]at h2;simp at h2;omega
    simp[this]
 ·have hneg:(-(k0:Int)-1)<0:=by omega
  have hk:(-(-(k0:Int)-1)-1)=(k0:Int):=by omega
  have e:z9 err cause acc j=({ acc.1 with σ:={ acc.1.σ with afts:=acc.1.σ.afts.set k0 { x0 with over:=true } } },acc.2.1,acc.2.2++[((k0:Int),x0.prog)]):=by
   unfold z9
   simp only[q1,Option.getD_some,hneg,if_true,hk,Int.toNat_natCast,q2]
  rw[e]
  refine⟨fun w=>?_,fun w=>?_⟩
  ·show acc.1.σ.ones[w]?=_
   cases hx:acc.1.σ.ones[w]? with
   | none=>rfl
   | some y =>
    have:y.node≠(j:Int):=by
     intro h9
     obtain⟨k,h1,h2⟩:=hw.w1 w y hx
     have:k=j:=by omega
     subst this
     rw[q1]at h2;simp at h2;omega
    simp[this]
  ·show (acc.1.σ.afts.set k0 _)[w]?=_
   by_cases hww:k0=w
   ·subst hww
    have hl:k0<acc.1.σ.afts.length:=(List.getElem?_eq_some_iff.1 q2).1
    rw[List.getElem?_set_self hl,q2];simp[q3]
   ·rw[List.getElem?_set_ne hww]
    cases hx:acc.1.σ.afts[w]? with
    | none=>rfl
    | some y =>
     have:y.node≠(j:Int):=by
      intro h9
      obtain⟨k,h1,h2⟩:=hw.w2 w y hx
      have:k=j:=by omega
      subst this
      rw[q1]at h2;simp at h2;omega
     simp[this]
theorem Whos.hit {T:List Nd}(err cause:Int){acc:Zq}{j:Nat}(hw:Whos acc.1)(hj:y8 T acc.1 j):Whos (z9 err cause acc j).1:=by
 have hk:=wi err cause acc j
 obtain⟨h1,h2⟩:=zac err cause hw hj
 refine⟨fun i x hx=>?_,fun i x hx=>?_⟩
 ·rw[h1]at hx
  cases e:acc.1.σ.ones[i]? with
  | none=>rw[e]at hx;cases hx
  | some y =>
   rw[e]at hx
   obtain⟨k,k1,k2⟩:=hw.w1 i y e
   simp at hx;subst hx
   exact⟨k,by split<;>exact k1,by rw[hk.1];exact k2⟩
 ·rw[h2]at hx
  cases e:acc.1.σ.afts[i]? with
  | none=>rw[e]at hx;cases hx
  | some y =>
   rw[e]at hx
   obtain⟨k,k1,k2⟩:=hw.w2 i y e
   simp at hx;subst hx
   exact⟨k,by split<;>exact k1,by rw[hk.1];exact k2⟩
theorem zaa {T:List Nd}(err cause:Int):∀(l:List Nat) (acc:Zq),Whos acc.1→(∀i∈l,y8 T acc.1 i)→l.Nodup →
  (∀w:Nat,(l.foldl (z9 err cause) acc).1.σ.ones[w]?=(acc.1.σ.ones[w]?).map fun (x:One)=>if inL l x.node=true then { x with err:=err,cause:=cause }else x) ∧
  (∀w:Nat,(l.foldl (z9 err cause) acc).1.σ.afts[w]?=(acc.1.σ.afts[w]?).map fun (x:Aft)=>if inL l x.node=true then { x with over:=true }else x) ∧
  (l.foldl (z9 err cause) acc).1.σ.t=acc.1.σ.t∧(l.foldl (z9 err cause) acc).1.τ.ones=acc.1.τ.ones ∧
  (∀b n,(acc.1.χ b).recvs.length+(acc.1.χ b).sends.length≤n→((l.foldl (z9 err cause) acc).1.χ b).recvs.length+((l.foldl (z9 err cause) acc).1.χ b).sends.length≤n)
 | [],acc,_,_,_=>by simp[inL]
 | a::r,acc,hw,h,hn=>by
  have ha:=h a (by simp)
  have hn':=List.nodup_cons.1 hn
  have hk:=wi err cause acc a
  obtain⟨o1,o2⟩:=zac err cause hw ha
  obtain⟨i1,i2,i3,i4,i5⟩:=zaa (T:=T) err cause r (z9 err cause acc a) (hw.hit err cause ha) (fun i hi=>(h i (by simp[hi])).hit err cause ha (by rintro rfl;exact hn'.1 hi)) hn'.2
  simp only[List.foldl_cons]
  refine⟨fun w=>?_,fun w=>?_,i3.trans hk.2.2.1,i4.trans hk.2.2.2.1,fun b n hb=>i5 b n (hk.2.2.2.2.2.1 b n hb)⟩
  ·rw[i1,o1]
   cases acc.1.σ.ones[w]? with
   | none=>rfl
   | some x =>
    simp only[Option.map_some,inL,List.any_cons]
    by_cases e:x.node=(a:Int)
    ·simp only[e,if_true,decide_true,Bool.true_or]
     split<;>rfl
    ·simp[e]
  ·rw[i2,o2]
   cases acc.1.σ.afts[w]? with
   | none=>rfl
   | some x =>
    simp only[Option.map_some,inL,List.any_cons]
    by_cases e:x.node=(a:Int)
    ·simp only[e,if_true,decide_true,Bool.true_or]
     split<;>rfl
    ·simp[e]
theorem zeJ {l:List Nat}{n:Int}{k:Nat}(h:n=(k:Int)):inL l n=decide (k∈l):=by
 subst h
 unfold inL
 rw[Bool.eq_iff_iff]
 simp only[List.any_eq_true,decide_eq_true_eq]
 constructor
 ·rintro⟨x,h1,h2⟩
  have:k=x:=by omega
  rw[this];exact h1
 ·exact fun h1=>⟨k,h1,rfl⟩
theorem WF.walk {S:CX}(h:WF S){i k:Nat}{x:One}(hx:S.σ.ones[i]?=some x)(hk:x.node=(k:Int))(hf:x.free=false)(he:x.err=0){err cause:Int}(herr:err≠0){r:Zq}
  (hr:walked S.σ.tree err cause (fun _=>false) (pre S.σ.tree 200 k) (S,[],[])=r):WF r.1∧r.1.σ.who=S.σ.who∧r.1.σ.t=S.σ.t∧r.1.τ.ones=S.τ.ones ∧
  r.1.σ.tree=ye S.σ.tree (fun j=>decide (j∈pre S.σ.tree 200 k)) ∧
  (∀w:Nat,r.1.σ.ones[w]?=(S.σ.ones[w]?).map fun (x:One)=>if inL (pre S.σ.tree 200 k) x.node=true then { x with err:=err,cause:=cause }else x) ∧
  (∀w:Nat,r.1.σ.afts[w]?=(S.σ.afts[w]?).map fun (x:Aft)=>if inL (pre S.σ.tree 200 k) x.node=true then { x with over:=true }else x):=by
 have hl:=h.liveAt hx hk hf he 200
 have hnd:=xY h.tr 200 k
 obtain⟨i1,i2,i3,i4,i5⟩:=zaa (T:=S.σ.tree) err cause (pre S.σ.tree 200 k) (S,[],[]) h.whos hl hnd
 obtain⟨k1,k2,k3,k4,k5,k6⟩:=Zc (T:=S.σ.tree) err cause (pre S.σ.tree 200 k) (S,[],[]) hl hnd
 have hrt:r.1.σ.tree=ye S.σ.tree (fun j=>decide (j∈pre S.σ.tree 200 k)):=by rw[←hr];show ye _ _=_;simp
 have hro:r.1.σ.ones=((pre S.σ.tree 200 k).foldl (z9 err cause) (S,[],[])).1.σ.ones:=by rw[←hr];rfl
 have hra:r.1.σ.afts=((pre S.σ.tree 200 k).foldl (z9 err cause) (S,[],[])).1.σ.afts:=by rw[←hr];rfl
 have hrw:r.1.σ.who=S.σ.who:=by rw[←k1,←hr];rfl
 have hrtt:r.1.σ.t=S.σ.t:=by rw[←i3,←hr];rfl
 have hrτ:r.1.τ=((pre S.σ.tree 200 k).foldl (z9 err cause) (S,[],[])).1.τ:=by rw[←hr];rfl
 have hrχ:r.1.χ=((pre S.σ.tree 200 k).foldl (z9 err cause) (S,[],[])).1.χ:=by rw[←hr];rfl
 rw[←hro]at i1
 rw[←hra]at i2
 rw[←hrτ]at i4 k3
 rw[←hrχ]at i5
 simp only at i1 i2 i4 k3 i5
 have hlo:r.1.σ.ones.length=S.σ.ones.length:=by
  rcases Nat.lt_trichotomy r.1.σ.ones.length S.σ.ones.length with h9 | h9 | h9
  ·have:=i1 r.1.σ.ones.length
   rw[List.getElem?_eq_none (Nat.le_refl _),List.getElem?_eq_getElem h9]at this;cases this
  ·exact h9
  ·have:=i1 S.σ.ones.length
   rw[List.getElem?_eq_getElem h9,List.getElem?_eq_none (Nat.le_refl _)]at this;cases this
 have hla:r.1.σ.afts.length=S.σ.afts.length:=by
  rcases Nat.lt_trichotomy r.1.σ.afts.length S.σ.afts.length with h9 | h9 | h9
  ·have:=i2 r.1.σ.afts.length
   rw[List.getElem?_eq_none (Nat.le_refl _),List.getElem?_eq_getElem h9]at this;cases this
  ·exact h9
  ·have:=i2 S.σ.afts.length
   rw[List.getElem?_eq_getElem h9,List.getElem?_eq_none (Nat.le_refl _)]at this;cases this
 have hlt:r.1.σ.tree.length=S.σ.tree.length:=by rw[hrt,yC]
 have back:∀(w:Nat) (y:One),r.1.σ.ones[w]?=some y→∃x,S.σ.ones[w]?=some x∧y=if inL (pre S.σ.tree 200 k) x.node=true then { x with err:=err,cause:=cause }else x:=by
  intro w y hy
  rw[i1]at hy
  cases e:S.σ.ones[w]? with
  | none=>rw[e]at hy;cases hy
  | some x=>rw[e]at hy;simp at hy;exact⟨x,rfl,hy.symm⟩
 have backA:∀(w:Nat) (y:Aft),r.1.σ.afts[w]?=some y→∃x,S.σ.afts[w]?=some x∧y=if inL (pre S.σ.tree 200 k) x.node=true then { x with over:=true }else x:=by
  intro w y hy
  rw[i2]at hy
  cases e:S.σ.afts[w]? with
  | none=>rw[e]at hy;cases hy
  | some x=>rw[e]at hy;simp at hy;exact⟨x,rfl,hy.symm⟩
 refine⟨⟨by rw[hrt];exact h.tr.kill _,by rw[hlo,hla];exact h.sz,by rw[hlt,hlo,hla];exact h.len,?_,?_,?_,?_,?_,?_,Nat.le_trans k3 h.tlen⟩,hrw,hrtt,i4,hrt,i1,i2⟩
 ·intro w y hy
  obtain⟨x,hx,rfl⟩:=back w y hy
  obtain⟨k,h1,h2,h3⟩:=h.who1 w x hx
  exact⟨k,by split<;>exact h1,by rw[hlt];exact h2,by rw[hrw];exact h3⟩
 ·intro w y hy
  obtain⟨x,hx,rfl⟩:=backA w y hy
  obtain⟨k,h1,h2,h3,h4⟩:=h.who2 w x hx
  exact⟨k,by split<;>exact h1,by rw[hlt];exact h2,by rw[hrw];exact h3,by rw[hrt,wQ,h4];rfl⟩
 ·intro j hj
  rw[hlt]at hj
  rcases h.cover j hj with⟨w,x,c1,c2,c3⟩ | ⟨w,x,c1,c2,c3⟩
  ·exact .inl ⟨w,_,by rw[hrw];exact c1,by rw[i1,c2,Option.map_some],by split<;>exact c3⟩
  ·exact .inr ⟨w,_,by rw[hrw];exact c1,by rw[i2,c2,Option.map_some],by split<;>exact c3⟩
 ·intro w j y n hy hn ht
  obtain⟨x,hx,rfl⟩:=back w y hy
  have hxj:x.node=(j:Int):=by split at hn<;>exact hn
  rw[hrt,y3]at ht
  cases e:S.σ.tree[j]? with
  | none=>rw[e]at ht;cases ht
  | some m =>
   rw[e]at ht;simp at ht;subst ht
   have:=h.live w j x m hx hxj e
   rw[zeJ hxj]
   by_cases hm:j∈pre S.σ.tree 200 k
   ·simp[hm,herr]
   ·simp[hm,this]
 ·intro y hy a ha
  obtain⟨w,hw⟩:=List.mem_iff_getElem?.1 hy
  obtain⟨x,hx,rfl⟩:=back w y hw
  have:x.c=some a:=by split at ha<;>exact ha
  exact i5 a _ (h.chs x (List.mem_of_getElem? hx) a this)
 ·intro y hy s o hs ho
  obtain⟨w,hw⟩:=List.mem_iff_getElem?.1 hy
  obtain⟨x,hx,rfl⟩:=back w y hw
  refine h.tms x (List.mem_of_getElem? hx) s o (by rw[←hrtt];exact hs) ?_
  rw[←zgO i4]
  split at ho<;>exact ho
end
section
theorem Added.back {ns ms:List Nd}{parent:Int}{lk:Bool}(h:Added ns parent lk ms){j:Nat}{m:Nd}(hm:ms[j]?=some m):(j<ns.length∧∃n,ns[j]?=some n∧m.parent=n.parent∧m.linked=n.linked)∨(j=ns.length∧m.parent=parent∧m.linked=lk):=by
 have hj:j<ms.length:=(List.getElem?_eq_some_iff.1 hm).1
 rw[h.len]at hj
 by_cases e:j<ns.length
 ·obtain⟨m',h1,h2,h3⟩:=h.old j _ (List.getElem?_eq_getElem e)
  rw[hm]at h1;cases h1
  exact .inl ⟨e,_,List.getElem?_eq_getElem e,h2,h3⟩
 ·have:j=ns.length:=by omega
  subst this
  obtain⟨m',h1,h2,h3⟩:=h.new
  rw[hm]at h1;cases h1
  exact .inr ⟨rfl,h2,h3⟩
theorem Added.kids {ns ms:List Nd}{parent:Int}{lk:Bool}(h:Added ns parent lk ms){k:Int}(hk:zI ns k=[])(hp:parent≠k∨lk=false):zI ms k=[]:=by
 rw[List.eq_nil_iff_forall_not_mem]
 intro i hi
 obtain⟨m,h1,h2,h3⟩:=xS.1 hi
 rcases h.back h1 with⟨_,n,e1,e2,e3⟩ | ⟨_,e2,e3⟩
 ·have:i∈zI ns k:=xS.2 ⟨n,e1,by rw[←e3];exact h2,by rw[←e2];exact h3⟩
  rw[hk]at this;cases this
 ·rcases hp with hp | hp
  ·exact hp (by rw[←e2];exact h3)
  ·rw[h2]at e3;rw[hp]at e3;cases e3
theorem WF.node {S:CX}(h:WF S){p:Nat}{up:One}(hup:S.σ.ones[p]?=some up):YI S.σ.tree up.node=true∧up.node≠-1:=by
 obtain⟨k,h1,h2,_⟩:=h.who1 p up hup
 refine⟨?_,by omega⟩
 simp[YI,h1];omega
theorem WF.not_aft {S:CX}(h:WF S){p j:Nat}{up:One}{x:Aft}(hup:S.σ.ones[p]?=some up)(hx:S.σ.afts[j]?=some x):up.node≠x.node:=by
 intro e
 obtain⟨k,h1,h2,h3⟩:=h.who1 p up hup
 obtain⟨k',g1,g2,g3,_⟩:=h.who2 j x hx
 have:k=k':=by omega
 subst this
 rw[h3]at g3;simp at g3;omega
theorem WF.add {S:CX}(h:WF S){p:Nat}{up o:One}{χ':Nat→Ch}(hup:S.σ.ones[p]?=some up)(hlen:S.σ.ones.length<64)(ho:o.err=0)
  (hχ:∀a n,(S.χ a).recvs.length+(S.χ a).sends.length≤n→(χ' a).recvs.length+(χ' a).sends.length≤n) (hc:∀a,o.c=some a→(χ' a).recvs.length+(χ' a).sends.length≤1000000) :
  WF ({ S with σ:=S.σ.add o up.node,χ:=χ' }:CX)∧(S.σ.add o up.node).ones=S.σ.ones++[{ o with node:=S.σ.tree.length,timer:=-1 }]∧Added S.σ.tree up.node (!o.free) (S.σ.add o up.node).tree∧(S.σ.add o up.node).who=yN S.σ.who S.σ.tree.length (some (S.σ.ones.length:Int)):=by
 have hn:=h.node hup
 have hlt:S.σ.tree.length<1000:=by have:=h.len;have:=h.sz;omega
 obtain⟨ms,e,had⟩:=W0 (linked:=!o.free) h.tr hlt (.inr hn.1)
 have hlk:((!o.free)&&decide (up.node≠-1))=!o.free:=by simp[hn.2]
 rw[hlk]at had
 have eo:(S.σ.add o up.node).ones=S.σ.ones++[{ o with node:=S.σ.tree.length,timer:=-1 }]:=by simp[Cs.add,e]
 have et:(S.σ.add o up.node).tree=ms:=by simp[Cs.add,e]
 have ew:(S.σ.add o up.node).who=yN S.σ.who S.σ.tree.length (some (S.σ.ones.length:Int)):=by simp[Cs.add,e]
 have ea:(S.σ.add o up.node).afts=S.σ.afts:=rfl
 have oback:∀(w:Nat) (x:One),(S.σ.add o up.node).ones[w]?=some x→(w<S.σ.ones.length∧S.σ.ones[w]?=some x)∨(w=S.σ.ones.length∧x={ o with node:=S.σ.tree.length,timer:=-1 }):=by
  intro w x hx
  rw[eo]at hx
  by_cases hw:w<S.σ.ones.length
  ·rw[List.getElem?_append_left hw]at hx;exact .inl ⟨hw,hx⟩
  ·rw[List.getElem?_append_right (by omega)]at hx
   have hz:w-S.σ.ones.length=0:=by
    rcases Nat.eq_zero_or_pos (w-S.σ.ones.length)with h9 | h9
    ·exact h9
    ·rw[List.getElem?_eq_none (by simp;omega)]at hx;cases hx
   rw[hz]at hx;simp at hx
   exact .inr ⟨by omega,hx.symm⟩
 have ofwd:∀(w:Nat) (x:One),S.σ.ones[w]?=some x→(S.σ.add o up.node).ones[w]?=some x:=by
  intro w x hx
  have hw:w<S.σ.ones.length:=(List.getElem?_eq_some_iff.1 hx).1
  rw[eo,List.getElem?_append_left hw];exact hx
 have who_old:∀k:Nat,k<S.σ.tree.length→(S.σ.add o up.node).who k=S.σ.who k:=by
  intro k hk
  rw[ew];unfold yN
  rw[if_neg (by omega)]
 refine⟨⟨by rw[et];exact had.ok,⟨by rw[eo];simp;omega,h.sz.2⟩,?_,?_,?_,?_,?_,?_,?_,h.tlen⟩,eo,by rw[et];exact had,ew⟩
 ·show (S.σ.add o up.node).tree.length=(S.σ.add o up.node).ones.length+S.σ.afts.length
  rw[et,had.len,eo,h.len];simp;omega
 ·intro w x hx
  show ∃k,_∧k<(S.σ.add o up.node).tree.length∧(S.σ.add o up.node).who k=_
  rw[et,had.len]
  rcases oback w x hx with⟨_,h1⟩ | ⟨rfl,rfl⟩
  ·obtain⟨k,k1,k2,k3⟩:=h.who1 w x h1
   exact⟨k,k1,by omega,by rw[who_old k k2];exact k3⟩
  ·exact⟨S.σ.tree.length,rfl,by omega,by rw[ew];simp[yN]⟩
 ·intro w x hx
  show ∃k,_∧k<(S.σ.add o up.node).tree.length∧(S.σ.add o up.node).who k=_∧zI (S.σ.add o up.node).tree k=[]
  rw[et,had.len]
  obtain⟨k,k1,k2,k3,k4⟩:=h.who2 w x hx
  refine⟨k,k1,by omega,by rw[who_old k k2];exact k3,had.kids k4 (.inl ?_)⟩
  have:=h.not_aft hup hx
  omega
 ·intro k hk
  have hk':k<(S.σ.add o up.node).tree.length:=hk
  rw[et,had.len]at hk'
  by_cases e1:k<S.σ.tree.length
  ·rcases h.cover k e1 with⟨w,x,c1,c2,c3⟩ | ⟨w,x,c1,c2,c3⟩
   ·exact .inl ⟨w,x,by show (S.σ.add o up.node).who k=_;rw[who_old k e1];exact c1,ofwd w x c2,c3⟩
   ·exact .inr ⟨w,x,by show (S.σ.add o up.node).who k=_;rw[who_old k e1];exact c1,c2,c3⟩
  ·have:k=S.σ.tree.length:=by omega
   subst this
   refine .inl ⟨S.σ.ones.length,{ o with node:=S.σ.tree.length,timer:=-1 },?_,?_,rfl⟩
   ·show (S.σ.add o up.node).who _=_
    rw[ew];simp[yN]
   ·show (S.σ.add o up.node).ones[_]?=_
    rw[eo];simp
 ·intro w k x n hx hk hn2
  have hn2':ms[k]?=some n:=by rw[←et];exact hn2
  rcases had.back hn2' with⟨b1,m,b2,b3,b4⟩ | ⟨b1,b3,b4⟩
  ·rcases oback w x hx with⟨_,h1⟩ | ⟨rfl,rfl⟩
   ·rw[b4];exact h.live w k x m h1 hk b2
   ·simp at hk;omega
  ·rcases oback w x hx with⟨_,h1⟩ | ⟨rfl,rfl⟩
   ·obtain⟨k2,k3,k4,_⟩:=h.who1 w x h1
    omega
   ·rw[b4];simp[ho]
 ·intro x hx a ha
  obtain⟨w,hw⟩:=List.mem_iff_getElem?.1 hx
  rcases oback w x hw with⟨_,h1⟩ | ⟨rfl,rfl⟩
  ·exact hχ a _ (h.chs x (List.mem_of_getElem? h1) a ha)
  ·exact hc a ha
 ·intro x hx s o2 hs ho2
  obtain⟨w,hw⟩:=List.mem_iff_getElem?.1 hx
  rcases oback w x hw with⟨_,h1⟩ | ⟨rfl,rfl⟩
  ·exact h.tms x (List.mem_of_getElem? h1) s o2 hs ho2
  ·simp[Tms.one,Tms.has]at ho2
theorem WZ (χ:Nat→Ch)(a b n:Nat)(h:(χ b).recvs.length+(χ b).sends.length≤n):(y9 χ a .sg b).recvs.length+(y9 χ a .sg b).sends.length≤n:=by
 unfold y9
 split
 ·simp[Ch.sg]
 ·exact h
theorem WF.okAdd {S:CX}(h:WF S):S.okAdd=true:=by
 have:=h.sz
 simp[CX.okAdd,h.tr.kok];omega
theorem ziI (t:Option Nat)(τ:Tms)(χ:Nat→Ch)(hτ:τ.x.l.length≤1000000):WF ⟨Cs.new t,τ,χ⟩:=by
 have e:zL [] (-1) false=([⟨-1,false,[]⟩],0,0):=by simp[zL]
 have ew:(Cs.new t).who=yN (fun _=>none) 0 (some 0):=by simp[Cs.new,Cs.add,One.zero,e]
 have eo:(Cs.new t).ones=[{ One.zero with free:=true,timer:=-1 }]:=by simp[Cs.new,Cs.add,One.zero,e]
 have et:(Cs.new t).tree=[⟨-1,false,[]⟩]:=by simp[Cs.new,Cs.add,One.zero,e]
 have ea:(Cs.new t).afts=[]:=rfl
 refine⟨⟨by rw[et];simp,?_,?_⟩,by simp[eo,ea],by simp[et,eo,ea],?_,?_,?_,?_,?_,?_,hτ⟩
 ·intro k n hn
  simp only[et]at hn ⊢
  cases k with
  | zero=>simp at hn;subst hn;rfl
  | succ k=>simp at hn
 ·intro k n hn hl
  simp only[et]at hn
  cases k with
  | zero=>simp at hn;subst hn;cases hl
  | succ k=>simp at hn
 ·intro i x hx
  simp only[eo]at hx
  cases i with
  | zero=>simp at hx;subst hx;exact⟨0,rfl,by simp[et],by simp[ew,yN]⟩
  | succ k=>simp at hx
 ·intro i x hx;simp only[ea]at hx;simp at hx
 ·intro k hk
  simp only[et]at hk
  simp at hk;subst hk
  exact .inl ⟨0,{ One.zero with free:=true,timer:=-1 },by simp[ew,yN],by simp[eo],rfl⟩
 ·intro i k x n hx hk hn
  simp only[eo]at hx
  simp only[et]at hn
  cases i with
  | zero =>
   simp at hx;subst hx
   cases k with
   | zero=>simp at hn;subst hn;simp
   | succ k=>simp at hn
  | succ k=>simp at hx
 ·intro x hx a ha
  simp only[eo]at hx
  simp at hx;subst hx;simp[One.zero]at ha
 ·intro x hx s o hs ho
  simp only[eo]at hx
  simp at hx;subst hx
  simp[Tms.one,Tms.has]at ho
theorem WF.aft {S:CX}(h:WF S){p:Nat}{up:One}(hup:S.σ.ones[p]?=some up)(hlen:S.σ.afts.length<64)(prog:Int) :
  WF ({ S with σ:=S.σ.aft up prog }:CX)∧(S.σ.aft up prog).afts=S.σ.afts++[⟨S.σ.tree.length,prog,false⟩]∧Added S.σ.tree up.node true (S.σ.aft up prog).tree∧(S.σ.aft up prog).who=yN S.σ.who S.σ.tree.length (some (-(S.σ.afts.length:Int)-1)):=by
 have hn:=h.node hup
 have hlt:S.σ.tree.length<1000:=by have:=h.len;have:=h.sz;omega
 obtain⟨ms,e,had⟩:=W0 (linked:=true) h.tr hlt (.inr hn.1)
 have hlk:(true&&decide (up.node≠-1))=true:=by simp[hn.2]
 rw[hlk]at had
 have eo:(S.σ.aft up prog).afts=S.σ.afts++[⟨S.σ.tree.length,prog,false⟩]:=by simp[Cs.aft,e]
 have et:(S.σ.aft up prog).tree=ms:=by simp[Cs.aft,e]
 have ew:(S.σ.aft up prog).who=yN S.σ.who S.σ.tree.length (some (-(S.σ.afts.length:Int)-1)):=by simp[Cs.aft,e]
 have ea:(S.σ.aft up prog).ones=S.σ.ones:=rfl
 have oback:∀(w:Nat) (x:Aft),(S.σ.aft up prog).afts[w]?=some x→(w<S.σ.afts.length∧S.σ.afts[w]?=some x)∨(w=S.σ.afts.length∧x=⟨S.σ.tree.length,prog,false⟩):=by
  intro w x hx
  rw[eo]at hx
  by_cases hw:w<S.σ.afts.length
  ·rw[List.getElem?_append_left hw]at hx;exact .inl ⟨hw,hx⟩
  ·rw[List.getElem?_append_right (by omega)]at hx
   have hz:w-S.σ.afts.length=0:=by
    rcases Nat.eq_zero_or_pos (w-S.σ.afts.length)with h9 | h9
    ·exact h9
    ·rw[List.getElem?_eq_none (by simp;omega)]at hx;cases hx
   rw[hz]at hx;simp at hx
   exact .inr ⟨by omega,hx.symm⟩
 have ofwd:∀(w:Nat) (x:Aft),S.σ.afts[w]?=some x→(S.σ.aft up prog).afts[w]?=some x:=by
  intro w x hx
  have hw:w<S.σ.afts.length:=(List.getElem?_eq_some_iff.1 hx).1
  rw[eo,List.getElem?_append_left hw];exact hx
 have who_old:∀k:Nat,k<S.σ.tree.length→(S.σ.aft up prog).who k=S.σ.who k:=by
  intro k hk
  rw[ew];unfold yN
  rw[if_neg (by omega)]
 have kn:zI S.σ.tree (S.σ.tree.length:Int)=[]:=by
  rw[List.eq_nil_iff_forall_not_mem]
  intro i hi
  have:=xh h.tr hi
  omega
 obtain⟨kp,hkp1,hkp2,_⟩:=h.who1 p up hup
 refine⟨⟨by rw[et];exact had.ok,⟨h.sz.1,by rw[eo];simp;omega⟩,?_,?_,?_,?_,?_,h.chs,h.tms,h.tlen⟩,eo,by rw[et];exact had,ew⟩
 ·show (S.σ.aft up prog).tree.length=S.σ.ones.length+(S.σ.aft up prog).afts.length
  rw[et,had.len,eo,h.len];simp;omega
 ·intro w x hx
  show ∃k,_∧k<(S.σ.aft up prog).tree.length∧(S.σ.aft up prog).who k=_
  rw[et,had.len]
  obtain⟨k,k1,k2,k3⟩:=h.who1 w x hx
  exact⟨k,k1,by omega,by rw[who_old k k2];exact k3⟩
 ·intro w x hx
  show ∃k,_∧k<(S.σ.aft up prog).tree.length∧(S.σ.aft up prog).who k=_∧zI (S.σ.aft up prog).tree k=[]
  rw[et,had.len]
  rcases oback w x hx with⟨_,h1⟩ | ⟨rfl,rfl⟩
  ·obtain⟨k,k1,k2,k3,k4⟩:=h.who2 w x h1
   refine⟨k,k1,by omega,by rw[who_old k k2];exact k3,had.kids k4 (.inl ?_)⟩
   have:=h.not_aft hup h1
   omega
  ·exact⟨S.σ.tree.length,rfl,by omega,by rw[ew];simp[yN],had.kids kn (.inl (by omega))⟩
 ·intro k hk
  have hk':k<(S.σ.aft up prog).tree.length:=hk
  rw[et,had.len]at hk'
  by_cases e1:k<S.σ.tree.length
  ·rcases h.cover k e1 with⟨w,x,c1,c2,c3⟩ | ⟨w,x,c1,c2,c3⟩
   ·exact .inl ⟨w,x,by show (S.σ.aft up prog).who k=_;rw[who_old k e1];exact c1,c2,c3⟩
   ·exact .inr ⟨w,x,by show (S.σ.aft up prog).who k=_;rw[who_old k e1];exact c1,ofwd w x c2,c3⟩
  ·have:k=S.σ.tree.length:=by omega
   subst this
   refine .inr ⟨S.σ.afts.length,⟨S.σ.tree.length,prog,false⟩,?_,?_,rfl⟩
   ·show (S.σ.aft up prog).who _=_
    rw[ew];simp[yN]
   ·show (S.σ.aft up prog).afts[_]?=_
    rw[eo];simp
 ·intro w k x n hx hk hn2
  have hn2':ms[k]?=some n:=by rw[←et];exact hn2
  rcases had.back hn2' with⟨b1,m,b2,b3,b4⟩ | ⟨b1,b3,b4⟩
  ·rw[b4];exact h.live w k x m hx hk b2
  ·obtain⟨k2,k3,k4,_⟩:=h.who1 w x hx
   omega
theorem WF.afterX {S:CX}(h:WF S){p:Nat}{up:One}(hup:S.σ.ones[p]?=some up)(hlen:S.σ.afts.length<64)(he:up.err=0){prog:Int}(hp:0≤prog) :
  S.afterX p prog=some ({ S with σ:=S.σ.aft up prog },(S.σ.afts.length:Int),[],0):=by
 have hpl:p<S.σ.ones.length:=(List.getElem?_eq_some_iff.1 hup).1
 have hh:S.σ.has p=true:=by unfold Cs.has;simp;omega
 unfold CX.afterX
 rw[if_neg (by simp[hh]),if_neg (by omega),if_neg (by omega),if_pos h.tr.kok]
 simp only[Int.toNat_natCast,hup]
 rw[if_neg (by simp[he])]
end
section
section
variable {c:Nat} {S S':CX} {L L2:Lg}
theorem CDone.raw (h:CDone c S S' L L2)(e:L c=some (.abs (YA c S.σ)))(ho:OutC c S L){r:Nat}{x:AB}(hr:L r=some (.raw x)):L2 r=some (.raw x):=by
 rw[h.fr r (by rw[hr];simp) (by rintro rfl;rw[hr]at e;cases e) (fun h9=>by have:=(ho.tms r h9).2;rw[hr]at this;cases this) (fun o h8 h9=>by have:=(ho.chs o h8 r h9).2.2;rw[hr]at this;cases this)]
 exact hr
end
theorem za1 {F:Nat→Option AFn}{f:Nat}(h:F f=some zc9)(L:Lg):zd F f [] L fun v L'=>v=.b true∧L'=L:=by
 apply Wx h
 show fin _ _ _ _ _
 exact⟨L,zu.refl _,rfl,rfl⟩
theorem OutC.chan {c:Nat}{S:CX}{L:Lg}(ho:OutC c S L){a:Nat}(hm:∃o∈S.σ.ones,o.c=some a)(y:Ch):OutC c ({ S with χ:=y9 S.χ a y }:CX) (L.put a (.abs (yu a y))):=by
 obtain⟨o1,h1,h2⟩:=hm
 have hs:=ho.chs o1 h1 a h2
 refine⟨fun s ht=>?_,fun o2 ho2 a2 ha2=>?_⟩
 ·have:=ho.tms s ht
  refine⟨this.1,?_⟩
  rw[zb];exact this.2
  rintro rfl;exact hs.2.1 ht
 ·have:=ho.chs o2 ho2 a2 ha2
  refine⟨this.1,this.2.1,?_⟩
  by_cases e:a2=a
  ·subst e;rw[ze];simp[y9]
  ·rw[zb _ _ _ e];simp[y9,e,this.2.2]
end
section
variable {F:Nat→Option AFn}
def Yy (o:Option Nat)(K K1:Lg):Prop:=∀r d,K r=some d→o≠some r→K1 r=some d
theorem Yy.none_ {K K1:Lg}(h:Yy none K K1){r:Nat}{d:LC}(hr:K r=some d):K1 r=some d:=h r d hr (by simp)
theorem push1 {K:Lg}{v x z:AV}{cs:List AV}{n bytes:Nat}(h:OSl K v cs n 1)(hx:x.cellsOf=some [x])(hb:bytes≤1000)(hn:n≤1000000){k:AV→Lg→Prop}
  (hk:∀(v':AV) (K1:Lg),OSl K1 v' (cs++[x]) (n+1) 1→Yy (slB v) K K1→(∀b,slB v'=some b→K b=none)→k v' K1) :
  za F (.bslice [z] 1 1 [0]) [x] K fun s L=>za F (.app 1 bytes) [v,s] L k:=by
 have hone:x.one=true:=by have:=vF hx;simpa using this
 rw[vR,yg (c:=[x]) _ _ (by simp[y5,zE,zo,zq,zp,hx]) (by simp[hone])]
 intro b1 hb1
 rw[WU]
 have g1:(K.put b1 (.raw (.cells [x]))) b1=some (.raw (.cells [x])):=ze _ _ _
 have h1:OSl (K.put b1 (.raw (.cells [x]))) v cs n 1:=h.mono fun b hbb=>zb _ _ _ (by rintro rfl;have:=h.block hbb;rw[hb1]at this;cases this)
 refine h1.app (m:=1) (by omega) rfl (by omega) (new:=[x]) (by simp[zF,AB.read,cut,zq]) rfl (by simp[hone]) (by have:(n+1) * bytes≤1000001 * 1000:=Nat.mul_le_mul (by omega) hb;omega) ?_
 intro b2 K1 g hO
 have f2:b2≠b1∧K b2=none:=by
  have:=g.fresh
  have n1:b2≠b1:=by rintro rfl;rw[ze]at this;cases this
  rw[zb _ _ _ n1]at this
  exact⟨n1,this⟩
 refine hk _ _ hO ?_ ?_
 ·intro r d hr hne
  have r1:r≠b1:=by rintro rfl;rw[hb1]at hr;cases hr
  have r2:r≠b2:=by rintro rfl;rw[f2.2]at hr;cases hr
  rw[g.same r r2 hne,zb _ _ _ r1];exact hr
 ·intro b hbb;simp[slB]at hbb;subst hbb;exact f2.2
theorem new1 {K:Lg}{x z:AV}(hx:x.cellsOf=some [x]){k:AV→Lg→Prop}(hk:∀(v':AV) (K1:Lg),OSl K1 v' [x] 1 1→Yy none K K1→(∀b,slB v'=some b→K b=none)→k v' K1):za F (.bslice [z] 1 1 [0]) [x] K k:=by
 have hone:x.one=true:=by have:=vF hx;simpa using this
 rw[vR,yg (c:=[x]) _ _ (by simp[y5,zE,zo,zq,zp,hx]) (by simp[hone])]
 intro b1 hb1
 refine hk _ _ (.inr ⟨b1,0,by omega,rfl,.inl rfl,ze _ _ _,rfl⟩) ?_ ?_
 ·intro r d hr _
  rw[zb];exact hr
  rintro rfl;rw[hb1]at hr;cases hr
 ·intro b hbb;simp[slB]at hbb;subst hbb;exact hb1
end
end Go.AM
