/- The texts LibHeapC, LibHeapD, LibExpire, LibTimerA, LibTimerB, LibTimerC, LibRefA, LibTimerD, LawTimerP, LawTimerX, LibSlice, LibSignal, LibEnd, LibEndB, LibEndC, LibTree, LibTreeB, LibTreeC of a proof of CtxActs, merged. -/
import Derived.Test.YtmecehkjocjkiaaGreatCtxActsG3
set_option linter.unusedVariables false
set_option linter.unusedSimpArgs false
namespace Go.AM
section
variable {F:Nat→Option AFn}
def ins (x:It):List It→List It
 | []=>[x]
 | y::r=>if x.lt y then x::y::r else y::ins x r
theorem vg (x:It):∀l,(ins x l).Perm (x::l)
 | []=>List.Perm.refl _
 | y::r=>by
  unfold ins
  split
  ·exact List.Perm.refl _
  ·exact ((vg x r).cons y).trans (List.Perm.swap x y r)
theorem Vm {x:It}:∀{l:List It},l.Pairwise It.lt→(∀y,y∈l→x.s≠y.s)→(ins x l).Pairwise It.lt
 | [],_,_=>by simp[ins]
 | y::r,h,hx=>by
  rw[List.pairwise_cons]at h
  unfold ins
  split
  ·rename_i hlt
   rw[List.pairwise_cons]
   refine⟨fun z hz=>?_,List.pairwise_cons.2 h⟩
   rcases List.mem_cons.1 hz with rfl | hz
   ·exact hlt
   ·exact wW hlt (h.1 z hz)
  ·rename_i hlt
   have hyx:y.lt x:=by
    have:=hx y (by simp)
    unfold It.lt at *
    omega
   rw[List.pairwise_cons]
   refine⟨fun z hz=>?_,Vm h.2 (fun z hz=>hx z (by simp[hz]))⟩
   rcases List.mem_cons.1 ((vg x r).mem_iff.1 hz)with rfl | hz
   ·exact hyx
   ·exact h.1 z hz
def yS (id:Int)(l:List It):List It:=l.filter fun y=>!decide (y.id=id)
def yQ (id:Int)(l:List It):Option It:=l.find? fun y=>decide (y.id=id)
theorem Ys {α:Type}(y:α):∀(l:List α) (i:Nat) (h:i<l.length),(l[i]::l.set i y).Perm (y::l)
 | [],i,h=>by simp at h
 | a::r,0,h=>by simpa using List.Perm.swap y a r
 | a::r,i+1,h=>by
  have:=Ys y r i (by simpa using h)
  simp only[List.set_cons_succ,List.getElem_cons_succ]
  exact (List.Perm.swap a _ _).trans ((this.cons a).trans (List.Perm.swap y a r))
def wb (h:Nat)(l:List It)(seq:Int)(hp:Hp):Prop:=∃its mp M,xr Lg.nil h its mp seq M∧Wz its mp∧vO its∧its.Perm l∧Sat M hp
section
variable {L K:Lg} {h:Nat} {its l:List It} {mp:Int→Option Int} {seq:Int}
theorem xr.shut (ho:xr L h its mp seq K)(hc:Wz its mp)(hh:vO its)(hp:its.Perm l):zu K (L.put h (.abs (wb h l seq))):=by
 obtain⟨sv,mb,es,h1,h2,h3,h4,h5,h6,h7⟩:=ho
 rcases h6 with⟨rfl,rfl⟩ | ⟨b,cap,sp,rfl,a2,a3,a4,a5,a6⟩
 ·refine yW (fun r=>r=h∨r=mb) (.inl rfl) ?_ ?_ (.inl ⟨_,h1⟩) ?_
  ·intro r d hr hd;simp only[not_or]at hr;exact h7 r d hr.1 hd
  ·rintro r (rfl | rfl) hr
   ·exact absurd rfl hr
   ·exact h5
  ·intro M hm hM hN hs
   refine⟨[],mp,M,⟨_,mb,es,by rw[hM h (.inl rfl)];exact h1,by rw[hM mb (.inr rfl)];exact h2,h3,h4,rfl,.inl ⟨rfl,rfl⟩,fun r d _ hd=>by cases hd⟩,hc,hh,hp,hs⟩
 ·refine yW (fun r=>r=h∨r=mb∨r=b) (.inl rfl) ?_ ?_ (.inl ⟨_,h1⟩) ?_
  ·intro r d hr hd;simp only[not_or]at hr;exact h7 r d hr.1 hd
  ·rintro r (rfl | rfl | rfl) hr
   ·exact absurd rfl hr
   ·exact h5
   ·exact a6
  ·intro M hm hM hN hs
   refine⟨its,mp,M,⟨_,mb,es,by rw[hM h (.inl rfl)];exact h1,by rw[hM mb (.inr (.inl rfl))];exact h2,h3,h4,rfl,.inr ⟨b,cap,sp,rfl,by rw[hM b (.inr (.inr rfl))];exact a2,a3,a4,a5,rfl⟩,fun r d _ hd=>by cases hd⟩,hc,hh,hp,hs⟩
theorem Z0 {f:Nat}{vs:List AV}{Q:AV→Lg→Prop}(e:L h=some (.abs (wb h l seq)))
  (H:∀its mp K,xr L h its mp seq K→Wz its mp→vO its→its.Perm l→zd F f vs K Q):zd F f vs L Q:=by
 apply yX e
 rintro hm ⟨its,mp,M,ho,hc,hh,hp,hs⟩
 obtain⟨sv,mb,es,h1,h2,h3,h4,h5,h6,h7⟩:=ho
 refine⟨M,hs,by rw[h1];simp,fun hf=>?_⟩
 have hover:∀b d,M b=some d→(M.over L) b=some d:=fun b d hb=>by simp[Lg.over,hb]
 refine H its mp (M.over L) ⟨sv,mb,es,hover _ _ h1,hover _ _ h2,h3,h4,hf _ _ h2 h4,?_,?_⟩ hc hh hp
 ·rcases h6 with h6 | ⟨b,cap,sp,a1,a2,a3,a4,a5,a6⟩
  ·exact .inl h6
  ·exact .inr ⟨b,cap,sp,a1,hover _ _ a2,a3,a4,a5,hf _ _ a2 a4⟩
 ·intro r d hr hd
  cases hM:M r with
  | none=>simp[Lg.over,hM,hd]
  | some c=>rw[hf r c hM hr]at hd;cases hd
theorem xr.back (ho:xr L h its mp seq K)(hc:Wz its mp)(hh:vO its)(hp:its.Perm l)(e:L h=some (.abs (wb h l seq))):zu K L:=by
 have:=ho.shut hc hh hp
 rwa [yc L h _ e]at this
theorem Wz.find {A:List It}{mp:Int→Option Int}(hc:Wz A mp)(hp:A.Perm l)(id:Int):(mp id=none∧yQ id l=none)∨∃j,j<A.length∧mp id=some (j:Int)∧yQ id l=some (gA A j)∧(gA A j).id=id:=by
 have huniq:∀x y,x∈A→y∈A→x.id=y.id→x=y:=by
  intro x y hx hy e
  obtain⟨i,hi,rfl⟩:=List.getElem_of_mem hx
  obtain⟨j,hj,rfl⟩:=List.getElem_of_mem hy
  have e1:gA A i=A[i]:=by simp[gA,hi]
  have e2:gA A j=A[j]:=by simp[gA,hj]
  rw[←e1,←e2]at e
  have:=hc.1 i j hi hj e
  subst this;rfl
 cases hm:mp id with
 | none =>
  refine .inl ⟨rfl,?_⟩
  unfold yQ
  rw[List.find?_eq_none]
  intro x hx
  have hxA:=hp.mem_iff.2 hx
  obtain⟨j,hj,rfl⟩:=List.getElem_of_mem hxA
  have:=hc.2.1 j hj
  have e1:gA A j=A[j]:=by simp[gA,hj]
  rw[e1]at this
  simp
  rintro rfl
  rw[hm]at this;cases this
 | some v =>
  obtain⟨j,hj,rfl,hid⟩:=hc.2.2 id v hm
  refine .inr ⟨j,hj,rfl,?_,hid⟩
  have e1:gA A j=A[j]:=by simp[gA,hj]
  have hmem:gA A j∈l:=hp.mem_iff.1 (by rw[e1];exact List.getElem_mem _)
  cases hf:yQ id l with
  | none =>
   unfold yQ at hf
   rw[List.find?_eq_none]at hf
   have:=hf _ hmem
   simp[hid]at this
  | some z =>
   have hz1:=List.mem_of_find?_eq_some hf
   have hz2:=List.find?_some hf
   simp at hz2
   rw[huniq z (gA A j) (hp.mem_iff.2 hz1) (hp.mem_iff.2 hmem) (by rw[hz2,hid])]
theorem zeO (hf:H_f41 F)(ho:xr L h its mp seq K):zd F k_f41 [.p (some (h,0))] K fun v K'=>v=.i .i64 its.length∧K'=K:=by
 obtain⟨sv,mb,es,h1,h2,h3,h4,h5,h6,h7⟩:=ho
 apply r_f41 hf.code
 rcases h6 with⟨rfl,rfl⟩ | ⟨b,cap,sp,rfl,a2,a3,a4,a5,a6⟩<;>simp[D_f41_1,rdL,AB.read,zO,h1]
def ww (o:Option It):AV:=match o with
 | some x=>.tup [x.av,.b true]
 | none=>.tup [It.zero.av,.b false]
theorem zdd (hf:H_f25 F)(ho:xr L h its mp seq K)(hc:Wz its mp)(hp:its.Perm l)(id:Int):zd F k_f25 [.p (some (h,0)),.i .i64 id] K fun v K'=>v=ww (yQ id l)∧K'=K:=by
 obtain⟨sv,mb,es,h1,h2,h3,h4,h5,h6,h7⟩:=ho
 apply r_f25 hf.code
 generalize hQ:(fun (v:AV) (K':Lg)=>v=ww (yQ id l)∧K'=K)=Q
 unfold D_f25_1
 simp
 intro r hr
 have nb:∀{y:Nat} {k:LC},K y=some k→y≠r:=fun hx hxr=>by rw[hxr,hr]at hx;cases hx
 have n1:=nb h1
 have n2:=nb h2
 have hd:∀c:List AV,zu (K.put r (.raw (.cells c))) K:=fun c=>((yq.refl K).put hr _).sees
 rcases hc.find hp id with⟨m1,m2⟩ | ⟨j,hj,m1,m2,m3⟩
 ·simp[rdL,AB.read,zO,Lg.put_apply,n1,h1,w9,n2,h2,h3.find id,m1,zE,zw (ze _ _ _),zo,zU _ _ (ze _ _ _)]
  refine⟨K,hd _,?_⟩
  subst hQ
  exact⟨by rw[m2];rfl,rfl⟩
 ·rcases h6 with⟨rfl,rfl⟩ | ⟨b,cap,sp,rfl,a2,a3,a4,a5,a6⟩
  ·simp at hj
  ·have n3:=nb a2
   have ej:(j:Int)<(its.length:Int):=by omega
   have hat:=wo its j (gA its j) sp (X0 hj)
   have hat2:=hat.2
   rw[List.length_append]at hat2
   simp[rdL,AB.read,zO,Lg.put_apply,n1,h1,w9,n2,h2,h3.find id,m1,yF _ _ _ 3 b 0 its.length cap 3 .i64 (j:Int) (Int.natCast_nonneg _) ej,n3,a2,cut,zq,hat.1,hat2]
   rw[zw (ze _ _ _) (by simp[It.cells]) (by simp[It.cells]) (by simp)]
   simp
   rw[zU _ _ (ze _ _ _) (by simp[zo,It.cells])]
   simp[zo,It.cells]
   refine⟨K,hd _,?_⟩
   subst hQ
   exact⟨by rw[m2];rfl,rfl⟩
theorem U9 (hf:H_f42 F)(e:L h=some (.abs (wb h l seq)))(hs:l.Pairwise It.lt):zd F k_f42 [.p (some (h,0))] L fun v L'=>v=ww l.head?∧L'=L:=by
 apply Z0 e
 intro its mp K ho hc hh hp
 have hb:=ho.back hc hh hp e
 apply r_f42 hf.code
 generalize hQ:(fun (v:AV) (K':Lg)=>v=ww l.head?∧K'=L)=Q
 unfold D_f42_1
 simp
 intro r hr
 refine (zeO hf.f41 (ho.onto hr _)).mono ?_
 rintro _ K1 ⟨rfl,rfl⟩
 obtain⟨sv,mb,es,h1,h2,h3,h4,h5,h6,h7⟩:=ho
 have nb:∀{y:Nat} {k:LC},K y=some k→y≠r:=fun hx hxr=>by rw[hxr,hr]at hx;cases hx
 have n1:=nb h1
 have hd:∀c:List AV,zu (K.put r (.raw (.cells c))) L:=fun c=>(((yq.refl K).put hr _).sees).trans hb
 rcases h6 with⟨rfl,rfl⟩ | ⟨b,cap,sp,rfl,a2,a3,a4,a5,a6⟩
 ·have hl:l=[]:=hp.symm.eq_nil
  simp[zE,zw (ze _ _ _),zo,zU _ _ (ze _ _ _)]
  refine⟨L,hd _,?_⟩
  subst hQ
  subst hl
  exact⟨rfl,rfl⟩
 ·by_cases h0:its.length=0
  ·have hi0:=List.length_eq_zero_iff.1 h0
   subst hi0
   have hl:l=[]:=hp.symm.eq_nil
   simp[zE,zw (ze _ _ _),zo,zU _ _ (ze _ _ _)]
   refine⟨L,hd _,?_⟩
   subst hQ
   subst hl
   exact⟨rfl,rfl⟩
  ·have h0':¬((its.length:Int)=0):=by omega
   have h0'':its≠[]:=fun e=>h0 (by rw[e];rfl)
   have n3:=nb a2
   have ej:((0:Nat):Int)<(its.length:Int):=by omega
   have hat:=wo its 0 (gA its 0) sp (X0 (by omega))
   have hat2:=hat.2
   rw[List.length_append]at hat2
   simp at hat hat2
   simp[h0,h0'',rdL,AB.read,zO,Lg.put_apply,n1,h1,yF _ _ _ 3 b 0 its.length cap 3 .i64 (0:Int) (by omega) ej,n3,a2,cut,zq,hat.1,hat2]
   rw[zw (ze _ _ _) (by simp[It.cells]) (by simp[It.cells]) (by simp)]
   simp
   rw[zU _ _ (ze _ _ _) (by simp[zo,It.cells])]
   simp[zo,It.cells]
   refine⟨L,hd _,?_⟩
   subst hQ
   have hhead:l.head?=some (gA its 0):=by
    cases hl:l with
    | nil=>rw[hl]at hp;exact absurd hp.eq_nil h0''
    | cons z rest =>
     simp
     have hz:z∈its:=hp.mem_iff.2 (by rw[hl];simp)
     obtain⟨j,hj,hzj⟩:=List.getElem_of_mem hz
     have hz2:gA its j=z:=by simp[gA,hj,hzj]
     have hroot:=hh.root j hj
     have hmem:gA its 0∈l:=hp.mem_iff.1 (by
      have h00:0<its.length:=by omega
      have:gA its 0=its[0]:=by simp[gA,h00]
      rw[this];exact List.getElem_mem _)
     rw[hl]at hmem hs
     rcases List.mem_cons.1 hmem with h9 | h9
     ·exact h9.symm
     ·rw[hz2]at hroot
      exact absurd ((List.pairwise_cons.1 hs).1 _ h9) hroot
   exact⟨by rw[hhead];rfl,rfl⟩
theorem zgn {mp:Int→Option Int}{A:List It}(hc:Wz A mp){x:It}(hx:mp x.id=none):WR (A++[x]) mp A.length:=by
 have g1:∀j,j<A.length→gA (A++[x]) j=gA A j:=by intro j hj;simp[gA,List.getElem?_append,hj]
 have g2:gA (A++[x]) A.length=x:=by simp[gA]
 refine⟨?_,?_,?_⟩
 ·intro j k hj hk e
  simp at hj hk
  by_cases j1:j<A.length<;>by_cases k1:k<A.length
  ·rw[g1 j j1,g1 k k1]at e;exact hc.1 j k j1 k1 e
  ·have:k=A.length:=by omega
   subst this
   rw[g1 j j1,g2]at e
   have:=hc.2.1 j j1
   rw[e,hx]at this;cases this
  ·have:j=A.length:=by omega
   subst this
   rw[g1 k k1,g2]at e
   have:=hc.2.1 k k1
   rw[←e,hx]at this;cases this
  ·omega
 ·intro j hj hjn
  simp at hj
  have:j<A.length:=by omega
  rw[g1 j this]
  exact hc.2.1 j this
 ·intro k v hk
  obtain⟨j,hj,hv,hid⟩:=hc.2.2 k v hk
  exact .inr ⟨j,by simp;omega,by omega,hv,by rw[g1 j hj];exact hid⟩
theorem ziJ {A:List It}(hh:vO A)(x:It):Up (A++[x]) A.length:=by
 have g1:∀j,j<A.length→gA (A++[x]) j=gA A j:=by intro j hj;simp[gA,List.getElem?_append,hj]
 refine⟨fun j h0 hj hjn=>?_,fun j h0 hj hp _=>?_⟩
 ·simp at hj
  have h1:j<A.length:=by omega
  have:=vc h0
  rw[g1 j h1,g1 _ (by omega)]
  exact hh j h0 h1
 ·simp at hj
  have:=vc h0
  omega
theorem zeS (hf:H_f35 F)(e:L h=some (.abs (wb h l seq)))(hl:l.length<1000000)(hq:0≤seq∧seq<4611686018427387904)(id when:Int) :
  zd F k_f35 [.p (some (h,0)),.i .i64 id,.i .i64 when] L fun v L' =>
   if (yQ id l).isSome=true then v=.i .i64 1∧L'=L else v=.i .i64 0∧L'=L.put h (.abs (wb h (ins ⟨id,when,seq+1⟩ l) (seq+1))):=by
 apply Z0 e
 intro its mp K ho hc hh hp
 have hb:=ho.back hc hh hp e
 apply r_f35 hf.code
 generalize hQ:(fun (v:AV) (L':Lg)=>if (yQ id l).isSome=true then v=.i .i64 1∧L'=L else v=.i .i64 0∧L'=L.put h (.abs (wb h (ins ⟨id,when,seq+1⟩ l) (seq+1))))=Q
 unfold D_f35_1 D_f35_2 D_f35_3
 have ho':=ho
 obtain⟨sv,mb,es,h1,h2,h3,h4,h5,h6,h7⟩:=ho'
 have plen:=hp.length_eq
 rcases hc.find hp id with⟨m1,m2⟩ | ⟨j,hj,m1,m2,m3⟩
 ·simp[rdL,AB.read,zO,h1,w9,h2,h3.find id,m1]
  unfold D_f35_4
  have w1:wr .i64 (seq+1)=seq+1:=zS (by omega) (by omega)
  obtain⟨x,hx⟩:∃x:It,x=⟨id,when,seq+1⟩:=⟨_,rfl⟩
  have hxc:x.cells=[.i .i64 id,.i .i64 when,.i .i64 (seq+1)]:=by rw[hx];rfl
  simp[rdL,AB.read,zO,h1,w1,zH h1,zE,zo,zq,zp]
  rw[yg (c:=x.cells) _ _ (by rw[hxc];simp[y5,zE,xT,zo,zq,zp]) (by rw[hxc];simp)]
  intro b1 hb1
  rw[show [sv,AV.m (some mb),AV.i .i64 seq].set 2 (.i .i64 (seq+1))=[sv,.m (some mb),.i .i64 (seq+1)]from rfl]at *
  have n1:b1≠h:=by rintro rfl;simp at hb1
  rw[zb _ _ _ n1]at hb1
  have nb:∀{y:Nat} {k:LC},K y=some k→y≠b1:=fun hx hxr=>by rw[hxr,hb1]at hx;cases hx
  have upcall:∀{K2:Lg},xr L h (its++[x]) mp (seq+1) K2→zd F k_f31 [.p (some (h,0)),.i .i64 its.length] K2 fun v25 L25=>zl (some (.i .i64 0)) Q L25:=by
   intro K2 hk2
   have hxn:mp x.id=none:=by rw[hx];exact m1
   have hup:=ziJ hh x
   refine (zcr hf.f31 hk2 its.length (by simp) (by simp;omega) (zgn hc hxn) ⟨fun j a b c d=>hup.1 j a b c,hup.2⟩).mono ?_
   rintro _ K3 ⟨rfl,A',mp',p1,ho3,hc3,hh3,_⟩
   have hp3:A'.Perm (ins x l):=p1.trans (((hp.append (List.Perm.refl [x])).trans List.perm_append_comm).trans (vg x l).symm)
   refine⟨_,ho3.shut hc3 (hh3 hup) hp3,?_⟩
   subst hQ
   simp[m2,hx]
  have hrd:zF ((K.put h (.raw (.cells [sv,.m (some mb),.i .i64 (seq+1)]))).put b1 (.raw (.cells x.cells))) (some (b1,0)) (1 * 3)=some x.cells:=by
   simp[zF,AB.read,cut,hxc,zq]
  have hxone:x.cells.all AV.one=true:=by rw[hxc];simp
  have hxlen:x.cells.length=3:=by rw[hxc];rfl
  have hnb1:=nb h1
  have hmb1:=nb h2
  have wl:∀n:Nat,n≤1000000→wr .i64 (n:Int)=(n:Int):=fun n hn=>zS (by omega) (by omega)
  have tail:∀(b2:Nat) (Kb:Lg) (c:List AV),(∀r,r≠b2→r≠h→r≠b1→K r≠none→L r≠none∨r=mb→Kb r=K r)→Kb h=some (.raw (.cells [sv,.m (some mb),.i .i64 (seq+1)]))→b2≠h→K b2=none→c=yL (its++[x]) →
    (fun v16 L16=>za F .nilchk [.p (some (h,0))] L16 fun v17 L17=>za F (.fad 0) [v17] L17 fun v18 L18=>za F (.st 1) [v18,v16] L18 fun _ L19 =>
     za F .nilchk [.p (some (h,0))] L19 fun v20 L20=>za F (.fad 0) [v20] L20 fun v21 L21=>za F (.ld none) [v21] L21 fun v22 L22=>za F .lenSl [v22] L22 fun v23 L23 =>
     za F (.bin .sub) [v23,(.i .i64 1)] L23 fun v24 L24=>zd F k_f31 [.p (some (h,0)),v24] L24 fun v25 L25=>zl (some (.i .i64 0)) Q L25) (.sl (some (b2,0)) (its.length+1) (its.length+1) 3) (Kb.put b2 (.raw (.cells c))):=by
   intro b2 Kb c hKb hKh n3 hb2 hc2
   have nb2:∀{y:Nat} {k:LC},K y=some k→y≠b2:=fun hx hxr=>by rw[hxr,hb2]at hx;cases hx
   have hmb2:=nb2 h2
   simp[rdL,AB.read,zO,Lg.put_apply,Ne.symm n3,hKh,stL,wrL,xf,wl its.length (by omega)]
   refine upcall ⟨.sl (some (b2,0)) (its.length+1) (its.length+1) 3,mb,es,ze _ _ _,?_,h3,h4,h5,.inr ⟨b2,its.length+1,[],by simp,?_,by simp,n3,Ne.symm hmb2,(ho.ne hb2).2⟩,?_⟩
   ·have:=hKb mb hmb2 h4 hmb1 (by rw[h2];simp) (.inr rfl)
    simp[Lg.put_apply,h4,hmb2,this,h2]
   ·simp[Lg.put_apply,n3,hc2]
   ·intro r d hr hd
    have hk:=h7 r d hr hd
    have c1:r≠b1:=by rintro rfl;rw[hk]at hb1;cases hb1
    have c2:r≠b2:=by rintro rfl;rw[hk]at hb2;cases hb2
    have:=hKb r c2 hr c1 (by rw[hk];simp) (.inl (by rw[hd];simp))
    simp[Lg.put_apply,hr,c2,this,hk]
  rcases h6 with⟨rfl,rfl⟩ | ⟨b,cap,sp,rfl,a2,a3,a4,a5,a6⟩
  ·simp
   refine wV (m:=1) hrd hxone (by omega) (by omega) (old:=[]) (by simp[zF]) (by simp[Zd];rfl) ?_
   intro b2 hb2
   have n2:b2≠b1:=by rintro rfl;simp at hb2
   have n3:b2≠h:=by rintro rfl;simp[Lg.put_apply,hnb1]at hb2
   rw[zb _ _ _ n2,zb _ _ _ n3]at hb2
   refine tail b2 _ _ ?_ ?_ n3 hb2 ?_
   ·intro r c1 c2 c3 _ _;simp[Lg.put_apply,c2,c3]
   ·simp[Lg.put_apply,hnb1]
   ·simp[yL]
  ·have n3:=nb a2
   have eb:((K.put h (.raw (.cells [.sl (some (b,0)) its.length cap 3,.m (some mb),.i .i64 (seq+1)]))).put b1 (.raw (.cells x.cells))) b=some (.raw (.cells (yL its++sp))):=by
    simp[Lg.put_apply,n3,a4,a2]
   by_cases hcap:its.length+1≤cap
   ·have hle:its.length * 3+x.cells.length≤(yL its++sp).length:=by rw[List.length_append,xD,hxlen];omega
    have hsp:zo (yL its++sp) (its.length * 3) x.cells=yL (its++[x])++sp.drop 3:=by
     unfold zo
     rw[←xD its,List.take_left,←List.drop_drop,List.drop_left,wA,hxlen]
     simp[yL]
    simp
    refine Wp (m:=1) hrd hxone hcap (by omega) (L':=(((K.put h (.raw (.cells [.sl (some (b,0)) its.length cap 3,.m (some mb),.i .i64 (seq+1)]))).put b1 (.raw (.cells x.cells))).put b (.raw (.cells (yL (its++[x])++sp.drop 3))))) ?_ ?_
    ·simp only[wrL,Nat.zero_add,eb,hle,hxone,and_self,if_true,hsp]
    ·simp[rdL,AB.read,zO,Lg.put_apply,hnb1,Ne.symm a4,stL,wrL,xf,wl its.length (by omega)]
     refine upcall ⟨.sl (some (b,0)) (its.length+1) cap 3,mb,es,ze _ _ _,?_,h3,h4,h5,.inr ⟨b,cap,sp.drop 3,by simp,?_,?_,a4,a5,a6⟩,?_⟩
     ·simp[Lg.put_apply,h4,hmb1,Ne.symm a5,h2]
     ·simp[Lg.put_apply,a4]
     ·simp;omega
     ·intro r d hr hd
      have hk:=h7 r d hr hd
      have c1:r≠b1:=by rintro rfl;rw[hk]at hb1;cases hb1
      have c2:r≠b:=by rintro rfl;rw[a6]at hd;cases hd
      simp[Lg.put_apply,hr,c1,c2,hk]
   ·have hsp0:sp=[]:=List.length_eq_zero_iff.1 (by omega)
    subst hsp0
    have hcut:its.length * 3≤(yL its).length:=by rw[xD];omega
    have htake:(yL its).take (its.length * 3)=yL its:=List.take_of_length_le (by rw[xD];omega)
    simp
    refine wV (m:=1) hrd hxone hcap (by omega) (old:=yL its) ?_ (L':=(((K.put h (.raw (.cells [.sl (some (b,0)) its.length cap 3,.m (some mb),.i .i64 (seq+1)]))).put b1 (.raw (.cells x.cells))).del b)) ?_ ?_
    ·simp only[zF,eb,AB.read,List.append_nil,cut,zq,Nat.zero_add,hcut,decide_true,cond_true,List.drop_zero,htake]
    ·simp only[Zd,eb];simp
    ·intro b2 hb2
     have n2:b2≠b1:=by rintro rfl;simp at hb2
     have n4:b2≠h:=by rintro rfl;simp[Lg.put_apply,hnb1]at hb2
     rw[zb _ _ _ n2,zb _ _ _ n4]at hb2
     refine tail b2 _ _ ?_ ?_ n4 hb2 ?_
     ·intro r c1 c2 c3 _ hor
      have c4:r≠b:=by
       rintro rfl
       rcases hor with h9 | h9
       ·exact h9 a6
       ·exact a5 h9
      simp[Lg.put_apply,yM,c2,c3,c4]
     ·simp[Lg.put_apply,yM,hnb1,Ne.symm a4]
     ·rw[wA];simp[yL]
 ·simp[rdL,AB.read,zO,h1,w9,h2,h3.find id,m1]
  refine⟨L,hb,?_⟩
  subst hQ
  simp[m2]
end
end
section
variable {F:Nat→Option AFn}
theorem zgD {s r o len cap ex m:Nat}{j:IntKind}(h1:m≤cap)(h2:ex=0∨ex=s):zaP s false true false [.sl (some (r,o)) len cap ex,.i j (m:Int)]=some (.sl (some (r,o)) m cap ex):=by
 show (bif Nat.ble 0 m&&Nat.ble m cap&&Nat.ble cap cap&&(Nat.beq ex 0||Nat.beq ex s)then _ else _)=_
 have:(Nat.beq ex 0||Nat.beq ex s)=true:=by rcases h2 with rfl | rfl<;>simp[zp]
 simp[zq,h1,this]
section
variable {L L0 K:Lg} {h:Nat} {its l:List It} {mp:Int→Option Int} {seq:Int}
theorem xr.sub (ho:xr L0 h its mp seq K)(hs:∀r d,r≠h→L r=some d→L0 r=some d):xr L h its mp seq K:=by
 obtain⟨sv,mb,es,h1,h2,h3,h4,h5,h6,h7⟩:=ho
 have hn:∀r,r≠h→L0 r=none→L r=none:=by
  intro r hr h0
  cases e:L r with
  | none=>rfl
  | some d=>rw[hs r d hr e]at h0;cases h0
 refine⟨sv,mb,es,h1,h2,h3,h4,hn mb h4 h5,?_,fun r d hr hd=>h7 r d hr (hs r d hr hd)⟩
 rcases h6 with h6 | ⟨b,cap,sp,a1,a2,a3,a4,a5,a6⟩
 ·exact .inl h6
 ·exact .inr ⟨b,cap,sp,a1,a2,a3,a4,a5,hn b a4 a6⟩
theorem xr.putOld (ho:xr L h its mp seq K){r:Nat}{d:LC}(hr:r≠h)(hd:L r=some d)(d':LC):xr (L.put r d') h its mp seq (K.put r d'):=by
 obtain⟨sv,mb,es,h1,h2,h3,h4,h5,h6,h7⟩:=ho
 have n1:mb≠r:=by rintro rfl;rw[hd]at h5;cases h5
 refine⟨sv,mb,es,by rw[zb _ _ _ (Ne.symm hr)];exact h1,by rw[zb _ _ _ n1];exact h2,h3,h4,by rw[zb _ _ _ n1];exact h5,?_,?_⟩
 ·rcases h6 with h6 | ⟨b,cap,sp,a1,a2,a3,a4,a5,a6⟩
  ·exact .inl h6
  ·have n2:b≠r:=by rintro rfl;rw[hd]at a6;cases a6
   exact .inr ⟨b,cap,sp,a1,by rw[zb _ _ _ n2];exact a2,a3,a4,a5,by rw[zb _ _ _ n2];exact a6⟩
 ·intro x k hx hk
  rw[Lg.put_apply]at hk ⊢
  split
  ·rename_i h9;rw[if_pos h9]at hk;exact hk
  ·rename_i h9;rw[if_neg h9]at hk;exact h7 x k hx hk
theorem Zf {A:List It}{n j:Nat}(hj:j<n):gA (A.take n) j=gA A j:=by
 simp[gA,List.getElem?_take,hj]
theorem zfl {A:List It}{mp:Int→Option Int}(hc:Wz A mp)(hn:0<A.length):Wz (A.take (A.length-1)) (yN mp (gA A (A.length-1)).id none):=by
 have hl:(A.take (A.length-1)).length=A.length-1:=by simp
 refine⟨?_,?_,?_⟩
 ·intro j k hj hk e
  rw[hl]at hj hk
  rw[Zf hj,Zf hk]at e
  exact hc.1 j k (by omega) (by omega) e
 ·intro j hj
  rw[hl]at hj
  rw[Zf hj]
  unfold yN
  have:(gA A (A.length-1)).id≠(gA A j).id:=fun e=>by have:=hc.1 _ _ (by omega) (by omega) e;omega
  rw[if_neg this]
  exact hc.2.1 j (by omega)
 ·intro k v hk
  unfold yN at hk
  split at hk
  ·cases hk
  ·rename_i hne
   obtain⟨j,hj,hv,hid⟩:=hc.2.2 k v hk
   have:j≠A.length-1:=by rintro rfl;exact hne hid
   exact⟨j,by rw[hl];omega,hv,by rw[Zf (by omega)];exact hid⟩
theorem zeR {A:List It}(hh:vO A):vO (A.take (A.length-1)):=by
 intro j h0 hj
 simp at hj
 have:=vc h0
 rw[Zf (by omega),Zf (by omega)]
 exact hh j h0 (by omega)
theorem zfk {A:List It}{mp:Int→Option Int}(hc:Wz A mp){i:Nat}(hi:i<A.length-1) :
  Wz ((A.take (A.length-1)).set i (gA A (A.length-1))) (yN (yN mp (gA A i).id none) (gA A (A.length-1)).id (some (i:Int))):=by
 have hl:(A.take (A.length-1)).length=A.length-1:=by simp
 have hg:∀j,j<A.length-1→gA ((A.take (A.length-1)).set i (gA A (A.length-1))) j=if i=j then gA A (A.length-1)else gA A j:=by
  intro j hj;rw[zaf (by rw[hl];exact hi)];split
  ·rfl
  ·exact Zf hj
 have hl':((A.take (A.length-1)).set i (gA A (A.length-1))).length=A.length-1:=by simp
 have huniq:∀j k,j<A.length→k<A.length→(gA A j).id=(gA A k).id→j=k:=hc.1
 refine⟨?_,?_,?_⟩
 ·intro j k hj hk e
  rw[hl']at hj hk
  rw[hg j hj,hg k hk]at e
  by_cases j1:i=j<;>by_cases k1:i=k
  ·omega
  ·simp only[j1,if_true]at e
   rw[if_neg (by omega)]at e
   have:=huniq _ _ (by omega) (by omega) e;omega
  ·simp only[k1,if_true]at e
   rw[if_neg (by omega)]at e
   have:=huniq _ _ (by omega) (by omega) e;omega
  ·simp only[j1,k1,if_false]at e
   exact huniq _ _ (by omega) (by omega) e
 ·intro j hj
  rw[hl']at hj
  rw[hg j hj]
  unfold yN
  by_cases j1:i=j
  ·simp[j1]
  ·simp only[j1,if_false]
   have n1:(gA A (A.length-1)).id≠(gA A j).id:=fun e=>by have:=huniq _ _ (by omega) (by omega) e;omega
   have n2:(gA A i).id≠(gA A j).id:=fun e=>by have:=huniq _ _ (by omega) (by omega) e;omega
   rw[if_neg n1,if_neg n2]
   exact hc.2.1 j (by omega)
 ·intro k v hk
  unfold yN at hk
  split at hk
  ·rename_i h1;cases hk
   exact⟨i,by rw[hl'];exact hi,rfl,by rw[hg i hi,if_pos rfl];exact h1⟩
  ·rename_i h1
   split at hk
   ·cases hk
   ·rename_i h2
    obtain⟨j,hj,hv,hid⟩:=hc.2.2 k v hk
    have a1:j≠A.length-1:=by rintro rfl;exact h1 hid
    have a2:i≠j:=by rintro rfl;exact h2 hid
    exact⟨j,by rw[hl'];omega,hv,by rw[hg j (by omega),if_neg a2];exact hid⟩
theorem zgi {A:List It}(hh:vO A){i:Nat}(hi:i<A.length-1)(y:It):Exx ((A.take (A.length-1)).set i y) i:=by
 have hl:(A.take (A.length-1)).length=A.length-1:=by simp
 have hg:∀j,j<A.length-1→j≠i→gA ((A.take (A.length-1)).set i y) j=gA A j:=by
  intro j hj hji;rw[zaf (by rw[hl];exact hi),if_neg (Ne.symm hji)];exact Zf hj
 refine⟨fun j h0 hj hji hp=>?_,fun j h0 hj hp h00=>?_⟩
 ·simp at hj
  have:=vc h0
  rw[hg j (by omega) hji,hg _ (by omega) hp]
  exact hh j h0 (by omega)
 ·simp at hj
  have h1:=vc h0
  have h2:=vc h00
  rw[hg j (by omega) (by omega),hg _ (by omega) (by omega)]
  have a1:=hh j h0 (by omega)
  rw[hp]at a1
  exact ZV a1 (hh i h00 (by omega))
theorem Xw {A:List It}(hn:0<A.length):A.take (A.length-1)++[gA A (A.length-1)]=A:=by
 have h1:gA A (A.length-1)=A[A.length-1]:=by simp[gA,show A.length-1<A.length by omega]
 rw[h1]
 have:=List.take_append_getElem (l:=A) (i:=A.length-1) (by omega)
 rw[this]
 exact List.take_of_length_le (by omega)
theorem zd8 {A:List It}(hc:Ids A){i:Nat}(hi:i<A.length)(hp:A.Perm l):∀B:List It,(gA A i::B).Perm A→B.Perm (yS (gA A i).id l):=by
 intro B hB
 have h1:=(hB.trans hp).filter (fun y=>!decide (y.id=(gA A i).id))
 have h2:(gA A i::B).filter (fun y=>!decide (y.id=(gA A i).id))=B:=by
  rw[List.filter_cons]
  simp
  intro y hy
  -- one and no other has that number
  intro hid
  have hcnt:(A.filter fun y=>decide (y.id=(gA A i).id)).length≤1:=by
   have:∀(A:List It),Ids A→∀d,(A.filter fun y=>decide (y.id=d)).length≤1:=by
    intro A
    induction A with
    | nil=>intro _ d;simp
    | cons a r ih =>
     intro hA d
     have hr:Ids r:=by
      intro j k hj hk e
      have:=hA (j+1) (k+1) (by simpa using hj) (by simpa using hk) (by simpa[gA]using e)
      omega
     rw[List.filter_cons]
     split
     ·rename_i had
      simp at had
      have:(r.filter fun y=>decide (y.id=d))=[]:=by
       rw[List.filter_eq_nil_iff]
       intro z hz
       simp
       intro hzd
       obtain⟨k,hk,rfl⟩:=List.getElem_of_mem hz
       have:=hA 0 (k+1) (by simp) (by simpa using hk) (by simp[gA,hk,had,hzd])
       omega
      simp[this]
     ·exact ih hr d
   exact this A hc _
  have h3:=(hB.filter (fun y=>decide (y.id=(gA A i).id))).length_eq
  rw[List.filter_cons]at h3
  simp at h3
  have h4:0<(B.filter fun y=>decide (y.id=(gA A i).id)).length:=List.length_pos_iff.2 (by
   intro e9
   have:y∈B.filter fun y=>decide (y.id=(gA A i).id):=by simp[hy,hid]
   rw[e9]at this;cases this)
  omega
 rw[h2]at h1
 exact h1
theorem zfh {A:List It}(hc:Ids A)(hp:A.Perm l)(hn:0<A.length):(A.take (A.length-1)).Perm (yS (gA A (A.length-1)).id l):=by
 refine zd8 hc (by omega) hp _ ?_
 have h1:=Xw hn
 have h2:(gA A (A.length-1)::A.take (A.length-1)).Perm (A.take (A.length-1)++[gA A (A.length-1)]):=List.perm_append_comm (l₁:=[gA A (A.length-1)])
 rw[h1]at h2
 exact h2
theorem zeX {A:List It}(hc:Ids A)(hp:A.Perm l){i:Nat}(hi:i<A.length-1):((A.take (A.length-1)).set i (gA A (A.length-1))).Perm (yS (gA A i).id l):=by
 refine zd8 hc (by omega) hp _ ?_
 have h1:=Ys (gA A (A.length-1)) (A.take (A.length-1)) i (by simp;omega)
 have h2:(A.take (A.length-1))[i]'(by simp;omega)=gA A i:=by
  simp[gA,show i<A.length by omega]
 rw[h2]at h1
 refine h1.trans ?_
 have h4:(gA A (A.length-1)::A.take (A.length-1)).Perm (A.take (A.length-1)++[gA A (A.length-1)]):=List.perm_append_comm (l₁:=[gA A (A.length-1)])
 rw[Xw (by omega)]at h4
 exact h4
theorem za5 {A:List It}(sp:List AV)(hn:0<A.length):yL A++sp=yL (A.take (A.length-1))++((gA A (A.length-1)).cells++sp):=by
 have h1:yL A=yL (A.take (A.length-1)++[gA A (A.length-1)]):=by rw[Xw hn]
 rw[h1,wA]
 simp[yL]
theorem Y0 (hf:H_f33 F)(e:L h=some (.abs (wb h l seq)))(hl:l.length≤1000000)(id:Int) :
  zd F k_f33 [.p (some (h,0)),.i .i64 id] L fun v L'=>v=ww (yQ id l)∧L'=L.put h (.abs (wb h (yS id l) seq)):=by
 apply Z0 e
 intro its mp K ho hc hh hp
 have plen:=hp.length_eq
 apply r_f33 hf.code
 generalize hQ:(fun (v:AV) (L':Lg)=>v=ww (yQ id l)∧L'=L.put h (.abs (wb h (yS id l) seq)))=Q
 unfold D_f33_1 D_f33_2
 simp
 intro rc hrc
 have z1:=ho.onto hrc (.raw (.cells [.i .i64 0,.i .i64 0,.i .i64 0]))
 have nrc:=ho.ne hrc
 refine (zdd hf.f25 z1 hc hp id).mono ?_
 rintro _ K1 ⟨rfl,rfl⟩
 rcases hc.find hp id with⟨m1,m2⟩ | ⟨j,hj,m1,m2,m3⟩
 ·rw[m2]at hQ ⊢
  simp[ww,It.av]
  intro x6 hx6
  have nx6:=z1.ne hx6
  rw[zw (ze _ _ _) (by simp[It.cells]) (by simp[It.cells]) (by simp),zA]
  have n6:x6≠rc:=by rintro rfl;simp at hx6
  unfold D_f33_3
  have erc:((K.put rc (.raw (.cells [.i .i64 0,.i .i64 0,.i .i64 0]))).put x6 (.raw (.cells (zo [.i .i64 0,.i .i64 0,.i .i64 0] 0 It.zero.cells)))) rc=some (.raw (.cells [.i .i64 0,.i .i64 0,.i .i64 0])):=by
   rw[zb _ _ _ (Ne.symm n6),ze]
  simp[zE]
  rw[zw erc (by simp) (by simp) (by simp)]
  rw[zU _ _ (ze _ _ _) (by simp[zo])]
  refine⟨L,?_,?_⟩
  ·have hb:=ho.back hc hh hp e
   refine zu.trans (zu.drop ?_) hb
   intro r d hr
   have c1:r≠rc:=by rintro rfl;rw[hrc]at hr;cases hr
   have c2:r≠x6:=by
    rintro rfl
    rw[zb _ _ _ n6,hr]at hx6;cases hx6
   simp[Lg.put_apply,c1,c2,hr]
  ·subst hQ
   refine⟨rfl,?_⟩
   have:yS id l=l:=by
    unfold yS
    rw[List.filter_eq_self]
    intro y hy
    unfold yQ at m2
    rw[List.find?_eq_none]at m2
    have:=m2 y hy
    simpa using this
   rw[this,yc L h _ e]
 ·rw[m2]at hQ ⊢
  obtain⟨x,hx⟩:∃x,x=gA its j:=⟨_,rfl⟩
  rw[←hx]at hQ m3 ⊢
  simp[ww,It.av]
  intro x6 hx6
  have nx6:=z1.ne hx6
  have z2:=z1.onto hx6 (.raw (.cells x.cells))
  rw[zw (ze _ _ _) (by simp[It.cells]) (by simp[It.cells]) (by simp),zA,show zo [AV.i .i64 0,.i .i64 0,.i .i64 0] 0 x.cells=x.cells by simp[zo,It.cells]]
  unfold D_f33_3 D_f33_4
  have hpos:0<its.length:=by omega
  obtain⟨n,hn⟩:∃n,n=its.length-1:=⟨_,rfl⟩
  have w1:wr .i64 ((its.length:Int)-1)=(n:Int):=by rw[zS (by omega) (by omega)];omega
  obtain⟨lastI,hlast⟩:∃y,y=gA its n:=⟨_,rfl⟩
  have z2':=z2
  obtain⟨sv,mb,es,h1,h2,h3,h4,h5,h6,h7⟩:=z2'
  rcases h6 with⟨rfl,_⟩ | ⟨b,cap,sp,rfl,a2,a3,a4,a5,a6⟩
  ·simp at hpos
  have en:(n:Int)<(its.length:Int):=by omega
  have hat:=wo its n lastI sp (by rw[hlast];exact X0 (by omega))
  have hat2:=hat.2
  rw[List.length_append]at hat2
  have hncap:n≤cap:=by omega
  simp[rdL,AB.read,zO,h1,h2,w9,h3.find id,m1,w1]
  unfold D_f33_5
  simp[rdL,AB.read,zO,h1,yF _ _ _ 3 b 0 its.length cap 3 .i64 (n:Int) (Int.natCast_nonneg _) en,a2,cut,zq,hat.1,hat2]
  intro x10 hx10
  have nx10:=z2.ne hx10
  have z3:=z2.onto hx10 (.raw (.cells lastI.cells))
  rw[zw (ze _ _ _) (by simp[It.cells]) (by simp[It.cells]) (by simp),zA,show zo [AV.i .i64 0,.i .i64 0,.i .i64 0] 0 lastI.cells=lastI.cells by simp[zo,It.cells]]
  obtain⟨L0,hL0⟩:∃L0,L0=((L.put rc (.raw (.cells [.i .i64 0,.i .i64 0,.i .i64 0]))).put x6 (.raw (.cells x.cells))).put x10 (.raw (.cells lastI.cells)):=⟨_,rfl⟩
  rw[←hL0]at z3
  have n6:x6≠rc:=by rintro rfl;simp at hx6
  have n10:x10≠x6:=by rintro rfl;simp at hx10
  have n10':x10≠rc:=by rintro rfl;rw[zb _ _ _ n10,ze]at hx10;cases hx10
  have r10:L0 x10=some (.raw (.cells lastI.cells)):=by rw[hL0];exact ze _ _ _
  have r6:L0 x6=some (.raw (.cells x.cells)):=by rw[hL0,zb _ _ _ (Ne.symm n10)];exact ze _ _ _
  have rrc:L0 rc=some (.raw (.cells [.i .i64 0,.i .i64 0,.i .i64 0])):=by rw[hL0,zb _ _ _ (Ne.symm n10'),zb _ _ _ (Ne.symm n6)];exact ze _ _ _
  have hsub:∀r d,r≠h→L r=some d→L0 r=some d:=by
   intro r d hr hd
   have c1:r≠rc:=by rintro rfl;rw[nrc.2]at hd;cases hd
   have c2:r≠x6:=by
    rintro rfl
    have:=nx6.2
    rw[zb _ _ _ n6,hd]at this;cases this
   have c3:r≠x10:=by
    rintro rfl
    have:=nx10.2
    rw[zb _ _ _ n10,zb _ _ _ n10',hd]at this;cases this
   rw[hL0];simp[Lg.put_apply,c1,c2,c3,hd]
  -- the end: what was there is handed out
  have fin2:∀{its':List It} {mp':Int→Option Int} {K':Lg},xr L0 h its' mp' seq K'→Wz its' mp'→vO its'→its'.Perm (yS id l) →
    stL 3 K' (fun _ L19=>zl (yz Env.nil Env.nil L19 [.cell (.c (.p (some (rc,0)))) (some 3),.tmp (.c (.b true))]) Q L19) [.p (some (rc,0)),.agg x.cells]:=by
   intro its' mp' K' ho' hc' hh' hp'
   have krc:=ho'.old nrc.1 rrc
   rw[zw krc (by simp[It.cells]) (by simp[It.cells]) (by simp)]
   rw[zU _ _ (ze _ _ _) (by simp[zo,It.cells])]
   have ho2:=(ho'.putOld nrc.1 rrc (.raw (.cells (zo [.i .i64 0,.i .i64 0,.i .i64 0] 0 x.cells)))).sub (L:=L) (fun r d hr hd=>by
    have c1:r≠rc:=by rintro rfl;rw[nrc.2]at hd;cases hd
    rw[zb _ _ _ c1];exact hsub r d hr hd)
   refine⟨_,ho2.shut hc' hh' hp',?_⟩
   subst hQ
   exact⟨by simp[zo,It.cells,It.av,ww],rfl⟩
  have fin:∀{its':List It} {mp':Int→Option Int} {K':Lg},xr L0 h its' mp' seq K'→Wz its' mp'→vO its'→its'.Perm (yS id l) →
    za F (.ld (some 3)) [.p (some (x6,0))] K' fun v18 L18=>za F (.st 3) [.p (some (rc,0)),v18] L18 fun _ L19 =>
     zl (yz Env.nil Env.nil L19 [.cell (.c (.p (some (rc,0)))) (some 3),.tmp (.c (.b true))]) Q L19:=by
   intro its' mp' K' ho' hc' hh' hp'
   have k6:=ho'.old nx6.1 r6
   simp[yj k6 (show 0+3≤x.cells.length by simp[It.cells])]
   have:AV.agg (List.take 3 x.cells)=.agg x.cells:=by simp[It.cells]
   rw[this]
   exact fin2 ho' hc' hh' hp'
  obtain⟨K3,hK3⟩:∃K3,K3=((K.put rc (.raw (.cells [.i .i64 0,.i .i64 0,.i .i64 0]))).put x6 (.raw (.cells x.cells))).put x10 (.raw (.cells lastI.cells)):=⟨_,rfl⟩
  rw[←hK3]at z3 ⊢
  clear h1 h2 h3 h4 h5 h7 a2 a3 a4 a5 a6 hat hat2 hncap hK3
  unfold D_f33_6
  have zz:=z3
  obtain⟨sv,mb,es,h1,h2,h3,h4,h5,h6,h7⟩:=z3
  rcases h6 with⟨rfl,_⟩ | ⟨b,cap,sp,rfl,a2,a3,a4,a5,a6⟩
  ·simp at hpos
  have hncap:n≤cap:=by omega
  have hb10:x10≠h:=nx10.1
  simp[rdL,AB.read,zO,h1,zgD hncap (.inr rfl),zH h1]
  unfold D_f33_7
  obtain⟨es',hes,hM⟩:=h3.del id
  have nbm:x10≠mb:=by rintro rfl;rw[h5]at r10;cases r10
  have nb6:x6≠mb:=by rintro rfl;rw[h5]at r6;cases r6
  -- the row without the last one
  have hrow:xr L0 h (its.take n) (yN mp id none) seq ((K3.put h (.raw (.cells ([.sl (some (b,0)) its.length cap 3,.m (some mb),.i .i64 seq].set 0 (.sl (some (b,0)) n cap 3))))).put mb (.raw (.map es'))) :=
   ⟨.sl (some (b,0)) n cap 3,mb,es',by rw[zb _ _ _ (Ne.symm h4),ze];rfl,ze _ _ _,hM,h4,h5,
    .inr ⟨b,cap,lastI.cells++sp,by rw[List.length_take];congr 1;omega,by rw[zb _ _ _ a5,zb _ _ _ a4,a2,hlast,hn,za5 sp hpos],by simp[It.cells];omega,a4,a5,a6⟩,
    fun r d hr hd=>by
     have c1:r≠mb:=by rintro rfl;rw[h5]at hd;cases hd
     rw[zb _ _ _ c1,zb _ _ _ hr];exact h7 r d hr hd⟩
  have k310:=h7 x10 _ nx10.1 r10
  have k36:=h7 x6 _ nx6.1 r6
  have el3:3≤lastI.cells.length:=by simp[It.cells]
  have ex3:3≤x.cells.length:=by simp[It.cells]
  have el:AV.agg (List.take 3 lastI.cells)=lastI.av:=by simp[It.cells,It.av]
  have exx:AV.agg (List.take 3 x.cells)=.agg x.cells:=by simp[It.cells]
  by_cases hjn:j<n
  ·have hjn':(j:Int)<(n:Int):=by omega
   have k10:=hrow.old nx10.1 r10
   have hfill:=zfk hc (i:=j) (by omega)
   have hexx:=zgi hh (i:=j) (by omega) (gA its (its.length-1))
   have hpm:=zeX hc.1 hp (i:=j) (by omega)
   rw[←hn,←hlast,←hx,m3]at hfill hpm
   rw[←hn,←hlast]at hexx
   simp[rdL,AB.read,zO,h4,Ne.symm h4,V1,Lg.put_apply,h2,hes,hjn,hjn',nbm,nx10.1,k310,cut,zq,el3,el]
   refine (Zb hf.f26 hrow j (by rw[List.length_take];omega) lastI).mono ?_
   rintro _ K4 ⟨rfl,ho4⟩
   have hl4:((its.take n).set j lastI).length=n:=by simp;omega
   refine (zcr hf.f31 ho4 j (by rw[hl4];omega) (by rw[hl4];omega) (hfill.hole j) hexx).mono ?_
   rintro _ K5 ⟨rfl,A',mp',p1,ho5,hc5,_,i',hi',hg,hdn⟩
   have hg2:gA A' i'=lastI:=by rw[hg,zaf (by simp;omega),if_pos rfl]
   have hlk:mp' lastI.id=some (i':Int):=by rw[←hg2];exact hc5.2.1 i' hi'
   have hl5:=p1.length_eq
   have k10':=ho5.old nx10.1 r10
   have ho5':=ho5
   obtain⟨sv5,mb5,es5,g1,g2,g3,g4,g5,g6,g7⟩:=ho5'
   simp[rdL,AB.read,zO,g1,k10',It.cells,w9,g2,g3.find lastI.id,hlk]
   refine (zde hf.f32 ho5 i' hi' (by rw[hl5,hl4];omega) hc5 hdn).mono ?_
   rintro _ K6 ⟨rfl,A'',mp'',p2,ho6,hc6,hh6⟩
   exact fin ho6 hc6 hh6 ((p2.trans p1).trans hpm)
  ·have hjn2:j=n:=by omega
   have hjn':¬(j:Int)<(n:Int):=by omega
   have hxl:x=lastI:=by rw[hx,hlast,hjn2]
   have hcd:=zfl hc hpos
   have hpd:=zfh hc.1 hp hpos
   rw[←hn,←hlast,←hxl,m3]at hcd hpd
   have hhd:=zeR hh
   rw[←hn]at hhd
   simp[rdL,AB.read,zO,h4,Ne.symm h4,V1,Lg.put_apply,h2,hes,hjn,hjn',nb6,nx6.1,k36,cut,zq,ex3,exx]
   exact fin2 hrow hcd hhd hpd
theorem zeM (hf:H_f44 F)(e:L h=some (.abs (wb h l seq)))(hs:l.Pairwise It.lt)(hl:l.length≤1000000):zd F k_f44 [.p (some (h,0))] L fun v L'=>v=ww l.head? ∧
  L'=match (generalizing:=false) l with
   | []=>L
   | x::r=>L.put h (.abs (wb h (yS x.id (x::r)) seq)):=by
 apply r_f44 hf.code
 generalize hQ:(fun (v:AV) (L':Lg)=>v=ww l.head?∧L'=match (generalizing:=false) l with
   | []=>L
   | x::r=>L.put h (.abs (wb h (yS x.id (x::r)) seq)))=Q
 unfold D_f44_1
 simp
 intro rc hrc
 have nrc:rc≠h:=by rintro rfl;rw[e]at hrc;cases hrc
 have e1:(L.put rc (.raw (.cells [.i .i64 0,.i .i64 0,.i .i64 0]))) h=some (.abs (wb h l seq)):=by rw[zb _ _ _ (Ne.symm nrc)];exact e
 refine (U9 hf.f42 e1 hs).mono ?_
 rintro _ K1 ⟨rfl,rfl⟩
 cases hl0:l with
 | nil =>
  rw[hl0]at hQ
  simp[ww,It.av]
  intro x5 hx5
  have n5:x5≠rc:=by rintro rfl;simp at hx5
  rw[zw (ze _ _ _) (by simp[It.cells]) (by simp[It.cells]) (by simp),zA]
  have erc:((L.put rc (.raw (.cells [.i .i64 0,.i .i64 0,.i .i64 0]))).put x5 (.raw (.cells (zo [.i .i64 0,.i .i64 0,.i .i64 0] 0 It.zero.cells)))) rc=some (.raw (.cells [.i .i64 0,.i .i64 0,.i .i64 0])):=by
   rw[zb _ _ _ (Ne.symm n5),ze]
  simp
  rw[yj (ze _ _ _) (by simp[zo,It.cells])]
  simp
  rw[zw erc (by simp[zo,It.cells]) (by simp[zo,It.cells]) (by simp)]
  rw[zU _ _ (ze _ _ _) (by simp[zo,It.cells])]
  refine⟨L,zu.drop ?_,?_⟩
  ·intro r d hr
   have c1:r≠rc:=by rintro rfl;rw[hrc]at hr;cases hr
   have c2:r≠x5:=by rintro rfl;rw[zb _ _ _ n5,hr]at hx5;cases hx5
   simp[Lg.put_apply,c1,c2,hr]
  ·subst hQ
   exact⟨by simp[zo,It.cells,It.zero,It.av,ww],rfl⟩
 | cons x r =>
  rw[hl0]at hQ
  simp[ww,It.av]
  intro x5 hx5
  have n5:x5≠rc:=by rintro rfl;simp at hx5
  have n5h:x5≠h:=by rintro rfl;rw[e1]at hx5;cases hx5
  rw[zw (ze _ _ _) (by simp[It.cells]) (by simp[It.cells]) (by simp),zA,show zo [AV.i .i64 0,.i .i64 0,.i .i64 0] 0 x.cells=x.cells by simp[zo,It.cells]]
  have e2:((L.put rc (.raw (.cells [.i .i64 0,.i .i64 0,.i .i64 0]))).put x5 (.raw (.cells x.cells))) h=some (.abs (wb h (x::r) seq)):=by rw[zb _ _ _ (Ne.symm n5h),e1,hl0]
  simp[rdL,AB.read,zO,It.cells]
  rw[hl0]at hl
  refine (Y0 hf.f33 e2 hl x.id).mono ?_
  rintro _ K2 ⟨rfl,rfl⟩
  have k5:(((L.put rc (.raw (.cells [.i .i64 0,.i .i64 0,.i .i64 0]))).put x5 (.raw (.cells x.cells))).put h (.abs (wb h (yS x.id (x::r)) seq))) x5=some (.raw (.cells x.cells)):=by
   rw[zb _ _ _ n5h,ze]
  have krc:(((L.put rc (.raw (.cells [.i .i64 0,.i .i64 0,.i .i64 0]))).put x5 (.raw (.cells x.cells))).put h (.abs (wb h (yS x.id (x::r)) seq))) rc=some (.raw (.cells [.i .i64 0,.i .i64 0,.i .i64 0])):=by
   rw[zb _ _ _ nrc,zb _ _ _ (Ne.symm n5),ze]
  simp[yj k5 (show 0+3≤x.cells.length by simp[It.cells])]
  have:AV.agg (List.take 3 x.cells)=.agg x.cells:=by simp[It.cells]
  rw[this,zw krc (by simp[It.cells]) (by simp[It.cells]) (by simp)]
  rw[zU _ _ (ze _ _ _) (by simp[zo,It.cells])]
  refine⟨L.put h (.abs (wb h (yS x.id (x::r)) seq)),zu.drop ?_,?_⟩
  ·intro y d hr
   rw[Lg.put_apply]at hr
   have c1:y≠rc:=by
    rintro rfl
    rw[if_neg nrc,hrc]at hr;cases hr
   have c2:y≠x5:=by
    rintro rfl
    rw[if_neg n5h]at hr
    rw[zb _ _ _ n5,hr]at hx5;cases hx5
   simp[Lg.put_apply,c1,c2]
   exact hr
  ·subst hQ
   exact⟨by simp[zo,It.cells,It.av,ww],rfl⟩
theorem zeN (hf:H_f19 F):zd F k_f19 [] L fun v L'=>∃h,L h=none∧v=.p (some (h,0))∧L'=L.put h (.abs (wb h [] 0)):=by
 apply r_f19 hf.code
 unfold D_f19_1
 simp
 intro mb hmb
 simp[zE,zo,zq,zp]
 intro h hh
 have n1:h≠mb:=by rintro rfl;simp at hh
 rw[zb _ _ _ n1]at hh
 have ho:xr L h [] (fun _=>none) 0 ((L.put mb (.raw (.map []))).put h (.raw (.cells [.sl none 0 0 0,.m (some mb),.i .i64 0]))) :=
  ⟨_,mb,[],ze _ _ _,by rw[zb _ _ _ (Ne.symm n1),ze],V2,Ne.symm n1,hmb,.inl ⟨rfl,rfl⟩,fun r d hr hd=>by
   have c1:r≠mb:=by rintro rfl;rw[hmb]at hd;cases hd
   rw[zb _ _ _ hr,zb _ _ _ c1];exact hd⟩
 exact⟨_,ho.shut ⟨fun j k hj=>by simp at hj,fun j hj=>by simp at hj,fun k v hk=>by cases hk⟩ (fun j _ hj=>by simp at hj) (List.Perm.refl _),h,hh,rfl,rfl⟩
end
end
section
variable {F:Nat→Option AFn}
structure Xs where
 l:List It
 seq:Int
 pf:Int→Option Int
def Xs.stop (x:Xs)(id:Int):Xs:={ x with l:=yS id x.l,pf:=yN x.pf id none }
def Xs.armed (x:Xs)(id when period:Int):Xs:={ l:=ins ⟨id,when,x.seq+1⟩ (yS id x.l),seq:=x.seq+1,pf:=yN (yN x.pf id none) id (some period) }
def zfs (a b:Int):Bool:=decide (min a b<0)||decide (4611686018427387904<max a b)
def Xs.arm (x:Xs)(id when period:Int):Xs×Int:=if zfs when period=true then (x,1)else (x.armed id when period,0)
def Xs.next (x:Xs):Int×Bool:=match x.l.head? with
 | some y=>(y.w,true)
 | none=>(0,false)
def Xs.take (x:Xs)(now:Int):Xs×(Int×Int×Int)×Bool:=match x.l.head? with
 | none=>(x,(0,0,0),false)
 | some y=>if now<0∨now<y.w then (x,(0,0,0),false)else
  let p:=(x.pf y.id).getD 0
  let z:Xs:=x.stop y.id
  let c:=zy y.w p now
  (if c.2=0∧now<c.1 then (z.arm y.id c.1 p).1 else z,(y.id,y.w,now),true)
def TmP (t:Nat)(x:Xs)(hp:Hp):Prop:=∃(h pm:Nat) (es:List (AV×AV)) (M:Lg),M t=some (.raw (.cells [.p (some (h,0)),.m (some pm)]))∧M h=some (.abs (wb h x.l x.seq))∧M pm=some (.raw (.map es))∧zaE es x.pf∧h≠t∧pm≠t∧pm≠h∧Sat M hp
structure XOpen (L:Lg)(t:Nat)(x:Xs)(h pm:Nat)(K:Lg):Prop where
 root:K t=some (.raw (.cells [.p (some (h,0)),.m (some pm)]))
 heap:K h=some (.abs (wb h x.l x.seq))
 per:∃es,K pm=some (.raw (.map es))∧zaE es x.pf
 n1:h≠t
 n2:pm≠t
 n3:pm≠h
 f1:L h=none
 f2:L pm=none
 old:∀r d,r≠t→L r=some d→K r=some d
section
variable {L L0 K:Lg} {t h pm:Nat} {x:Xs}
theorem XOpen.shut (o:XOpen L t x h pm K):zu K (L.put t (.abs (TmP t x))):=by
 obtain⟨es,e1,e2⟩:=o.per
 refine yW (fun r=>r=t∨r=h∨r=pm) (.inl rfl) ?_ ?_ (.inl ⟨_,o.root⟩) ?_
 ·intro r d hr hd;simp only[not_or]at hr;exact o.old r d hr.1 hd
 ·rintro r (rfl | rfl | rfl) hr
  ·exact absurd rfl hr
  ·exact o.f1
  ·exact o.f2
 ·intro M hm hM hN hs
  exact⟨h,pm,es,M,by rw[hM t (.inl rfl)];exact o.root,by rw[hM h (.inr (.inl rfl))];exact o.heap,by rw[hM pm (.inr (.inr rfl))];exact e1,e2,o.n1,o.n2,o.n3,hs⟩
theorem ZX {f:Nat}{vs:List AV}{Q:AV→Lg→Prop}(e:L t=some (.abs (TmP t x)))(H:∀h pm K,XOpen L t x h pm K→zd F f vs K Q):zd F f vs L Q:=by
 apply yX e
 rintro hm ⟨h,pm,es,M,m1,m2,m3,m4,n1,n2,n3,hs⟩
 refine⟨M,hs,by rw[m1];simp,fun hf=>?_⟩
 have hover:∀b d,M b=some d→(M.over L) b=some d:=fun b d hb=>by simp[Lg.over,hb]
 refine H h pm (M.over L) ⟨hover _ _ m1,hover _ _ m2,⟨es,hover _ _ m3,m4⟩,n1,n2,n3,hf _ _ m2 n1,hf _ _ m3 n2,?_⟩
 intro r d hr hd
 cases hM:M r with
 | none=>simp[Lg.over,hM,hd]
 | some c=>rw[hf r c hM hr]at hd;cases hd
theorem XOpen.ne (o:XOpen L t x h pm K){r:Nat}(hr:K r=none):r≠t∧L r=none:=by
 have n:r≠t:=by rintro rfl;rw[o.root]at hr;cases hr
 refine⟨n,?_⟩
 cases e:L r with
 | none=>rfl
 | some d=>rw[o.old r d n e]at hr;cases hr
theorem XOpen.nes (o:XOpen L t x h pm K){r:Nat}(hr:K r=none):r≠t∧r≠h∧r≠pm:=by
 obtain⟨es,e1,_⟩:=o.per
 refine⟨?_,?_,?_⟩<;>rintro rfl
 ·rw[o.root]at hr;cases hr
 ·rw[o.heap]at hr;cases hr
 ·rw[e1]at hr;cases hr
theorem XOpen.onto (o:XOpen L t x h pm K){r:Nat}(hr:K r=none)(d:LC):XOpen (L.put r d) t x h pm (K.put r d):=by
 obtain⟨es,e1,e2⟩:=o.per
 obtain⟨c1,c2,c3⟩:=o.nes hr
 refine⟨by rw[zb _ _ _ (Ne.symm c1)];exact o.root,by rw[zb _ _ _ (Ne.symm c2)];exact o.heap,⟨es,by rw[zb _ _ _ (Ne.symm c3)];exact e1,e2⟩,o.n1,o.n2,o.n3,
  by rw[zb _ _ _ (Ne.symm c2)];exact o.f1,by rw[zb _ _ _ (Ne.symm c3)];exact o.f2,?_⟩
 intro y k hy hk
 rw[Lg.put_apply]at hk ⊢
 split
 ·rename_i h9;rw[if_pos h9]at hk;exact hk
 ·rename_i h9;rw[if_neg h9]at hk;exact o.old y k hy hk
theorem XOpen.putOld (o:XOpen L t x h pm K){r:Nat}{d:LC}(hr:r≠t)(hd:L r=some d)(d':LC):XOpen (L.put r d') t x h pm (K.put r d'):=by
 obtain⟨es,e1,e2⟩:=o.per
 have c2:r≠h:=by rintro rfl;rw[o.f1]at hd;cases hd
 have c3:r≠pm:=by rintro rfl;rw[o.f2]at hd;cases hd
 refine⟨by rw[zb _ _ _ (Ne.symm hr)];exact o.root,by rw[zb _ _ _ (Ne.symm c2)];exact o.heap,⟨es,by rw[zb _ _ _ (Ne.symm c3)];exact e1,e2⟩,o.n1,o.n2,o.n3,
  by rw[zb _ _ _ (Ne.symm c2)];exact o.f1,by rw[zb _ _ _ (Ne.symm c3)];exact o.f2,?_⟩
 intro y k hy hk
 rw[Lg.put_apply]at hk ⊢
 split
 ·rename_i h9;rw[if_pos h9]at hk;exact hk
 ·rename_i h9;rw[if_neg h9]at hk;exact o.old y k hy hk
theorem XOpen.sub (o:XOpen L0 t x h pm K)(hs:∀r d,r≠t→L r=some d→L0 r=some d):XOpen L t x h pm K:=by
 have hn:∀r,r≠t→L0 r=none→L r=none:=by
  intro r hr h0
  cases e:L r with
  | none=>rfl
  | some d=>rw[hs r d hr e]at h0;cases h0
 exact⟨o.root,o.heap,o.per,o.n1,o.n2,o.n3,hn h o.n1 o.f1,hn pm o.n2 o.f2,fun r d hr hd=>o.old r d hr (hs r d hr hd)⟩
theorem XOpen.setHeap (o:XOpen L t x h pm K)(l:List It)(seq:Int):XOpen L t { x with l:=l,seq:=seq } h pm (K.put h (.abs (wb h l seq))):=by
 obtain⟨es,e1,e2⟩:=o.per
 refine⟨by rw[zb _ _ _ (Ne.symm o.n1)];exact o.root,ze _ _ _,⟨es,by rw[zb _ _ _ o.n3];exact e1,e2⟩,o.n1,o.n2,o.n3,o.f1,o.f2,?_⟩
 intro r d hr hd
 have:r≠h:=by rintro rfl;rw[o.f1]at hd;cases hd
 rw[zb _ _ _ this];exact o.old r d hr hd
theorem XOpen.setPer (o:XOpen L t x h pm K){es:List (AV×AV)}{f:Int→Option Int}(hm:zaE es f):XOpen L t { x with pf:=f } h pm (K.put pm (.raw (.map es))):=by
 refine⟨by rw[zb _ _ _ (Ne.symm o.n2)];exact o.root,by rw[zb _ _ _ (Ne.symm o.n3)];exact o.heap,⟨es,ze _ _ _,hm⟩,o.n1,o.n2,o.n3,o.f1,o.f2,?_⟩
 intro r d hr hd
 have:r≠pm:=by rintro rfl;rw[o.f2]at hd;cases hd
 rw[zb _ _ _ this];exact o.old r d hr hd
theorem zdL (hf:H_f20 F):zd F k_f20 [] L fun v L'=>∃t,L t=none∧v=.p (some (t,0))∧L'=L.put t (.abs (TmP t ⟨[],0,fun _=>none⟩)):=by
 apply r_f20 hf.code
 unfold D_f20_1
 refine (zeN hf.f19).mono ?_
 rintro _ _ ⟨h,hh,rfl,rfl⟩
 simp
 intro pm hpm
 have n1:pm≠h:=by rintro rfl;simp at hpm
 rw[zb _ _ _ n1]at hpm
 simp[zE,zo,zq,zp]
 intro t ht
 have n2:t≠pm:=by rintro rfl;simp at ht
 have n3:t≠h:=by rintro rfl;simp[Lg.put_apply,Ne.symm n1]at ht
 rw[zb _ _ _ n2,zb _ _ _ n3]at ht
 have o:XOpen L t ⟨[],0,fun _=>none⟩ h pm (((L.put h (.abs (wb h [] 0))).put pm (.raw (.map []))).put t (.raw (.cells [.p (some (h,0)),.m (some pm)]))) :=
  ⟨ze _ _ _,by simp[Lg.put_apply,Ne.symm n3,Ne.symm n1],⟨[],by simp[Lg.put_apply,Ne.symm n2],V2⟩,Ne.symm n3,Ne.symm n2,n1,hh,hpm,fun r d hr hd=>by
   have c1:r≠h:=by rintro rfl;rw[hh]at hd;cases hd
   have c2:r≠pm:=by rintro rfl;rw[hpm]at hd;cases hd
   simp[Lg.put_apply,hr,c1,c2,hd]⟩
 exact⟨_,o.shut,t,ht,rfl,rfl⟩
theorem WT (hf:H_f34 F)(o:XOpen L t x h pm K)(hl:x.l.length≤1000000)(id:Int) :
  zd F k_f34 [.p (some (t,0)),.i .i64 id] K fun v K'=>v=.b (yQ id x.l).isSome∧XOpen L t (x.stop id) h pm K':=by
 apply r_f34 hf.code
 generalize hQ:(fun (v:AV) (K':Lg)=>v=.b (yQ id x.l).isSome∧XOpen L t (x.stop id) h pm K')=Q
 unfold D_f34_1
 simp[rdL,AB.read,zO,o.root]
 refine (Y0 hf.f33 o.heap hl id).mono ?_
 rintro _ _ ⟨rfl,rfl⟩
 have o2:=o.setHeap (yS id x.l) x.seq
 obtain⟨es,e1,e2⟩:=o2.per
 obtain⟨es',hd,hM⟩:=e2.del id
 have o3:=o2.setPer hM
 have key:∀z:It,∀r:Nat,(K.put h (.abs (wb h (yS id x.l) x.seq))) r=none→∀c:LC,
   za F .nilchk [.p (some (t,0))] ((K.put h (.abs (wb h (yS id x.l) x.seq))).put r c) fun v10 L10=>za F (.fad 1) [v10] L10 fun v11 L11=>za F (.ld none) [v11] L11 fun v12 L12=>za F .mdel [v12,.i .i64 id] L12 fun _ L13 =>
    zl (some (.b (yQ id x.l).isSome)) Q L13:=by
  intro z r hr c
  obtain⟨c1,c2,c3⟩:=o2.nes hr
  have o4:=(o2.onto hr c).setPer hM
  have hr1:((K.put h (.abs (wb h (yS id x.l) x.seq))).put r c) t=some (.raw (.cells [.p (some (h,0)),.m (some pm)])):=by rw[zb _ _ _ (Ne.symm c1)];exact o2.root
  have hr2:((K.put h (.abs (wb h (yS id x.l) x.seq))).put r c) pm=some (.raw (.map es)):=by rw[zb _ _ _ (Ne.symm c3)];exact e1
  simp[rdL,AB.read,zO,hr1,V1,hr2,hd]
  refine⟨_,zu.refl _,?_⟩
  subst hQ
  refine⟨rfl,o4.sub fun y d hy hyd=>?_⟩
  have:y≠r:=by rintro rfl;rw[(o2.ne hr).2]at hyd;cases hyd
  rw[zb _ _ _ this];exact hyd
 cases hfi:yQ id x.l with
 | none =>
  rw[hfi]at key
  simp[ww,It.av]
  intro r hr
  rw[zw (ze _ _ _) (by simp[It.cells]) (by simp[It.cells]) (by simp),zA]
  exact key It.zero r hr _
 | some y =>
  rw[hfi]at key
  simp[ww,It.av]
  intro r hr
  rw[zw (ze _ _ _) (by simp[It.cells]) (by simp[It.cells]) (by simp),zA]
  exact key y r hr _
theorem za9 (id:Int)(l:List It):yQ id (yS id l)=none:=by
 unfold yQ yS
 rw[List.find?_eq_none]
 intro y hy
 simp at hy
 simp[hy.2]
theorem vw (id:Int)(l:List It):(yS id l).length≤l.length:=List.length_filter_le _ _
theorem Ut (hf:H_f36 F)(o:XOpen L t x h pm K)(hl:x.l.length<1000000)(hq:0≤x.seq∧x.seq<4611686018427387904)(id when period:Int) :
  zd F k_f36 [.p (some (t,0)),.i .i64 id,.i .i64 when,.i .i64 period] K fun v K'=>v=.i .i64 (x.arm id when period).2∧XOpen L t (x.arm id when period).1 h pm K':=by
 apply r_f36 hf.code
 unfold D_f36_1 Xs.arm zfs
 generalize hQ:(fun (v:AV) (K':Lg)=>v=.i .i64 (if (decide (min when period<0)||decide (4611686018427387904<max when period))=true then (x,(1:Int))else (x.armed id when period,0)).2 ∧
  XOpen L t (if (decide (min when period<0)||decide (4611686018427387904<max when period))=true then (x,(1:Int))else (x.armed id when period,0)).1 h pm K')=Q
 by_cases c1:min when period<0
 ·simp[c1]
  refine⟨K,zu.refl _,?_⟩
  subst hQ
  simp[c1,o]
 ·by_cases c2:4611686018427387904<max when period
  ·simp[c1,c2]
   refine⟨K,zu.refl _,?_⟩
   subst hQ
   simp[c1,c2,o]
  ·simp[c1,c2]
   refine (WT hf.f34 o (by omega) id).mono ?_
   rintro _ K2 ⟨rfl,o2⟩
   obtain⟨es,e1,e2⟩:=o2.per
   obtain⟨es',hd,hM⟩:=e2.set id period
   have o3:=o2.setPer hM
   have hl2:(x.stop id).l.length<1000000:=Nat.lt_of_le_of_lt (vw id x.l) hl
   simp[rdL,AB.read,zO,o2.root,VY,e1,hd,Lg.put_apply,Ne.symm o2.n2]
   refine (zeS hf.f35 o3.heap hl2 hq id when).mono ?_
   intro v K4 hv
   have hn:yQ id (x.stop id).l=none:=za9 id x.l
   simp only[hn]at hv
   simp at hv
   obtain⟨rfl,rfl⟩:=hv
   refine⟨_,zu.refl _,?_⟩
   subst hQ
   simp[c1,c2]
   exact o3.setHeap _ _
theorem zcK (hf:H_f43 F)(o:XOpen L t x h pm K)(hs:x.l.Pairwise It.lt) :
  zd F k_f43 [.p (some (t,0))] K fun v K'=>v=.tup [.i .i64 x.next.1,.b x.next.2]∧K'=K:=by
 apply r_f43 hf.code
 generalize hQ:(fun (v:AV) (K':Lg)=>v=.tup [.i .i64 x.next.1,.b x.next.2]∧K'=K)=Q
 unfold D_f43_1
 simp[rdL,AB.read,zO,o.root]
 refine (U9 hf.f42 o.heap hs).mono ?_
 rintro _ K1 ⟨rfl,rfl⟩
 cases hh:x.l.head? with
 | none =>
  simp[ww,It.av]
  intro r hr
  rw[zw (ze _ _ _) (by simp[It.cells]) (by simp[It.cells]) (by simp),zA]
  simp[rdL,AB.read,zO,zo,It.cells,It.zero]
  refine⟨K1,((yq.refl _).put hr _).sees,?_⟩
  subst hQ
  simp[Xs.next,hh]
 | some y =>
  simp[ww,It.av]
  intro r hr
  rw[zw (ze _ _ _) (by simp[It.cells]) (by simp[It.cells]) (by simp),zA]
  simp[rdL,AB.read,zO,zo,It.cells]
  refine⟨K1,((yq.refl _).put hr _).sees,?_⟩
  subst hQ
  simp[Xs.next,hh]
def vL (d:Int×Int×Int)(ok:Bool):AV:=.tup [.agg [.i .i64 d.1,.i .i64 d.2.1,.i .i64 d.2.2],.b ok]
theorem zcI (hf:H_f45 F)(o:XOpen L t x h pm K)(hs:x.l.Pairwise It.lt)(hl:x.l.length<1000000)(hq:0≤x.seq∧x.seq<4611686018427387904)(now:Int) :
  zd F k_f45 [.p (some (t,0)),.i .i64 now] K fun v K'=>v=vL (x.take now).2.1 (x.take now).2.2∧XOpen L t (x.take now).1 h pm K':=by
 apply r_f45 hf.code
 generalize hQ:(fun (v:AV) (K':Lg)=>v=vL (x.take now).2.1 (x.take now).2.2∧XOpen L t (x.take now).1 h pm K')=Q
 unfold D_f45_1 D_f45_2
 simp
 intro rc hrc
 have o1:=o.onto hrc (.raw (.cells [.i .i64 0,.i .i64 0,.i .i64 0]))
 have nrc:=o.ne hrc
 refine (zcK hf.f43 o1 hs).mono ?_
 rintro _ _ ⟨rfl,rfl⟩
 unfold D_f45_3
 -- nothing is due
 have idle:∀{K1:Lg},K1=K.put rc (.raw (.cells [.i .i64 0,.i .i64 0,.i .i64 0]))→x.take now=(x,(0,0,0),false) →
   stL 3 K1 (fun _ L10=>zl (yz Env.nil Env.nil L10 [.cell (.c (.p (some (rc,0)))) (some 3),.tmp (.c (.b false))]) Q L10) [.p (some (rc,0)),.agg [.i .i64 0,.i .i64 0,.i .i64 0]]:=by
  rintro K1 rfl htk
  rw[zw (ze _ _ _) (by simp) (by simp) (by simp)]
  rw[zU _ _ (ze _ _ _) (by simp[zo])]
  refine⟨K,?_,?_⟩
  ·rw[zA];exact ((yq.refl _).put hrc _).sees
  ·subst hQ
   rw[htk]
   exact⟨by simp[zo,vL],o⟩
 cases hh:x.l.head? with
 | none =>
  have htk:x.take now=(x,(0,0,0),false):=by simp[Xs.take,hh]
  simp[Xs.next,hh,zE]
  exact idle rfl htk
 | some y =>
  by_cases c1:now<0
  ·have htk:x.take now=(x,(0,0,0),false):=by simp[Xs.take,hh,c1]
   simp[Xs.next,hh,zE,c1]
   exact idle rfl htk
  ·by_cases c2:now<y.w
   ·have htk:x.take now=(x,(0,0,0),false):=by simp[Xs.take,hh,c2]
    simp[Xs.next,hh,zE,c1,c2]
    exact idle rfl htk
   ·simp[Xs.next,hh,c1,c2]
    unfold D_f45_4
    simp[rdL,AB.read,zO,Lg.put_apply,o1.root,Ne.symm nrc.1,o.root]
    refine (zeM hf.f44 o1.heap hs (by omega)).mono ?_
    rintro _ K2 ⟨rfl,hK2⟩
    obtain⟨rest,hxl⟩:∃rest,x.l=y::rest:=by
     cases hx:x.l with
     | nil=>rw[hx]at hh;cases hh
     | cons a b=>rw[hx]at hh;simp at hh;subst hh;exact⟨b,rfl⟩
    simp only[hxl]at hK2
    rw[←hxl]at hK2
    subst hK2
    have o2:=o1.setHeap (yS y.id x.l) x.seq
    rw[hh]
    simp[ww,It.av]
    intro x7 hx7
    rw[zw (ze _ _ _) (by simp[It.cells]) (by simp[It.cells]) (by simp),zA,show zo [AV.i .i64 0,.i .i64 0,.i .i64 0] 0 y.cells=y.cells by simp[zo,It.cells]]
    have n7:=o2.ne hx7
    have o3:=o2.onto hx7 (.raw (.cells y.cells))
    obtain⟨L3,hL3⟩:∃L3,L3=(L.put rc (.raw (.cells [.i .i64 0,.i .i64 0,.i .i64 0]))).put x7 (.raw (.cells y.cells)):=⟨_,rfl⟩
    obtain⟨K3,hK3⟩:∃K3,K3=((K.put rc (.raw (.cells [.i .i64 0,.i .i64 0,.i .i64 0]))).put h (.abs (wb h (yS y.id x.l) x.seq))).put x7 (.raw (.cells y.cells)):=⟨_,rfl⟩
    rw[←hL3,←hK3]at o3
    rw[←hK3]
    have n7r:x7≠rc:=by
     rintro rfl
     have:=n7.2
     rw[ze]at this;cases this
    have r7:L3 x7=some (.raw (.cells y.cells)):=by rw[hL3];exact ze _ _ _
    have rrc:L3 rc=some (.raw (.cells [.i .i64 0,.i .i64 0,.i .i64 0])):=by rw[hL3,zb _ _ _ (Ne.symm n7r)];exact ze _ _ _
    have hsub:∀r d,r≠t→L r=some d→L3 r=some d:=by
     intro r d hr hd
     have c1:r≠rc:=by rintro rfl;rw[nrc.2]at hd;cases hd
     have c2:r≠x7:=by
      rintro rfl
      have:=n7.2
      rw[zb _ _ _ c1,hd]at this;cases this
     rw[hL3];simp[Lg.put_apply,c1,c2,hd]
    clear hK3 hL3 o2 o1 hx7
    obtain⟨es,e1,e2⟩:=o3.per
    have k7:=o3.old x7 _ n7.1 r7
    unfold D_f45_5
    obtain⟨p,hp⟩:∃p,p=(x.pf y.id).getD 0:=⟨_,rfl⟩
    have hlk:w9 (.i .i64 0) false K3 [.m (some pm),.i .i64 y.id]=some (.i .i64 p):=by
     simp[w9,e1,e2.find y.id,hp]
     cases x.pf y.id<;>rfl
    simp[rdL,AB.read,zO,o3.root,k7,It.cells,hlk]
    unfold D_f45_6
    obtain⟨es',hd,hM⟩:=e2.del y.id
    have o4:=o3.setPer hM
    have n7p:x7≠pm:=by rintro rfl;rw[o3.f2]at r7;cases r7
    simp[rdL,AB.read,zO,o3.root,k7,It.cells,V1,e1,hd]
    obtain⟨K4,hK4⟩:∃K4,K4=K3.put pm (.raw (.map es')):=⟨_,rfl⟩
    rw[←hK4]at o4 ⊢
    have k47:=o4.old x7 _ n7.1 r7
    -- the end: what is due is handed out
    have fin:∀{z:Xs} {K':Lg},XOpen L3 t z h pm K'→(x.take now)=(z,(y.id,y.w,now),true) →
      stL 3 K' (fun _ L15=>zl (yz Env.nil Env.nil L15 [.cell (.c (.p (some (rc,0)))) (some 3),.tmp (.c (.b true))]) Q L15) [.p (some (rc,0)),.agg [.i .i64 y.id,.i .i64 y.w,.i .i64 now]]:=by
     intro z K' o' hz
     have krc:=o'.old rc _ nrc.1 rrc
     rw[zw krc (by simp) (by simp) (by simp)]
     rw[zU _ _ (ze _ _ _) (by simp[zo])]
     have o2:=(o'.putOld nrc.1 rrc (.raw (.cells (zo [.i .i64 0,.i .i64 0,.i .i64 0] 0 [.i .i64 y.id,.i .i64 y.w,.i .i64 now])))).sub (L:=L) (fun r d hr hd=>by
      have c1:r≠rc:=by rintro rfl;rw[nrc.2]at hd;cases hd
      rw[zb _ _ _ c1];exact hsub r d hr hd)
     refine⟨_,zu.refl _,?_⟩
     subst hQ
     rw[hz]
     exact⟨by simp[zo,vL],o2⟩
    have htake:x.take now=(if (zy y.w p now).2=0∧now<(zy y.w p now).1 then ((x.stop y.id).arm y.id (zy y.w p now).1 p).1 else x.stop y.id,(y.id,y.w,now),true):=by
     simp[Xs.take,hh,c1,c2,←hp]
    unfold D_f45_7
    refine (WM hf.f3 y.w p now K4).mono ?_
    rintro _ K4 ⟨rfl,rfl⟩
    have hst:XOpen L3 t (x.stop y.id) h pm K4:=o4
    by_cases d1:(zy y.w p now).2=0
    ·by_cases d2:now<(zy y.w p now).1
     ·simp[d1,d2,rdL,AB.read,zO,k47,It.cells]
      refine (Ut hf.f36 hst (Nat.lt_of_le_of_lt (vw y.id x.l) hl) hq y.id _ p).mono ?_
      rintro _ K5 ⟨rfl,o5⟩
      have k57:=o5.old x7 _ n7.1 r7
      simp[rdL,AB.read,zO,k57,It.cells,zE,zo,zq,zp]
      refine fin o5 ?_
      rw[htake,if_pos ⟨d1,d2⟩]
     ·simp[d1,d2,rdL,AB.read,zO,k47,It.cells,zE,zo,zq,zp]
      refine fin hst ?_
      rw[htake,if_neg (fun hc=>d2 hc.2)]
    ·simp[d1,rdL,AB.read,zO,k47,It.cells,zE,zo,zq,zp]
     refine fin hst ?_
     rw[htake,if_neg (fun hc=>d1 hc.1)]
end
end
section
variable {F:Nat→Option AFn}
section
variable {L:Lg} {t:Nat} {x:Xs}
theorem zcJ (hf:H_f34 F)(e:L t=some (.abs (TmP t x)))(hl:x.l.length≤1000000)(id:Int) :
  zd F k_f34 [.p (some (t,0)),.i .i64 id] L fun v L'=>v=.b (yQ id x.l).isSome∧L'=L.put t (.abs (TmP t (x.stop id))):=by
 apply ZX e
 intro h pm K o
 refine (WT hf o hl id).sees ?_
 rintro _ K' ⟨rfl,o'⟩
 exact⟨_,o'.shut,rfl,rfl⟩
theorem zdM (hf:H_f36 F)(e:L t=some (.abs (TmP t x)))(hl:x.l.length<1000000)(hq:0≤x.seq∧x.seq<4611686018427387904)(id when period:Int) :
  zd F k_f36 [.p (some (t,0)),.i .i64 id,.i .i64 when,.i .i64 period] L fun v L'=>v=.i .i64 (x.arm id when period).2∧L'=L.put t (.abs (TmP t (x.arm id when period).1)):=by
 apply ZX e
 intro h pm K o
 refine (Ut hf o hl hq id when period).sees ?_
 rintro _ K' ⟨rfl,o'⟩
 exact⟨_,o'.shut,rfl,rfl⟩
theorem WS (hf:H_f45 F)(e:L t=some (.abs (TmP t x)))(hs:x.l.Pairwise It.lt)(hl:x.l.length<1000000)(hq:0≤x.seq∧x.seq<4611686018427387904)(now:Int) :
  zd F k_f45 [.p (some (t,0)),.i .i64 now] L fun v L'=>v=vL (x.take now).2.1 (x.take now).2.2∧L'=L.put t (.abs (TmP t (x.take now).1)):=by
 apply ZX e
 intro h pm K o
 refine (zcI hf o hs hl hq now).sees ?_
 rintro _ K' ⟨rfl,o'⟩
 exact⟨_,o'.shut,rfl,rfl⟩
end
structure On where
 kind:Int
 data:Int
 c:Option Nat
 gen:Int
def On.cells (o:On):List AV:=[.i .i64 o.kind,.i .i64 o.data,ptr o.c,.i .i64 o.gen]
def yT:List On→List AV
 | []=>[]
 | o::r=>o.cells++yT r
theorem Ye:∀(A:List On),(yT A).length=A.length * 4
 | []=>rfl
 | w::A=>by simp[yT,Ye A,On.cells];omega
theorem Yf:∀(A B:List On),yT (A++B)=yT A++yT B
 | [],_=>rfl
 | w::A,B=>by simp[yT,Yf A B]
theorem Zt:∀(ws:List On) (i k:Nat) (w:On),ws[i]?=some w→k<4→(yT ws)[i * 4+k]?=w.cells[k]?
 | [],i,k,w,h,_=>by simp at h
 | a::r,0,k,w,h,hk=>by
  simp at h;subst h
  simp only[yT,Nat.zero_mul,Nat.zero_add]
  rw[List.getElem?_append_left (by simp[On.cells];omega)]
 | a::r,i+1,k,w,h,hk=>by
  have:=Zt r i k w (by simpa using h) hk
  have e:(i+1) * 4+k=a.cells.length+(i * 4+k):=by simp[On.cells];omega
  rw[e]
  simp only[yT]
  rw[List.getElem?_append_right (by omega),Nat.add_sub_cancel_left]
  exact this
theorem XP:∀(ws:List On) (i:Nat) (w:On),ws[i]?=some w→((yT ws).drop (i * 4)).take 4=w.cells∧i * 4+4≤(yT ws).length
 | [],i,w,h=>by simp at h
 | a::r,0,w,h=>by simp at h;subst h;simp[yT,On.cells]
 | a::r,i+1,w,h=>by
  have:=XP r i w (by simpa using h)
  have e:(i+1) * 4=i * 4+1+1+1+1:=by omega
  rw[e]
  simp only[yT,On.cells,List.cons_append,List.nil_append,List.drop_succ_cons,List.length_cons]
  exact⟨this.1,by omega⟩
theorem Vd:∀(ws:List On) (i:Nat) (w:On) (g:Int),ws[i]?=some w→(yT ws).set (i * 4+3) (.i .i64 g)=yT (ws.set i { w with gen:=g })
 | [],i,w,g,h=>by simp at h
 | a::r,0,w,g,h=>by simp at h;subst h;simp[yT,On.cells]
 | a::r,i+1,w,g,h=>by
  have:=Vd r i w g (by simpa using h)
  have e:(i+1) * 4+3=(i * 4+3)+1+1+1+1:=by omega
  rw[e,List.set_cons_succ]
  simp only[yT,On.cells,List.cons_append,List.nil_append,List.set_cons_succ]
  rw[this]
structure Tms where
 ones:List On
 x:Xs
 named:Int
def SSl (L:Lg)(s t:Nat)(ones:List On)(sv:AV)(K:Lg):Prop :=
 (ones=[]∧sv=.sl none 0 0 0)∨∃b,sv=.sl (some (b,0)) ones.length ones.length 4∧K b=some (.raw (.cells (yT ones)))∧b≠s∧b≠t∧L b=none∧0<ones.length
def xz (L:Lg)(s:Nat)(σ:Tms)(t:Nat)(K:Lg):Prop :=
 ∃sv,K s=some (.raw (.cells [sv,.p (some (t,0)),.i .i64 σ.named]))∧K t=some (.abs (TmP t σ.x))∧t≠s∧L t=none∧SSl L s t σ.ones sv K∧∀r d,r≠s→L r=some d→K r=some d
def ZT (s:Nat)(σ:Tms)(hp:Hp):Prop:=∃t M,xz Lg.nil s σ t M∧Sat M hp
section
variable {L L0 K:Lg} {s t:Nat} {σ:Tms}
theorem xz.shut (o:xz L s σ t K):zu K (L.put s (.abs (ZT s σ))):=by
 obtain⟨sv,h1,h2,h3,h4,h5,h6⟩:=o
 rcases h5 with⟨g1,rfl⟩ | ⟨b,rfl,a2,a3,a4,a5,a6⟩
 ·refine yW (fun r=>r=s∨r=t) (.inl rfl) ?_ ?_ (.inl ⟨_,h1⟩) ?_
  ·intro r d hr hd;simp only[not_or]at hr;exact h6 r d hr.1 hd
  ·rintro r (rfl | rfl) hr
   ·exact absurd rfl hr
   ·exact h4
  ·intro M hm hM hN hs
   exact⟨t,M,⟨_,by rw[hM s (.inl rfl)];exact h1,by rw[hM t (.inr rfl)];exact h2,h3,rfl,.inl ⟨g1,rfl⟩,fun r d _ hd=>by cases hd⟩,hs⟩
 ·refine yW (fun r=>r=s∨r=t∨r=b) (.inl rfl) ?_ ?_ (.inl ⟨_,h1⟩) ?_
  ·intro r d hr hd;simp only[not_or]at hr;exact h6 r d hr.1 hd
  ·rintro r (rfl | rfl | rfl) hr
   ·exact absurd rfl hr
   ·exact h4
   ·exact a5
  ·intro M hm hM hN hs
   exact⟨t,M,⟨_,by rw[hM s (.inl rfl)];exact h1,by rw[hM t (.inr (.inl rfl))];exact h2,h3,rfl,.inr ⟨b,rfl,by rw[hM b (.inr (.inr rfl))];exact a2,a3,a4,rfl,a6⟩,fun r d _ hd=>by cases hd⟩,hs⟩
theorem wY {f:Nat}{vs:List AV}{Q:AV→Lg→Prop}(e:L s=some (.abs (ZT s σ)))(H:∀t K,xz L s σ t K→zd F f vs K Q):zd F f vs L Q:=by
 apply yX e
 rintro hm ⟨t,M,⟨sv,h1,h2,h3,h4,h5,h6⟩,hs⟩
 refine⟨M,hs,by rw[h1];simp,fun hf=>?_⟩
 have hover:∀b d,M b=some d→(M.over L) b=some d:=fun b d hb=>by simp[Lg.over,hb]
 refine H t (M.over L) ⟨sv,hover _ _ h1,hover _ _ h2,h3,hf _ _ h2 h3,?_,?_⟩
 ·rcases h5 with h5 | ⟨b,a1,a2,a3,a4,a5,a6⟩
  ·exact .inl h5
  ·exact .inr ⟨b,a1,hover _ _ a2,a3,a4,hf _ _ a2 a3,a6⟩
 ·intro r d hr hd
  cases hM:M r with
  | none=>simp[Lg.over,hM,hd]
  | some c=>rw[hf r c hM hr]at hd;cases hd
theorem xz.back (o:xz L s σ t K)(e:L s=some (.abs (ZT s σ))):zu K L:=by
 have:=o.shut
 rwa [yc L s _ e]at this
theorem xz.ne (o:xz L s σ t K){r:Nat}(hr:K r=none):r≠s∧L r=none:=by
 obtain⟨sv,h1,h2,h3,h4,h5,h6⟩:=o
 have n:r≠s:=by rintro rfl;rw[h1]at hr;cases hr
 refine⟨n,?_⟩
 cases e:L r with
 | none=>rfl
 | some d=>rw[h6 r d n e]at hr;cases hr
theorem xz.old (o:xz L s σ t K){r:Nat}{d:LC}(hr:r≠s)(hd:L r=some d):K r=some d:=by
 obtain⟨sv,h1,h2,h3,h4,h5,h6⟩:=o
 exact h6 r d hr hd
theorem xz.onto (o:xz L s σ t K){r:Nat}(hr:K r=none)(d:LC):xz (L.put r d) s σ t (K.put r d):=by
 obtain⟨sv,h1,h2,h3,h4,h5,h6⟩:=o
 have nb:∀{y:Nat} {k:LC},K y=some k→y≠r:=fun hx hxr=>by rw[hxr,hr]at hx;cases hx
 refine⟨sv,by rw[zb _ _ _ (nb h1)];exact h1,by rw[zb _ _ _ (nb h2)];exact h2,h3,by rw[zb _ _ _ (nb h2)];exact h4,?_,?_⟩
 ·rcases h5 with h5 | ⟨b,a1,a2,a3,a4,a5,a6⟩
  ·exact .inl h5
  ·exact .inr ⟨b,a1,by rw[zb _ _ _ (nb a2)];exact a2,a3,a4,by rw[zb _ _ _ (nb a2)];exact a5,a6⟩
 ·intro y k hy hk
  rw[Lg.put_apply]at hk ⊢
  split
  ·rename_i h9;rw[if_pos h9]at hk;exact hk
  ·rename_i h9;rw[if_neg h9]at hk;exact h6 y k hy hk
theorem xz.putOld (o:xz L s σ t K){r:Nat}{d:LC}(hr:r≠s)(hd:L r=some d)(d':LC):xz (L.put r d') s σ t (K.put r d'):=by
 obtain⟨sv,h1,h2,h3,h4,h5,h6⟩:=o
 have c2:t≠r:=by rintro rfl;rw[h4]at hd;cases hd
 refine⟨sv,by rw[zb _ _ _ (Ne.symm hr)];exact h1,by rw[zb _ _ _ c2];exact h2,h3,by rw[zb _ _ _ c2];exact h4,?_,?_⟩
 ·rcases h5 with h5 | ⟨b,a1,a2,a3,a4,a5,a6⟩
  ·exact .inl h5
  ·have c3:b≠r:=by rintro rfl;rw[a5]at hd;cases hd
   exact .inr ⟨b,a1,by rw[zb _ _ _ c3];exact a2,a3,a4,by rw[zb _ _ _ c3];exact a5,a6⟩
 ·intro y k hy hk
  rw[Lg.put_apply]at hk ⊢
  split
  ·rename_i h9;rw[if_pos h9]at hk;exact hk
  ·rename_i h9;rw[if_neg h9]at hk;exact h6 y k hy hk
theorem xz.sub (o:xz L0 s σ t K)(hs:∀r d,r≠s→L r=some d→L0 r=some d):xz L s σ t K:=by
 obtain⟨sv,h1,h2,h3,h4,h5,h6⟩:=o
 have hn:∀r,r≠s→L0 r=none→L r=none:=by
  intro r hr h0
  cases e:L r with
  | none=>rfl
  | some d=>rw[hs r d hr e]at h0;cases h0
 refine⟨sv,h1,h2,h3,hn t h3 h4,?_,fun r d hr hd=>h6 r d hr (hs r d hr hd)⟩
 rcases h5 with h5 | ⟨b,a1,a2,a3,a4,a5,a6⟩
 ·exact .inl h5
 ·exact .inr ⟨b,a1,a2,a3,a4,hn b a3 a5,a6⟩
theorem xz.setX (o:xz L s σ t K)(x:Xs):xz L s { σ with x:=x } t (K.put t (.abs (TmP t x))):=by
 obtain⟨sv,h1,h2,h3,h4,h5,h6⟩:=o
 refine⟨sv,by rw[zb _ _ _ (Ne.symm h3)];exact h1,ze _ _ _,h3,h4,?_,?_⟩
 ·rcases h5 with h5 | ⟨b,a1,a2,a3,a4,a5,a6⟩
  ·exact .inl h5
  ·exact .inr ⟨b,a1,by rw[zb _ _ _ a4];exact a2,a3,a4,a5,a6⟩
 ·intro r d hr hd
  have:r≠t:=by rintro rfl;rw[h4]at hd;cases hd
  rw[zb _ _ _ this];exact h6 r d hr hd
def Tms.has (σ:Tms)(id:Int):Bool:=decide (0≤id)&&decide (id<σ.ones.length)
theorem zcs (hf:H_f49 F)(o:xz L s σ t K)(id:Int):zd F k_f49 [.p (some (s,0)),.i .i64 id] K fun v K'=>v=.b (σ.has id)∧K'=K:=by
 obtain⟨sv,h1,h2,h3,h4,h5,h6⟩:=o
 apply r_f49 hf.code
 unfold D_f49_1 Tms.has
 by_cases c1:0≤id
 ·rcases h5 with⟨g1,rfl⟩ | ⟨b,rfl,a2,a3,a4,a5,a6⟩
  ·have:¬id<0:=by omega
   simp[c1,rdL,AB.read,zO,h1,g1]
  ·simp[c1,rdL,AB.read,zO,h1]
 ·simp[c1]
theorem zcB (hf:H_f24 F)(n:Int):zd F k_f24 [.i .i64 n] L fun v L'=>v=.b (decide (n<0)||decide (4611686018427387904<n))∧L'=L:=by
 apply r_f24 hf.code
 unfold D_f24_1
 by_cases c1:n<0<;>simp[c1]
theorem zdU (hf:H_f21 F):zd F k_f21 [] L fun v L'=>∃s,L s=none∧v=.p (some (s,0))∧L'=L.put s (.abs (ZT s ⟨[],⟨[],0,fun _=>none⟩,0⟩)):=by
 apply r_f21 hf.code
 unfold D_f21_1
 refine (zdL hf.f20).mono ?_
 rintro _ _ ⟨t,ht,rfl,rfl⟩
 simp[zE,zo,zq,zp]
 intro s hs
 have n1:s≠t:=by rintro rfl;simp at hs
 rw[zb _ _ _ n1]at hs
 have o:xz L s ⟨[],⟨[],0,fun _=>none⟩,0⟩ t ((L.put t (.abs (TmP t ⟨[],0,fun _=>none⟩))).put s (.raw (.cells [.sl none 0 0 0,.p (some (t,0)),.i .i64 0]))) :=
  ⟨_,ze _ _ _,by rw[zb _ _ _ (Ne.symm n1),ze],Ne.symm n1,ht,.inl ⟨rfl,rfl⟩,fun r d hr hd=>by
   have c1:r≠t:=by rintro rfl;rw[ht]at hd;cases hd
   rw[zb _ _ _ hr,zb _ _ _ c1];exact hd⟩
 exact⟨_,o.shut,s,hs,rfl,rfl⟩
theorem Tms.has_nat {σ:Tms}{id:Int}(h:σ.has id=true):∃i:Nat,id=(i:Int)∧i<σ.ones.length:=by
 simp[Tms.has]at h
 obtain⟨i,rfl⟩:=Int.eq_ofNat_of_zero_le h.1
 exact⟨i,rfl,by omega⟩
def Tms.one (σ:Tms)(id:Int):Option On:=if σ.has id=true then σ.ones[id.toNat]? else none
end
end
section
variable {F:Nat→Option AFn}
def Tms.armed (σ:Tms)(i:Nat)(w:On)(now d:Int):Tms :=
 { σ with ones:=σ.ones.set i { w with gen:=w.gen+1 },x:=(σ.x.arm i (zM now (max d 0)) (if w.kind=2 then min d 4611686018427387904 else 0)).1 }
structure Tms.fine (σ:Tms)(n:Nat)(q:Int):Prop where
 len:σ.x.l.length<n
 pos:0≤σ.x.seq
 seq:σ.x.seq<q
 named:0≤σ.named∧σ.named≤64
 ones:σ.ones.length<n
section
variable {L K:Lg} {s t:Nat} {σ:Tms}
theorem zgr (hf:H_f37 F)(o:xz L s σ t K){i:Nat}{w:On}(hw:σ.ones[i]?=some w)(hx:σ.x.l.length<1000000)(hq:0≤σ.x.seq∧σ.x.seq<4611686018427387904)(hg:0≤w.gen∧w.gen<4611686018427387904)(now d:Int) :
  zd F k_f37 [.p (some (s,0)),.i .i64 i,.i .i64 now,.i .i64 d] K fun v K'=>v=.tup []∧xz L s (σ.armed i w now d) t K':=by
 have hi:i<σ.ones.length:=by
  rcases Nat.lt_or_ge i σ.ones.length with h | h
  ·exact h
  ·rw[List.getElem?_eq_none h]at hw;cases hw
 apply r_f37 hf.code
 generalize hQ:(fun (v:AV) (K':Lg)=>v=.tup []∧xz L s (σ.armed i w now d) t K')=Q
 unfold D_f37_1 D_f37_2
 have o':=o
 obtain⟨sv,h1,h2,h3,h4,h5,h6⟩:=o'
 rcases h5 with⟨g1,rfl⟩ | ⟨b,rfl,a2,a3,a4,a5,a6⟩
 ·rw[g1]at hi;simp at hi
 have ei:(i:Int)<(σ.ones.length:Int):=by omega
 have g0:=Zt σ.ones i 0 w hw (by omega)
 have g3:=Zt σ.ones i 3 w hw (by omega)
 have gat:=XP σ.ones i w hw
 have hle:i * 4+3+1≤(yT σ.ones).length:=by have:=gat.2;omega
 have hlt:i * 4+3<(yT σ.ones).length:=by omega
 simp[On.cells]at g0 g3
 have w1:wr .i64 (w.gen+1)=w.gen+1:=zS (by omega) (by omega)
 have key:∀p:Int,p=(if w.kind=2 then min d 4611686018427387904 else 0)→∀K0:Lg,K0=K→D_f37_3 F Q (.p (some (s,0))) (.i .i64 i) (.i .i64 now) (.i .i64 d) (.i .i64 p) K0:=by
  rintro p hp K0 rfl
  unfold D_f37_3
  simp[rdL,AB.read,zO,h1]
  refine (vE hf.f2 now (max d 0) _).mono ?_
  rintro _ K1 ⟨rfl,rfl⟩
  refine (zdM hf.f36 h2 hx hq i (zM now (max d 0)) p).mono ?_
  rintro _ K2 ⟨rfl,rfl⟩
  have o2:=o.setX (σ.x.arm i (zM now (max d 0)) p).1
  refine⟨⟨?_,trivial⟩,?_⟩
  ·simp[z8,yB,Xm,rdL,AB.read,zO,h1]
  ·have hs2:(K1.put t (.abs (TmP t (σ.x.arm i (zM now (max d 0)) p).1))) s=some (.raw (.cells [.sl (some (b,0)) σ.ones.length σ.ones.length 4,.p (some (t,0)),.i .i64 σ.named])):=by rw[zb _ _ _ (Ne.symm h3)];exact h1
   have hb2:(K1.put t (.abs (TmP t (σ.x.arm i (zM now (max d 0)) p).1))) b=some (.raw (.cells (yT σ.ones))):=by rw[zb _ _ _ a4];exact a2
   simp[rdL,AB.read,zO,hs2,yF _ _ _ 4 b 0 σ.ones.length σ.ones.length 4 .i64 (i:Int) (Int.natCast_nonneg _) ei,hb2,g3,w1]
   rw[zH hb2 hlt rfl,Vd σ.ones i w (w.gen+1) hw]
   refine⟨_,zu.refl _,?_⟩
   subst hQ
   refine⟨rfl,.sl (some (b,0)) σ.ones.length σ.ones.length 4,?_,?_,h3,h4,.inr ⟨b,by simp[Tms.armed],by simp[Tms.armed],a3,a4,a5,by simpa[Tms.armed]using a6⟩,?_⟩
   ·rw[zb _ _ _ (Ne.symm a3)];exact hs2
   ·rw[zb _ _ _ (Ne.symm a4),ze];simp[Tms.armed,hp]
   ·intro r e hr he
    have c1:r≠b:=by rintro rfl;rw[a5]at he;cases he
    have c2:r≠t:=by rintro rfl;rw[h4]at he;cases he
    rw[zb _ _ _ c1,zb _ _ _ c2];exact h6 r e hr he
 simp[rdL,AB.read,zO,h1,yF _ _ _ 4 b 0 σ.ones.length σ.ones.length 4 .i64 (i:Int) (Int.natCast_nonneg _) ei,a2,g0]
 refine⟨fun hk=>?_,fun hk=>?_⟩
 ·exact key _ (by rw[if_pos hk]) _ rfl
 ·exact key 0 (by rw[if_neg hk]) _ rfl
theorem On.cells_one (w:On):w.cells.all AV.one=true:=by simp[On.cells,ptr]
theorem ziS (hf:H_f37 F)(o:xz L s σ t K){w:On}(hw0:w.gen=0)(hx:σ.x.l.length<1000000)(hq:0≤σ.x.seq∧σ.x.seq<4611686018427387904)(ho:σ.ones.length<1000000)(now d:Int){x5:Nat}(h5s:x5≠s)(r5:K x5=some (.raw (.cells w.cells))){Q:AV→Lg→Prop}
  (hQ:∀K',xz L s ({ σ with ones:=σ.ones++[w] }.armed σ.ones.length w now d) t K'→Q (.tup [.i .i64 σ.ones.length,.i .i64 0]) K') :
  D_f38_4 F Q (.p (some (s,0))) (.i .i64 now) (.i .i64 d) (.p (some (x5,0))) K:=by
 have o':=o
 obtain⟨sv,h1,h2,h3,h4,h5,h6⟩:=o'
 unfold D_f38_4
 have rc:cut w.cells 0 4=some w.cells:=by simp[cut,On.cells,zq]
 have wl:wr .i64 ((σ.ones.length:Int))=(σ.ones.length:Int):=zS (by omega) (by omega)
 have hsv:ZA K sv (yT σ.ones) σ.ones.length 4:=by
  rcases h5 with⟨g1,rfl⟩ | ⟨b,rfl,a2,a3,a4,a5,a6⟩
  ·exact .inl ⟨by simp[g1],by simp[g1,yT],rfl⟩
  ·exact .inr ⟨b,a6,rfl,a2,Ye _⟩
 have hsb:∀b,slB sv=some b→b≠s∧b≠t∧L b=none∧K b≠none:=by
  intro b hb
  rcases h5 with⟨g1,rfl⟩ | ⟨b',rfl,a2,a3,a4,a5,a6⟩
  ·simp[slB]at hb
  ·simp[slB]at hb;subst hb;exact⟨a3,a4,a5,by rw[a2];simp⟩
 have hdel:∀(M:Lg) r,slB sv≠some r→(M.delO (slB sv)) r=M r:=by
  intro M r hr
  cases hh:slB sv with
  | none=>rfl
  | some b=>rw[hh]at hr;simp only[Lg.delO];rw[yM,if_neg];intro h;exact hr (by rw[h])
 simp[rdL,AB.read,zO,h1,Xm,zF,r5,rc]
 rw[yg (c:=w.cells) _ _ (by simp[On.cells,y5,zE,xT,zo,zq,zp,ptr]) w.cells_one]
 intro b1 hb1
 have nb:∀{y:Nat} {k:LC},K y=some k→y≠b1:=fun hx hxr=>by rw[hxr,hb1]at hx;cases hx
 have hsv1:ZA (K.put b1 (.raw (.cells w.cells))) sv (yT σ.ones) σ.ones.length 4:=by
  rcases hsv with h | ⟨b,c0,c1,c2,c3⟩
  ·exact .inl h
  ·exact .inr ⟨b,c0,c1,by rw[zb _ _ _ (nb c2)];exact c2,c3⟩
 simp
 refine hsv1.app (m:=1) (by omega) rfl (by omega) (new:=w.cells) (by simp[zF,AB.read,rc]) (by simp[On.cells]) w.cells_one (by omega) ?_
 intro b2 hb2
 rw[Lg.put_apply]at hb2
 have n12:b2≠b1:=by rintro rfl;simp at hb2
 rw[if_neg n12]at hb2
 have nb2:∀{y:Nat} {k:LC},K y=some k→y≠b2:=fun hx hxr=>by rw[hxr,hb2]at hx;cases hx
 have onew:yT σ.ones++w.cells=yT (σ.ones++[w]):=by rw[Yf];simp[yT]
 rw[onew]
 have hds:slB sv≠some s:=fun h=>(hsb _ h).1 rfl
 have hdt:slB sv≠some t:=fun h=>(hsb _ h).2.1 rfl
 obtain⟨M,hM⟩:∃M,M=((K.put b1 (.raw (.cells w.cells))).delO (slB sv)).put b2 (.raw (.cells (yT (σ.ones++[w])))):=⟨_,rfl⟩
 have hMs:M s=some (.raw (.cells [sv,.p (some (t,0)),.i .i64 σ.named])):=by rw[hM,zb _ _ _ (nb2 h1),hdel _ _ hds,zb _ _ _ (nb h1)];exact h1
 have hMt:M t=some (.abs (TmP t σ.x)):=by rw[hM,zb _ _ _ (nb2 h2),hdel _ _ hdt,zb _ _ _ (nb h2)];exact h2
 have hMb:M b2=some (.raw (.cells (yT (σ.ones++[w])))):=by rw[hM,ze]
 have hMo:∀r d,r≠s→L r=some d→M r=some d:=by
  intro r d hr hd
  have hk:=h6 r d hr hd
  have hdr:slB sv≠some r:=fun h=>by rw[(hsb _ h).2.2.1]at hd;cases hd
  rw[hM,zb _ _ _ (nb2 hk),hdel _ _ hdr,zb _ _ _ (nb hk)];exact hk
 rw[←hM]
 have hb2s:b2≠s:=Ne.symm (nb2 h1)
 have hb2t:b2≠t:=Ne.symm (nb2 h2)
 have hb2L:L b2=none:=(o.ne hb2).2
 have oN:xz L s { σ with ones:=σ.ones++[w] } t (M.put s (.raw (.cells [.sl (some (b2,0)) (σ.ones.length+1) (σ.ones.length+1) 4,.p (some (t,0)),.i .i64 σ.named]))) :=
  ⟨.sl (some (b2,0)) (σ.ones.length+1) (σ.ones.length+1) 4,ze _ _ _,by rw[zb _ _ _ h3];exact hMt,h3,h4,.inr ⟨b2,by simp,by rw[zb _ _ _ hb2s];exact hMb,hb2s,hb2t,hb2L,by simp⟩,fun r d hr hd=>by rw[zb _ _ _ hr];exact hMo r d hr hd⟩
 simp[rdL,AB.read,zO,hMs,zH hMs,wl]
 refine (zgr hf oN (i:=σ.ones.length) (w:=w) (by simp) hx hq (by omega) now d).mono ?_
 rintro _ K' ⟨rfl,oR⟩
 have oR':=oR
 obtain⟨sv',k1,k2,k3,k4,k5,k6⟩:=oR'
 have:=hQ K' oR
 rcases k5 with⟨g1,rfl⟩ | ⟨b',rfl,e2,e3,e4,e5,e6⟩
 ·simp[Tms.armed]at g1
 ·simp[rdL,AB.read,zO,k1,wl,Tms.armed]
  exact⟨_,zu.refl _,by simpa[Tms.armed]using this⟩
def zdI (now:Int):Bool:=decide (now<0)||decide (4611686018427387904<now)
def Tms.make (σ:Tms)(w:On)(now d:Int):Tms×Int×Int :=
 if zdI now=true∨w.data<0∨(w.kind=2∧d<1)then (σ,0,1)
 else if w.kind≠4∧64≤σ.named then (σ,0,3)
 else ({ σ with named:=if w.kind=4 then σ.named else σ.named+1,ones:=σ.ones++[w] }.armed σ.ones.length w now d,σ.ones.length,0)
theorem zeB (hf:H_f38 F)(o:xz L s σ t K){w:On}(hw0:w.gen=0)(hfi:σ.fine 1000000 4611686018427387904)(now d:Int) :
  zd F k_f38 [.p (some (s,0)),.agg w.cells,.i .i64 now,.i .i64 d] K fun v K'=>v=.tup [.i .i64 (σ.make w now d).2.1,.i .i64 (σ.make w now d).2.2]∧xz L s (σ.make w now d).1 t K':=by
 apply r_f38 hf.code
 generalize hQ:(fun (v:AV) (K':Lg)=>v=.tup [.i .i64 (σ.make w now d).2.1,.i .i64 (σ.make w now d).2.2]∧xz L s (σ.make w now d).1 t K')=Q
 unfold D_f38_1
 simp
 rw[zN _ _ _ (by simp[On.cells])]
 intro x5 hx5
 have n5:=o.ne hx5
 have o1:=o.onto hx5 (.raw (.cells w.cells))
 have r5:(K.put x5 (.raw (.cells w.cells))) x5=some (.raw (.cells w.cells)):=ze _ _ _
 have hsub:∀r d,r≠s→L r=some d→(L.put x5 (.raw (.cells w.cells))) r=some d:=by
  intro r d hr hd
  have:r≠x5:=by rintro rfl;rw[n5.2]at hd;cases hd
  rw[zb _ _ _ this];exact hd
 have finE:∀k:Int,σ.make w now d=(σ,0,k)→zl (some (.tup [.i .i64 0,.i .i64 k])) Q (K.put x5 (.raw (.cells w.cells))):=by
  intro k hk
  refine⟨_,zu.refl _,?_⟩
  subst hQ
  rw[hk]
  exact⟨rfl,o1.sub hsub⟩
 unfold D_f38_2
 refine (zcB hf.f24 now).mono ?_
 rintro _ K1 ⟨rfl,hK1⟩
 rw[←hK1]at finE o1 r5
 clear hK1
 rw[show (decide (now<0)||decide (4611686018427387904<now))=zdI now from rfl]
 cases hbad:zdI now
 case true =>
  have:=finE 1 (by simp[Tms.make,hbad])
  simpa using this
 case false =>
  have rd:∀k:Nat,rdL K1 (x5,k) none=w.cells[k]?:=fun k=>zk r5
  by_cases c2:w.data<0
  ·have:=finE 1 (by simp[Tms.make,c2])
   simpa[rd,On.cells,c2]using this
  ·have nos:x5≠s:=n5.1
   by_cases c3:w.kind=2∧d<1
   ·have:=finE 1 (by simp[Tms.make,c3])
    simpa[rd,On.cells,c2,c3]using this
   ·have c4:¬(zdI now=true∨w.data<0∨(w.kind=2∧d<1)):=by simp[hbad,c2,c3]
    have o2:=o1.sub hsub
    have o2':=o2
    obtain⟨sv,h1,h2,h3,h4,h5,h6⟩:=o2'
    have m3:¬(w.kind≠4∧64≤σ.named)→D_f38_3 F Q (.p (some (s,0))) (.i .i64 now) (.i .i64 d) (.p (some (x5,0))) K1:=by
     intro c5
     unfold D_f38_3
     by_cases c6:w.kind=4
     ·simp[rd,On.cells,c6]
      refine ziS hf.f37 o2 hw0 hfi.len ⟨hfi.pos,hfi.seq⟩ hfi.ones now d nos r5 ?_
      intro K' oR
      subst hQ
      simp only[Tms.make,if_neg c4,if_neg c5,if_pos c6]
      exact⟨by trivial,oR⟩
     ·have w1:wr .i64 (σ.named+1)=σ.named+1:=zS (by have:=hfi.named;omega) (by have:=hfi.named;omega)
      simp[r5,On.cells,c6,rdL,AB.read,zO,h1,w1,zH h1]
      have oN:xz L s { σ with named:=σ.named+1 } t (K1.put s (.raw (.cells [sv,.p (some (t,0)),.i .i64 (σ.named+1)]))):=by
       refine⟨sv,ze _ _ _,by rw[zb _ _ _ h3];exact h2,h3,h4,?_,fun r d hr hd=>by rw[zb _ _ _ hr];exact h6 r d hr hd⟩
       rcases h5 with h5 | ⟨b,a1,a2,a3,a4,a5,a6⟩
       ·exact .inl h5
       ·exact .inr ⟨b,a1,by rw[zb _ _ _ a3];exact a2,a3,a4,a5,a6⟩
      refine ziS hf.f37 oN hw0 hfi.len ⟨hfi.pos,hfi.seq⟩ hfi.ones now d nos (by rw[zb _ _ _ nos];exact r5) ?_
      intro K' oR
      subst hQ
      simp only[Tms.make,if_neg c4,if_neg c5,if_neg c6]
      exact⟨by trivial,oR⟩
    have fin3:=fun h:w.kind≠4∧64≤σ.named=>finE 3 (by simp only[Tms.make,if_neg c4,if_pos h])
    by_cases c6:w.kind=4
    ·have:=m3 (by simp[c6])
     simpa[rd,On.cells,c2,c6]using this
    ·by_cases c7:64≤σ.named
     ·have:=fin3 ⟨c6,c7⟩
      by_cases c8:w.kind=2
      ·have c9:¬d<1:=fun h=>c3 ⟨c8,h⟩
       simpa[r5,On.cells,c2,c6,c8,c9,rdL,AB.read,zO,h1,c7]using this
      ·simpa[r5,On.cells,c2,c6,c8,rdL,AB.read,zO,h1,c7]using this
     ·have:=m3 (by simp[c7])
      by_cases c8:w.kind=2
      ·have c9:¬d<1:=fun h=>c3 ⟨c8,h⟩
       simpa[r5,On.cells,c2,c6,c8,c9,rdL,AB.read,zO,h1,c7]using this
      ·simpa[r5,On.cells,c2,c6,c8,rdL,AB.read,zO,h1,c7]using this
end
end
section
variable {F:Nat→Option AFn}
theorem zr {f:Nat}{vs:List AV}{L:Lg}{Q0:AV→Lg→Prop}(h:∀Q:AV→Lg→Prop,(∀v L,Q0 v L→Q v L)→zd F f vs L Q):zd F f vs L Q0:=h Q0 fun _ _ h=>h
def Ch.tm:Ch:=⟨[],1,[],[],true,false,false⟩
def Lg.putC (L:Lg)(c:Option Nat)(x:Ch):Lg:=match c with
 | none=>L
 | some c=>L.put c (.abs (yu c x))
def Lg.hasC (L:Lg)(s:Nat)(c:Option Nat)(x:Ch):Prop:=∀a,c=some a→a≠s∧L a=some (.abs (yu a x))
section
variable {L K:Lg} {s t:Nat} {σ:Tms}
theorem zeA (hf:H_f38 F)(e:L s=some (.abs (ZT s σ))){w:On}(hw0:w.gen=0)(hfi:σ.fine 1000000 4611686018427387904)(now d:Int) :
  zd F k_f38 [.p (some (s,0)),.agg w.cells,.i .i64 now,.i .i64 d] L fun v L'=>v=.tup [.i .i64 (σ.make w now d).2.1,.i .i64 (σ.make w now d).2.2]∧L'=L.put s (.abs (ZT s (σ.make w now d).1)):=by
 apply wY e
 intro t K o
 refine (zeB hf o hw0 hfi now d).sees ?_
 rintro _ K' ⟨rfl,o'⟩
 exact⟨_,o'.shut,rfl,rfl⟩
theorem zck {w:On}{now d:Int}(h:(σ.make w now d).2.2≠0):(σ.make w now d).1=σ∧(σ.make w now d).2.1=0:=by
 unfold Tms.make at *
 split
 ·exact⟨rfl,rfl⟩
 ·split
  ·exact⟨rfl,rfl⟩
  ·simp_all
theorem zaN (hf:H_f55 F)(e:L s=some (.abs (ZT s σ)))(hfi:σ.fine 1000000 4611686018427387904)(when ctx:Int) :
  zd F k_f55 [.p (some (s,0)),.i .i64 when,.i .i64 ctx] L fun v L'=>v=.tup [.i .i64 (σ.make ⟨4,ctx,none,0⟩ 0 when).2.1,.i .i64 (σ.make ⟨4,ctx,none,0⟩ 0 when).2.2]∧L'=L.put s (.abs (ZT s (σ.make ⟨4,ctx,none,0⟩ 0 when).1)):=by
 refine zr ?_
 intro Q hQ
 apply r_f55 hf.code
 unfold D_f55_1
 simp[zE,zo,zq,zp]
 refine (zeA hf.f38 e (w:=⟨4,ctx,none,0⟩) rfl hfi 0 when).mono ?_
 rintro _ L2 ⟨rfl,rfl⟩
 simp
 exact⟨_,zu.refl _,hQ _ _ ⟨rfl,rfl⟩⟩
theorem zce {id:Int}{o:On}(h:σ.one id=some o):∃i:Nat,id=(i:Int)∧i<σ.ones.length∧σ.ones[i]?=some o∧σ.has id=true:=by
 unfold Tms.one at h
 split at h
 ·rename_i hh
  obtain⟨i,rfl,hi⟩:=Tms.has_nat hh
  exact⟨i,rfl,hi,by simpa using h,hh⟩
 ·cases h
theorem zcd {id:Int}(h:σ.one id=none):σ.has id=false:=by
 unfold Tms.one at h
 cases hh:σ.has id
 ·rfl
 ·obtain⟨i,rfl,hi⟩:=Tms.has_nat hh
  simp[hh]at h;omega
def Ch.left (x:Ch):Bool:=decide (0<x.vals.length)
def Ch.dropped (x:Ch):Ch:={ x with vals:=[] }
def ZG (c:Option Nat)(x:Ch):Bool:=c.isSome&&x.left
theorem zdo (hf:H_f50 F){c:Option Nat}{x:Ch}(hx:x.timed=true)(h:L.hasC s c x):zd F k_f50 [ptr c] L fun v L'=>v=.b (ZG c x)∧L'=L.putC c x.dropped:=by
 cases c with
 | none=>exact zaj hf
 | some c =>
  refine (zfg hf (h c rfl).2).mono ?_
  intro v L' h
  rw[if_pos hx]at h
  obtain⟨rfl,rfl⟩:=h
  exact⟨by simp[ZG,Ch.left],rfl⟩
theorem zd3 (hf:H_f51 F)(e:L s=some (.abs (ZT s σ)))(hl:σ.x.l.length≤1000000)(id:Int){o:On}(ho:σ.one id=some o){x:Ch}(hx:x.timed=true)(hc:L.hasC s o.c x) :
  zd F k_f51 [.p (some (s,0)),.i .i64 id] L fun v L'=>v=.tup [.b (ZG o.c x||(yQ id σ.x.l).isSome),.i .i64 0]∧L'=(L.put s (.abs (ZT s { σ with x:=σ.x.stop id }))).putC o.c x.dropped:=by
 refine zr ?_
 intro Q hQ
 obtain⟨i,rfl,hi,hg,hh⟩:=zce ho
 apply wY e
 intro t K op
 apply r_f51 hf.code
 unfold D_f51_1
 refine (zcs hf.f49 op i).mono ?_
 rintro _ K0 ⟨rfl,rfl⟩
 have op':=op
 obtain⟨sv,h1,h2,h3,h4,h5,h6⟩:=op'
 simp[hh,rdL,AB.read,zO,h1]
 refine (zcJ hf.f34 h2 hl i).mono ?_
 rintro _ K1 ⟨rfl,rfl⟩
 have o2:=op.setX (σ.x.stop i)
 rcases h5 with⟨g1,rfl⟩ | ⟨b,rfl,a2,a3,a4,a5,a6⟩
 ·rw[g1]at hi;simp at hi
 have ei:(i:Int)<(σ.ones.length:Int):=by omega
 have h9:=Zt σ.ones i 2 _ hg (by omega)
 simp[On.cells]at h9
 have hs2:(K0.put t (.abs (TmP t (σ.x.stop i)))) s=some (.raw (.cells [.sl (some (b,0)) σ.ones.length σ.ones.length 4,.p (some (t,0)),.i .i64 σ.named])):=by rw[zb _ _ _ (Ne.symm h3)];exact h1
 have hb2:(K0.put t (.abs (TmP t (σ.x.stop i)))) b=some (.raw (.cells (yT σ.ones))):=by rw[zb _ _ _ a4];exact a2
 simp[rdL,AB.read,zO,hs2,yF _ _ _ 4 b 0 σ.ones.length σ.ones.length 4 .i64 (i:Int) (Int.natCast_nonneg _) ei,hb2,h9]
 have hsee:∀y,zu ((K0.put t (.abs (TmP t (σ.x.stop i)))).putC o.c y) ((L.put s (.abs (ZT s { σ with x:=σ.x.stop i }))).putC o.c y):=by
  intro y
  cases hoc:o.c with
  | none=>exact o2.shut
  | some c =>
   have h8:=hc c hoc
   simp only[Lg.putC]
   rw[yJ _ (Ne.symm h8.1)]
   exact (o2.putOld h8.1 h8.2 _).shut
 have hc2:(K0.put t (.abs (TmP t (σ.x.stop i)))).hasC s o.c x:=by
  intro c hoc
  have h8:=hc c hoc
  exact⟨h8.1,o2.old h8.1 h8.2⟩
 refine (zdo hf.f50 hx hc2).mono ?_
 rintro _ K2 ⟨rfl,rfl⟩
 cases hd:ZG o.c x
 ·simp
  exact⟨_,hsee _,hQ _ _ ⟨by simp[hd],rfl⟩⟩
 ·simp
  exact⟨_,hsee _,hQ _ _ ⟨by simp[hd],rfl⟩⟩
theorem zd4 (hf:H_f51 F)(e:L s=some (.abs (ZT s σ)))(id:Int)(ho:σ.one id=none) :
  zd F k_f51 [.p (some (s,0)),.i .i64 id] L fun v L'=>v=.tup [.b false,.i .i64 4]∧L'=L:=by
 refine zr ?_
 intro Q hQ
 apply wY e
 intro t K op
 apply r_f51 hf.code
 unfold D_f51_1
 refine (zcs hf.f49 op id).mono ?_
 rintro _ K0 ⟨rfl,rfl⟩
 simp[zcd ho]
 exact⟨_,op.back e,hQ _ _ ⟨rfl,rfl⟩⟩
end
end
section
variable {F:Nat→Option AFn}
theorem Vp (h:H_f64 F)(t:Int)(L:Lg):zd F k_f64 [.i .i64 t] L fun v L'=>v=.i .i64 (yx t)∧L'=L:=by
 apply r_f64 h.code
 simp[D_f64_1]
 unfold yx;omega
theorem zfz (h:H_f65 F)(t d:Int)(L:Lg):zd F k_f65 [.i .i64 t,.i .i64 d] L fun v L'=>v=.i .i64 (zM t d)∧L'=L:=by
 apply r_f65 h.code
 unfold D_f65_1
 refine (Vp h.f64 _ _).mono ?_
 rintro _ _ ⟨rfl,rfl⟩
 refine (Vp h.f64 _ _).mono ?_
 rintro _ _ ⟨rfl,rfl⟩
 have h1:=vB t
 have h2:=vB d
 have e4:zM t d=min (max (yx t+yx d) (-4611686018427387904)) 4611686018427387904:=rfl
 by_cases c1:0<yx d
 ·have e2:wr .i64 (4611686018427387904-yx d)=4611686018427387904-yx d:=zS (by omega) (by omega)
  have c2:¬yx d<0:=by omega
  by_cases c3:4611686018427387904-yx d<yx t
  ·simp[c1,e2,c3,e4];omega
  ·have e1:wr .i64 (yx t+yx d)=yx t+yx d:=zS (by omega) (by omega)
   simp[c1,e2,c3,c2,e1,e4];omega
 ·by_cases c2:yx d<0
  ·have e3:wr .i64 (-4611686018427387904-yx d)=-4611686018427387904-yx d:=zS (by omega) (by omega)
   by_cases c3:yx t < -4611686018427387904-yx d
   ·simp[c1,e3,c3,c2,e4];omega
   ·have e1:wr .i64 (yx t+yx d)=yx t+yx d:=zS (by omega) (by omega)
    simp[c1,e3,c3,c2,e1,e4];omega
  ·have e1:wr .i64 (yx t+yx d)=yx t+yx d:=zS (by omega) (by omega)
   simp[c1,c2,e1,e4];omega
theorem Vj (h:H_f63 F)(d:Int)(L:Lg):zd F k_f63 [.i .i64 d] L fun v L'=>v=.i .i64 (max (zM d 0) 0)∧L'=L:=by
 apply r_f63 h.code
 simp[D_f63_1]
 unfold zM yx;omega
theorem zc6 (h:H_f83 F)(w p n:Int)(L:Lg):zd F k_f83 [.i .i64 w,.i .i64 p,.i .i64 n] L fun v L'=>v=.tup [.i .i64 (zy w p n).1,.i .i64 (zy w p n).2]∧L'=L:=by
 refine zr ?_
 intro Q hQ
 have fin:∀a b:Int,(a,b)=zy w p n→zl (some (.tup [.i .i64 a,.i .i64 b])) Q L:=fun a b hab=>⟨L,zu.refl _,hQ _ _ ⟨by rw[←hab],rfl⟩⟩
 apply r_f83 h.code
 unfold D_f83_1 D_f83_2
 have bad:(p<1∨min w n<0∨4611686018427387904<max w (max p n))→zl (some (.tup [.i .i64 0,.i .i64 1])) Q L:=fun hb=>fin 0 1 (by unfold zy;rw[if_pos hb])
 by_cases c1:p<1
 ·simp[c1];exact bad (by omega)
 by_cases c2:w<0
 ·simp[c1,c2];exact bad (by omega)
 by_cases c3:n<0
 ·simp[c1,c2,c3];exact bad (by omega)
 by_cases c4:4611686018427387904<p
 ·simp[c1,c2,c3,c4];exact bad (by omega)
 by_cases c5:4611686018427387904<w
 ·simp[c1,c2,c3,c4,c5];exact bad (by omega)
 by_cases c6:4611686018427387904<n
 ·simp[c1,c2,c3,c4,c5,c6];exact bad (by omega)
 simp[c1,c2,c3,c4,c5,c6]
 unfold D_f83_3
 have hgood:¬(p<1∨min w n<0∨4611686018427387904<max w (max p n)):=by omega
 by_cases c7:n<w
 ·simp[c7]
  exact fin w 0 (by unfold zy;rw[if_neg hgood,if_pos c7])
 have hp:p≠0:=by omega
 have hp0:0<p:=by omega
 obtain⟨q,hq⟩:∃q,q=(n-w) / p:=⟨_,rfl⟩
 obtain⟨r,hr⟩:∃r,r=(n-w) % p:=⟨_,rfl⟩
 have hdm:p * q+r=n-w:=by rw[hq,hr];exact Int.mul_ediv_add_emod (n-w) p
 have hr0:0≤r∧r<p:=by rw[hr];exact⟨Int.emod_nonneg _ hp,Int.emod_lt_of_pos _ hp0⟩
 have hq0:0≤q:=by rw[hq];exact Int.ediv_nonneg (by omega) (by omega)
 have hqn:q≤n-w:=by rw[hq];exact Int.ediv_le_self _ (by omega)
 have t1:(n-w).tdiv p=q:=by rw[Int.tdiv_eq_ediv_of_nonneg (by omega),hq]
 have t2:(n-w).tmod p=r:=by rw[Int.tmod_eq_emod_of_nonneg (by omega),hr]
 have hk:q+1≠0:=by omega
 have t3:(4611686018427387904-w).tdiv (q+1)=(4611686018427387904-w) / (q+1):=Int.tdiv_eq_ediv_of_nonneg (by omega)
 have e1:wr .i64 (n-w)=n-w:=zS (by omega) (by omega)
 have e2:wr .i64 q=q:=zS (by omega) (by omega)
 have e3:wr .i64 (q+1)=q+1:=zS (by omega) (by omega)
 have e4:wr .i64 (4611686018427387904-w)=4611686018427387904-w:=zS (by omega) (by omega)
 have hz:0≤(4611686018427387904-w) / (q+1):=Int.ediv_nonneg (by omega) (by omega)
 have hz2:(4611686018427387904-w) / (q+1)≤4611686018427387904-w:=Int.ediv_le_self _ (by omega)
 have e5:wr .i64 ((4611686018427387904-w) / (q+1))=(4611686018427387904-w) / (q+1):=zS (by omega) (by omega)
 have hle:p≤(4611686018427387904-w) / (q+1)↔p * (q+1)≤4611686018427387904-w:=Int.le_ediv_iff_mul_le (by omega)
 have hmul:p * (q+1)=p * q+p:=by rw[Int.mul_add,Int.mul_one]
 have hval:zy w p n=(zM n (p-r),0):=by unfold zy;rw[if_neg hgood,if_neg c7,t2]
 have hca:zM n (p-r)=min (w+p * (q+1)) 4611686018427387904:=by
  rw[hmul]
  unfold zM yx
  omega
 simp[c7,e1,Uv _ _ _ _ _ _ hp,t1,e2,e3,e4,Uv _ _ _ _ _ _ hk,t3,e5]
 by_cases c8:(4611686018427387904-w) / (q+1)<p
 ·have:¬p * (q+1)≤4611686018427387904-w:=fun h9=>by have:=hle.2 h9;omega
  refine⟨fun _=>fin _ _ ?_,fun h9=>absurd c8 (by omega)⟩
  rw[hval,hca]
  congr 1
  omega
 ·have h9:p * (q+1)≤4611686018427387904-w:=hle.1 (by omega)
  have hpos:0≤p * (q+1):=Int.mul_nonneg (by omega) (by omega)
  have e6:wr .i64 ((q+1) * p)=p * (q+1):=by rw[Int.mul_comm,zS (by omega) (by omega)]
  have e7:wr .i64 (w+p * (q+1))=w+p * (q+1):=zS (by omega) (by omega)
  refine⟨fun h10=>absurd h10 c8,fun _=>?_⟩
  simp[e6,e7]
  refine fin _ _ ?_
  rw[hval,hca]
  congr 1
  omega
end
section
variable {F:Nat→Option AFn}
section
variable {L K:Lg} {s t:Nat} {σ:Tms}
theorem yq.both {A B:Lg}(h:yq A B)(r:Nat)(d:LC):yq (A.put r d) (B.put r d):=by
 intro b c e
 rw[Lg.put_apply]at e ⊢
 split
 ·rename_i h9;rw[if_pos h9]at e;exact e
 ·rename_i h9;rw[if_neg h9]at e;exact h b c e
theorem yq.bothC {A B:Lg}(h:yq A B)(c:Option Nat)(y:Ch):yq (A.putC c y) (B.putC c y):=by
 cases c with
 | none=>exact h
 | some c=>exact h.both c _
theorem zgg {A B:Lg}(h:yq A B){c:Option Nat}{x:Ch}(hc:A.hasC s c x):B.hasC s c x:=fun a ha=>⟨(hc a ha).1,h _ _ (hc a ha).2⟩
theorem UX {A:Lg}{c:Option Nat}{x y:Ch}{r:Nat}(hc:A.hasC s c x)(hr:A r=none):(A.putC c y) r=none:=by
 cases c with
 | none=>exact hr
 | some c =>
  simp only[Lg.putC]
  rw[zb]
  ·exact hr
  ·rintro rfl;rw[(hc r rfl).2]at hr;cases hr
def yE (c:Option Nat)(x:Ch)(now:Int):Ch×List Wk×Bool:=match c with
 | none=>(x,[],false)
 | some _=>x.put now
theorem zer (hf:H_f47 F){c:Option Nat}{x:Ch}(h:L.hasC s c x)(now:Int):zd F k_f47 [ptr c,.i .i64 now] L fun v L'=>∃sl,v=.tup [sl,.b (yE c x now).2.2] ∧
  xu (L.putC c (yE c x now).1) sl (yp (yE c x now).2.1) (yE c x now).2.1.length 5 L':=by
 cases c with
 | none =>
  refine (zaU hf now).mono ?_
  rintro _ _ ⟨rfl,rfl⟩
  exact⟨_,rfl,.inl ⟨rfl,rfl,rfl,rfl⟩⟩
 | some c=>exact zf1 hf (h c rfl).2 now
def X5 (id kind when now data:Int)(sl:AV)(kept:Bool):AV:=.agg [.i .i64 id,.i .i64 kind,.i .i64 when,.i .i64 now,.i .i64 data,sl,.b kept]
theorem zeW (hf:H_f48 F)(e:L s=some (.abs (ZT s σ)))(hs:σ.x.l.Pairwise It.lt)(hl:σ.x.l.length<1000000)(hq:0≤σ.x.seq∧σ.x.seq<4611686018427387904)(now:Int)(hk:(σ.x.take now).2.2=false) :
  zd F k_f48 [.p (some (s,0)),.i .i64 now] L fun v L'=>v=.tup [X5 0 0 0 0 0 (.sl none 0 0 0) false,.b false]∧L'=L:=by
 refine zr ?_
 intro Q hQ
 apply wY e
 intro t K op
 have hb:=op.back e
 have tk:σ.x.take now=(σ.x,(0,0,0),false):=by
  unfold Xs.take at hk ⊢
  split
  ·rfl
  ·rename_i h;simp only[h]at hk
   split
   ·rfl
   ·rename_i h2;rw[if_neg h2]at hk;simp at hk
 apply r_f48 hf.code
 unfold D_f48_1 D_f48_2 D_f48_3
 simp
 intro a4 h4
 have e1:yq K (K.put a4 (.raw (.cells [.i .i64 0,.i .i64 0,.i .i64 0,.i .i64 0,.i .i64 0,.sl none 0 0 0,.b false]))):=(yq.refl K).put h4 _
 obtain⟨sv,h1,h2,h3,h5,h6,h7⟩:=op
 simp[rdL,AB.read,zO,e1 _ _ h1]
 refine (WS hf.f45 (e1 _ _ h2) hs hl hq now).mono ?_
 rintro _ K2 ⟨rfl,rfl⟩
 rw[tk]
 simp only[vL]
 rw[yc _ t _ (e1 _ _ h2)]
 simp
 intro a6 h6'
 rw[zw (ze _ _ _) (by simp) (by simp) (by simp)]
 simp[zo]
 unfold D_f48_4
 have n64:a6≠a4:=by rintro rfl;simp at h6'
 simp[zE,zo,zq,zp]
 rw[zw (c:=[.i .i64 0,.i .i64 0,.i .i64 0,.i .i64 0,.i .i64 0,.sl none 0 0 0,.b false]) (by rw[zb _ _ _ (Ne.symm n64),ze]) (by simp) (by simp) (by simp)]
 rw[zU _ _ (ze _ _ _) (by simp[zo])]
 simp[zo]
 refine⟨L,zu.trans (yq.sees ?_) hb,hQ _ _ ⟨rfl,rfl⟩⟩
 have h6k:K a6=none:=by rw[zb _ _ _ n64]at h6';exact h6'
 exact ((((yq.refl K).put h4 _).put h6k _).put h4 _)
theorem zfS (z1 z2 z3 a b c:AV):zo [z1,z2,z3] 0 [a,b,c]=[a,b,c]:=rfl
theorem Xl (z1 z2 z3 z4 z5 z6 z7 a b c d e f g:AV):zo [z1,z2,z3,z4,z5,z6,z7] 0 [a,b,c,d,e,f,g]=[a,b,c,d,e,f,g]:=rfl
theorem zeV (hf:H_f48 F)(e:L s=some (.abs (ZT s σ)))(hs:σ.x.l.Pairwise It.lt)(hl:σ.x.l.length<1000000)(hq:0≤σ.x.seq∧σ.x.seq<4611686018427387904)(now:Int){x':Xs}{id when:Int}(tk:σ.x.take now=(x',(id,when,now),true))
  {o:On} (ho:σ.one id=some o) {x:Ch} (hc:L.hasC s o.c x) :
  zd F k_f48 [.p (some (s,0)),.i .i64 now] L fun v L'=>∃sl,v=.tup [X5 id o.kind when now o.data sl (yE o.c x now).2.2,.b true] ∧
   xu ((L.put s (.abs (ZT s { σ with x:=x' }))).putC o.c (yE o.c x now).1) sl (yp (yE o.c x now).2.1) (yE o.c x now).2.1.length 5 L':=by
 refine zr ?_
 intro Q hQ
 obtain⟨i,rfl,hi,hg0,hh⟩:=zce ho
 apply wY e
 intro t K op
 apply r_f48 hf.code
 unfold D_f48_1 D_f48_2 D_f48_3
 simp
 intro a4 h4
 have e1:yq K (K.put a4 (.raw (.cells [.i .i64 0,.i .i64 0,.i .i64 0,.i .i64 0,.i .i64 0,.sl none 0 0 0,.b false]))):=(yq.refl K).put h4 _
 have oX:=op.setX x'
 have op':=op
 obtain⟨sv,h1,h2,h3,h5,h6,h7⟩:=op'
 simp[rdL,AB.read,zO,e1 _ _ h1]
 refine (WS hf.f45 (e1 _ _ h2) hs hl hq now).mono ?_
 rintro _ K2 ⟨rfl,rfl⟩
 rw[tk]
 simp only[vL]
 have nt4:t≠a4:=by rintro rfl;rw[h2]at h4;cases h4
 obtain⟨K2,hK2⟩:∃K2,K2=(K.put a4 (.raw (.cells [.i .i64 0,.i .i64 0,.i .i64 0,.i .i64 0,.i .i64 0,.sl none 0 0 0,.b false]))).put t (.abs (TmP t x')):=⟨_,rfl⟩
 rw[←hK2]
 have E2:yq (K.put t (.abs (TmP t x'))) K2:=by rw[hK2];exact e1.both _ _
 have r4:K2 a4=some (.raw (.cells [.i .i64 0,.i .i64 0,.i .i64 0,.i .i64 0,.i .i64 0,.sl none 0 0 0,.b false])):=by rw[hK2,zb _ _ _ (Ne.symm nt4),ze]
 have b4:(K.put t (.abs (TmP t x'))) a4=none:=by rw[zb _ _ _ (Ne.symm nt4)];exact h4
 simp
 intro a6 h6'
 rw[zw (ze _ _ _) (by simp) (by simp) (by simp),zA,zfS]
 obtain⟨K3,hK3⟩:∃K3,K3=K2.put a6 (.raw (.cells [.i .i64 i,.i .i64 when,.i .i64 now])):=⟨_,rfl⟩
 rw[←hK3]
 have E3:yq K2 K3:=by rw[hK3];exact (yq.refl _).put h6' _
 have r6:K3 a6=some (.raw (.cells [.i .i64 i,.i .i64 when,.i .i64 now])):=by rw[hK3,ze]
 unfold D_f48_4
 simp
 unfold D_f48_5
 obtain⟨sv',g1,g2,g3,g4,g5,g6⟩:=oX
 rcases g5 with⟨q1,rfl⟩ | ⟨b,rfl,a2,a3,aa4,a5,aa6⟩
 ·rw[show ({ σ with x:=x' }:Tms).ones=σ.ones from rfl]at q1;rw[q1]at hi;simp at hi
 have ei:(i:Int)<(σ.ones.length:Int):=by omega
 have k3s:=E3 _ _ (E2 _ _ g1)
 have k3b:=E3 _ _ (E2 _ _ a2)
 have gat:=XP σ.ones i o hg0
 have f1:rdL K3 (b,i * 4) (some 4)=some (.agg o.cells):=by rw[yj k3b (by exact gat.2)];rw[show (yT ({ σ with x:=x' }:Tms).ones)=yT σ.ones from rfl,gat.1]
 have f2:rdL K3 (s,0) none=some (.sl (some (b,0)) σ.ones.length σ.ones.length 4):=by rw[zk k3s];rfl
 have f3:rdL K3 (a6,0) none=some (.i .i64 i):=by rw[zk r6];rfl
 simp[f1,f2,f3,yF _ _ _ 4 b 0 σ.ones.length σ.ones.length 4 .i64 (i:Int) (Int.natCast_nonneg _) ei]
 intro a8 h8
 rw[zw (ze _ _ _) o.cells_one (by simp[On.cells]) (by simp)]
 have n68:a6≠a8:=by rintro rfl;rw[r6]at h8;cases h8
 obtain⟨K4,hK4⟩:∃K4,K4=K3.put a8 (.raw (.cells o.cells)):=⟨_,rfl⟩
 have E4:yq K3 K4:=by rw[hK4];exact (yq.refl _).put h8 _
 have r8:K4 a8=some (.raw (.cells o.cells)):=by rw[hK4,ze]
 have r64:=E4 _ _ r6
 have spl:zo [AV.i .i64 0,.i .i64 0,.p none,.i .i64 0] 0 o.cells=o.cells:=by simp[zo,On.cells]
 rw[spl,zA,←hK4]
 simp[rdL,AB.read,zO,r64,r8,On.cells,zE,zo,zq,zp]
 intro a21 h21
 rw[zw (ze _ _ _) (by simp) (by simp) (by simp),zA,Xl]
 obtain⟨K5,hK5⟩:∃K5,K5=K4.put a21 (.raw (.cells [.i .i64 i,.i .i64 o.kind,.i .i64 when,.i .i64 now,.i .i64 o.data,.sl none 0 0 0,.b false])):=⟨_,rfl⟩
 rw[←hK5]
 have E5:yq K4 K5:=by rw[hK5];exact (yq.refl _).put h21 _
 have r21:K5 a21=some (.raw (.cells [.i .i64 i,.i .i64 o.kind,.i .i64 when,.i .i64 now,.i .i64 o.data,.sl none 0 0 0,.b false])):=by rw[hK5,ze]
 have r85:=E5 _ _ r8
 simp[rdL,AB.read,zO,r85,On.cells]
 have E25:yq (K.put t (.abs (TmP t x'))) K5:=((E2.trans E3).trans E4).trans E5
 have hcK:(K.put t (.abs (TmP t x'))).hasC s o.c x:=fun c hoc=>⟨(hc c hoc).1,g6 _ _ (hc c hoc).1 (hc c hoc).2⟩
 have hc5:K5.hasC s o.c x:=zgg E25 hcK
 have n21:(K.put t (.abs (TmP t x'))) a21=none:=((E2.trans E3).trans E4).none h21
 refine (zer hf.f47 hc5 now).mono ?_
 rintro _ K6 ⟨sl,rfl,hfr⟩
 obtain⟨y,hy⟩:∃y,y=(yE o.c x now):=⟨_,rfl⟩
 rw[←hy]at hfr
 rw[←hy]
 rw[←hy]at hQ
 have oX2:xz (L.putC o.c y.1) s { σ with x:=x' } t ((K.put t (.abs (TmP t x'))).putC o.c y.1):=by
  cases hoc:o.c with
  | none=>exact op.setX x'
  | some c=>exact (op.setX x').putOld (hc c hoc).1 (hc c hoc).2 _
 have comm:∀d,(L.putC o.c y.1).put s d=(L.put s d).putC o.c y.1:=by
  intro d
  cases hoc:o.c with
  | none=>rfl
  | some c=>simp only[Lg.putC];rw[yJ _ (hc c hoc).1]
 have E6:yq ((K.put t (.abs (TmP t x'))).putC o.c y.1) (K5.putC o.c y.1):=E25.bothC _ _
 have c4:((K.put t (.abs (TmP t x'))).putC o.c y.1) a4=none:=UX hcK b4
 have c21:((K.put t (.abs (TmP t x'))).putC o.c y.1) a21=none:=UX hcK n21
 have r4K:K5 a4=some (.raw (.cells [.i .i64 0,.i .i64 0,.i .i64 0,.i .i64 0,.i .i64 0,.sl none 0 0 0,.b false])):=E5 _ _ (E4 _ _ (E3 _ _ r4))
 have n4c:∀c,o.c=some c→a4≠c:=fun c hoc h=>by rw[←h]at hoc;have:=(hcK a4 hoc).2;rw[b4]at this;cases this
 have n21c:∀c,o.c=some c→a21≠c:=fun c hoc h=>by rw[←h]at hoc;have:=(hcK a21 hoc).2;rw[n21]at this;cases this
 have getC:∀r d,(∀c,o.c=some c→r≠c)→K5 r=some d→(K5.putC o.c y.1) r=some d:=by
  intro r d h1 h2
  cases hoc:o.c with
  | none=>exact h2
  | some c=>simp only[Lg.putC];rw[zb _ _ _ (h1 c hoc)];exact h2
 have q4:=getC _ _ n4c r4K
 have q21:=getC _ _ n21c r21
 have n421:a4≠a21:=by rintro rfl;rw[E4 _ _ (E3 _ _ r4)]at h21;cases h21
 have fin:∀(B:Lg),yq B K6→B a4=none→B a21=none→K6 a4=some (.raw (.cells [.i .i64 0,.i .i64 0,.i .i64 0,.i .i64 0,.i .i64 0,.sl none 0 0 0,.b false]))→K6 a21=some (.raw (.cells [.i .i64 i,.i .i64 o.kind,.i .i64 when,.i .i64 now,.i .i64 o.data,.sl none 0 0 0,.b false]))→sl.one=true→sl.cellsOf=some [sl]→(∀K7,yq B K7→∃L',zu K7 L'∧xu ((L.putC o.c y.1).put s (.abs (ZT s { σ with x:=x' }))) sl (yp y.2.1) y.2.1.length 5 L') →
   za F (.ext 0) [.tup [sl,.b y.2.2]] K6 fun v26 L26=>za F (.ext 1) [.tup [sl,.b y.2.2]] L26 fun v27 L27=>za F (.fad 5) [.p (some (a21,0))] L27 fun v28 L28=>za F (.st 1) [v28,v26] L28 fun _ L29 =>
    za F (.fad 6) [.p (some (a21,0))] L29 fun v30 L30=>za F (.st 1) [v30,v27] L30 fun _ L31=>za F (.ld (some 7)) [.p (some (a21,0))] L31 fun v32 L32=>za F (.st 7) [.p (some (a4,0)),v32] L32 fun _ L33 =>
    zl (yz Env.nil Env.nil L33 [.cell (.c (.p (some (a4,0)))) (some 7),.tmp (.c (.b true))]) Q L33:=by
  intro B hB b4 b21 k4 k21 hone hco hfin
  simp
  rw[zH k21 (by simp) hco]
  simp
  rw[zH (ze _ _ _) (by simp) rfl,zA]
  simp
  rw[yj (ze _ _ _) (by simp)]
  simp
  rw[zw (c:=[.i .i64 0,.i .i64 0,.i .i64 0,.i .i64 0,.i .i64 0,.sl none 0 0 0,.b false]) (by rw[zb _ _ _ n421];exact k4) (by simp[hone]) (by simp) (by simp),Xl]
  rw[zU _ _ (ze _ _ _) (by simp)]
  simp
  obtain⟨L',g1,g2⟩:=hfin _ ((hB.put b21 _).put b4 _)
  refine⟨_,g1,hQ _ _ ⟨sl,rfl,?_⟩⟩
  rw[←comm]
  exact g2
 rcases hfr with⟨z1,z2,rfl,rfl⟩ | ⟨bs,ex,z1,z2,rfl,z3,rfl⟩
 ·refine fin _ E6 c4 c21 q4 q21 rfl rfl ?_
  intro K7 hK7
  exact⟨_,(yq.sees hK7).trans oX2.shut,.inl ⟨z1,z2,rfl,rfl⟩⟩
 ·have nb4:a4≠bs:=by rintro rfl;rw[q4]at z1;cases z1
  have nb21:a21≠bs:=by rintro rfl;rw[q21]at z1;cases z1
  have zz:=E6.none z1
  refine fin _ (E6.both bs _) (by rw[zb _ _ _ nb4];exact c4) (by rw[zb _ _ _ nb21];exact c21) (by rw[zb _ _ _ nb4];exact q4) (by rw[zb _ _ _ nb21];exact q21) rfl rfl ?_
  intro K7 hK7
  have o9:=oX2.onto zz (.raw (.cells (yp y.2.1)))
  have ne:=oX2.ne zz
  refine⟨_,(yq.sees hK7).trans o9.shut,.inr ⟨bs,ex,?_,z2,rfl,z3,?_⟩⟩
  ·rw[zb _ _ _ ne.1];exact ne.2
  ·rw[yJ _ ne.1]
end
end
section
theorem zfr {a b:Int}(h1:0≤a)(h2:0≤b)(h3:a≤4611686018427387904)(h4:b≤4611686018427387904):zfs a b=false:=by
 simp[zfs];omega
section
variable {σ:Tms} {k dat g due q p:Int} {c:Option Nat}
end
end
section
structure XG (x:Xs)(K:Int):Prop where
 sorted:x.l.Pairwise It.lt
 nd:(x.l.map It.id).Nodup
 below:∀y∈x.l,y.s≤x.seq
 pos:0≤x.seq
 seq:x.seq≤K
 len:(x.l.length:Int)≤K
 per:∀y∈x.l,∃p,x.pf y.id=some p∧0≤p∧p≤4611686018427387904
 time:∀y∈x.l,0≤y.w∧y.w≤4611686018427387904
theorem vv {id:Int}{l:List It}{y:It}:y∈yS id l↔y∈l∧y.id≠id:=by simp[yS]
theorem XG.mono {x:Xs}{K K':Int}(h:XG x K)(hk:K≤K'):XG x K':=⟨h.sorted,h.nd,h.below,h.pos,Int.le_trans h.seq hk,Int.le_trans h.len hk,h.per,h.time⟩
theorem XG.stop {x:Xs}{K:Int}(h:XG x K)(id:Int):XG (x.stop id) K:=by
 have sub:(yS id x.l).Sublist x.l:=List.filter_sublist
 refine⟨h.sorted.sublist sub,h.nd.sublist (sub.map _),?_,h.pos,h.seq,?_,?_,?_⟩
 ·intro y hy;exact h.below y (vv.1 hy).1
 ·have h1:=sub.length_le
  have h2:=h.len
  have h3:((yS id x.l).length:Int)≤(x.l.length:Int):=by omega
  exact Int.le_trans h3 h2
 ·intro y hy
  have hy':=vv.1 hy
  obtain⟨p,h1,h2⟩:=h.per y hy'.1
  have hn:¬id=y.id:=fun h9=>hy'.2 h9.symm
  exact⟨p,by simp[Xs.stop,yN,hn,hy'.2,h1],h2⟩
 ·intro y hy;exact h.time y (vv.1 hy).1
theorem VJ {x:Xs}{id:Int}{y:It}:y∈(x.stop id).l↔y∈x.l∧y.id≠id:=vv
theorem zhM {x y:It}{l:List It}:y∈ins x l↔y=x∨y∈l:=by rw[(vg x l).mem_iff];simp
theorem XG.arm {x:Xs}{K:Int}(h:XG x K)(id when p:Int)(h1:0≤when)(h2:0≤p)(h3:when≤4611686018427387904)(h4:p≤4611686018427387904) :
  XG (x.arm id when p).1 (K+1)∧(∀y,y∈(x.arm id when p).1.l↔y=⟨id,when,x.seq+1⟩∨(y∈x.l∧y.id≠id))∧(x.arm id when p).1.pf id=some p∧(∀j,j≠id→(x.arm id when p).1.pf j=x.pf j)∧(x.arm id when p).1.seq=x.seq+1:=by
 have hb:=zfr h1 h2 h3 h4
 have e:(x.arm id when p).1=x.armed id when p:=by simp[Xs.arm,hb]
 rw[e]
 have mem:∀y,y∈(x.armed id when p).l↔y=⟨id,when,x.seq+1⟩∨(y∈x.l∧y.id≠id):=by
  intro y
  simp only[Xs.armed]
  rw[zhM,vv]
 have hs:=h.stop id
 refine⟨⟨?_,?_,?_,?_,?_,?_,?_,?_⟩,mem,by simp[Xs.armed,yN],?_,rfl⟩
 ·refine Vm hs.sorted ?_
  intro y hy
  have:=h.below y (vv.1 hy).1
  simp;omega
 ·simp only[Xs.armed]
  rw[((vg _ _).map It.id).nodup_iff]
  simp only[List.map_cons,List.nodup_cons]
  refine⟨?_,hs.nd⟩
  intro h9
  obtain⟨y,hy,hyi⟩:=List.mem_map.1 h9
  exact (vv.1 hy).2 hyi
 ·intro y hy
  rcases (mem y).1 hy with rfl | ⟨h5,_⟩
  ·simp[Xs.armed]
  ·have:=h.below y h5;simp[Xs.armed];omega
 ·have:=h.pos;simp[Xs.armed];omega
 ·have:=h.seq;simp[Xs.armed];omega
 ·have h5:=hs.len
  simp only[Xs.armed,(vg _ _).length_eq,List.length_cons]
  simp only[Xs.stop]at h5
  omega
 ·intro y hy
  rcases (mem y).1 hy with rfl | ⟨h5,h6⟩
  ·exact⟨p,by simp[Xs.armed,yN],h2,h4⟩
  ·obtain⟨q,h7,h8⟩:=h.per y h5
   have hn:¬id=y.id:=fun h9=>h6 h9.symm
   exact⟨q,by simp[Xs.armed,yN,hn,h6,h7],h8⟩
 ·intro y hy
  rcases (mem y).1 hy with rfl | ⟨h5,h6⟩
  ·exact⟨h1,h3⟩
  ·exact h.time y h5
 ·intro j hj
  have hn:¬id=j:=fun h9=>hj h9.symm
  simp[Xs.armed,yN,hn,hj]
end
section
variable {F:Nat→Option AFn}
def KSl (v:AV)(l:List Int)(bo:Option Nat)(K:Lg):Prop:=match bo with
 | none=>v=.sl none 0 0 0∧l=[]
 | some b=>∃cap sp ex,v=.sl (some (b,0)) l.length cap ex∧K b=some (.raw (.cells (icl l++sp)))∧l.length+sp.length=cap∧(ex=0∨ex=1)
theorem wF (l:List Int):(icl l).length=l.length:=by simp[icl]
theorem zhN (l:List Int)(sp:List AV){i:Nat}(h:i<l.length):(icl l++sp)[i]?=some (.i .i64 l[i]):=by
 rw[List.getElem?_append_left (by simpa[icl]using h)]
 simp[icl,h]
def za4:List Int→Int→Nat→Int
 | [],_,_=>-1
 | y::r,x,k=>if x=y then k else za4 r x (k+1)
theorem zeL (l:List Int)(x:Int){i:Nat}(h:i<l.length):za4 (l.drop i) x i=if x=l[i]then (i:Int)else za4 (l.drop (i+1)) x (i+1):=by
 rw[List.drop_eq_getElem_cons h]
 rfl
theorem KSl.len {v:AV}{l:List Int}{bo:Option Nat}{L:Lg}(h:KSl v l bo L)(M:Lg)(k:AV→Lg→Prop):za F .lenSl [v] M k=k (.i .i64 l.length) M:=by
 cases bo with
 | none=>obtain⟨rfl,rfl⟩:=h;simp
 | some b=>obtain⟨cap,sp,ex,rfl,_⟩:=h;simp
theorem zdc (hf:H_f137 F){L:Lg}{v:AV}{l:List Int}{bo:Option Nat}(h:KSl v l bo L)(hl:l.length≤1000000)(x:Int):zd F k_f137 [v,.i .i64 x] L fun r L'=>r=.i .i64 (za4 l x 0)∧L'=L:=by
 refine zr ?_
 intro Q hQ
 apply r_f137 hf.code
 unfold D_f137_1 D_f137_4 D_f137_6
 simp[zJ,h.len]
 obtain⟨I,hI⟩:∃I:Nat→Env→Lg→Prop,I=fun m E K=>∃i:Nat,m+i=l.length∧K=L∧za4 (l.drop i) x i=za4 l x 0∧E 0=v∧E 1=.i .i64 x∧E 7=.i .i64 l.length∧E 8=.i .i64 i:=⟨_,rfl⟩
 refine zQ I l.length ?_ ?_
 ·rw[hI]
  exact⟨0,by omega,rfl,by simp,by simp,by simp,by simp,by simp⟩
 intro m E t K hi
 rw[hI]at hi
 obtain⟨i,hm,hK,hx,l0,l1,l7,l8⟩:=hi
 subst hK
 unfold D_f137_7
 rw[l0,l1,l7,l8]
 by_cases hin:i<l.length
 ·cases bo with
  | none=>obtain⟨rfl,rfl⟩:=h;simp at hin
  | some b =>
   obtain⟨cap,sp,ex,rfl,hb,_,_⟩:=h
   have ei:(i:Int)<(l.length:Int):=by omega
   have rd:rdL K (b,i) none=some (.i .i64 l[i]):=by rw[zk hb];exact zhN l sp hin
   have w1:wr .i64 ((i:Int)+1)=((i+1:Nat):Int):=by rw[zS (by omega) (by omega)];omega
   rw[zeL l x hin]at hx
   by_cases hq:x=l[i]
   ·rw[if_pos hq]at hx
    simp[hin,rd,yF _ _ _ 1 b 0 l.length cap ex .i64 (i:Int) (Int.natCast_nonneg _) ei]
    refine⟨fun _=>⟨K,zu.refl _,hQ _ _ ⟨by rw[hx],rfl⟩⟩,fun h9=>absurd hq h9⟩
   ·rw[if_neg hq]at hx
    simp[hin,rd,yF _ _ _ 1 b 0 l.length cap ex .i64 (i:Int) (Int.natCast_nonneg _) ei,w1]
    refine⟨fun h9=>absurd h9 hq,fun _=>?_⟩
    rw[hI]
    exact⟨m-1,by omega,i+1,by omega,rfl,hx,by simp[l0],by simp[l1],by simp[l7],by simp⟩
 ·have hil:i=l.length:=by omega
  subst hil
  simp at hx
  simp
  unfold D_f137_3
  exact⟨K,zu.refl _,hQ _ _ ⟨by rw[←hx];rfl,rfl⟩⟩
theorem V3 (l:List Int):(icl l).all AV.one=true:=by
 rw[List.all_eq_true]
 intro x hx
 simp only[icl,List.mem_map]at hx
 obtain⟨n,_,rfl⟩:=hx
 rfl
theorem KSl.cells {b cap:Nat}{l:List Int}{sp:List AV}{K:Lg}(hb:K b=some (.raw (.cells (icl l++sp)))):zF K (some (b,0)) (l.length * 1)=some (icl l):=by
 have:l.length≤(icl l++sp).length:=by rw[List.length_append,wF];omega
 simp only[zF,hb,AB.read,cut,zq,Nat.zero_add,Nat.mul_one,this,decide_true,cond_true,List.drop_zero]
 rw[←wF l,List.take_left]
theorem zdu (hf:H_f135 F){L:Lg}{v:AV}{l:List Int}{bo:Option Nat}(h:KSl v l bo L)(hl:l.length≤1000000):zd F k_f135 [v] L fun r L'=>(l=[]∧r=.sl none 0 0 0∧L'=L)∨∃b ex,L b=none∧r=.sl (some (b,0)) l.length l.length ex∧L'=L.put b (.raw (.cells (icl l))):=by
 refine zr ?_
 intro Q hQ
 apply r_f135 hf.code
 unfold D_f135_1
 cases bo with
 | none =>
  obtain⟨rfl,rfl⟩:=h
  simp
  exact⟨L,zu.refl _,hQ _ _ (.inl ⟨rfl,rfl,rfl⟩)⟩
 | some b =>
  obtain⟨cap,sp,ex,rfl,hb,_,_⟩:=h
  simp
  rw[yg (c:=[]) _ _ (by simp[y5,zE]) (by simp)]
  intro b1 hb1
  have nb:b≠b1:=by rintro rfl;rw[hb]at hb1;cases hb1
  have hb':(L.put b1 (.raw (.cells []))) b=some (.raw (.cells (icl l++sp))):=by rw[zb _ _ _ nb];exact hb
  have hr:=KSl.cells (cap:=cap) hb'
  simp
  by_cases h0:l.length=0
  ·have hn:l=[]:=List.length_eq_zero_iff.1 h0
   subst hn
   simp only[Xh,zdJ,hr,V3,true_and]
   simp
   exact⟨_,zu.refl _,hQ _ _ (.inr ⟨b1,0,hb1,rfl,rfl⟩)⟩
  ·refine wV (m:=l.length) hr (V3 l) (by omega) (by omega) (old:=[]) (by simp[zF,AB.read,cut,zq]) (by simp[Zd];rfl) ?_
   intro b2 hb2
   have n2:b2≠b1:=by rintro rfl;simp at hb2
   rw[zb _ _ _ n2]at hb2
   simp
   refine⟨L.put b2 (.raw (.cells (icl l))),?_,hQ _ _ (.inr ⟨b2,1,hb2,rfl,rfl⟩)⟩
   rw[yJ _ (Ne.symm n2)]
   refine yq.sees ((yq.refl _).put ?_ _)
   rw[zb _ _ _ (Ne.symm n2)];exact hb1
theorem slc3 {s r o len cap ex l h m:Nat}(h1:l≤h)(h2:h≤m)(h3:m≤cap)(h4:ex=0∨ex=s):zaP s true true true [.sl (some (r,o)) len cap ex,.i .i64 (l:Int),.i .i64 (h:Int),.i .i64 (m:Int)]=some (.sl (some (r,o+l * s)) (h-l) (m-l) 0):=by
 show (bif Nat.ble l h&&Nat.ble h m&&Nat.ble m cap&&(Nat.beq ex 0||Nat.beq ex s)then _ else _)=_
 have:(Nat.beq ex 0||Nat.beq ex s)=true:=by rcases h4 with rfl | rfl<;>simp[zp]
 simp[zq,h1,h2,h3,this]
theorem slc2 {s r o len cap ex l h:Nat}(h1:l≤h)(h2:h≤cap)(h4:ex=0∨ex=s):zaP s true true false [.sl (some (r,o)) len cap ex,.i .i64 (l:Int),.i .i64 (h:Int)]=some (.sl (some (r,o+l * s)) (h-l) (cap-l) ex):=by
 show (bif Nat.ble l h&&Nat.ble h cap&&Nat.ble cap cap&&(Nat.beq ex 0||Nat.beq ex s)then _ else _)=_
 have:(Nat.beq ex 0||Nat.beq ex s)=true:=by rcases h4 with rfl | rfl<;>simp[zp]
 simp[zq,h1,h2,this]
theorem slcL {s r o len cap ex l:Nat}(h1:l≤len)(h2:len≤cap)(h4:ex=0∨ex=s):zaP s true false false [.sl (some (r,o)) len cap ex,.i .i64 (l:Int)]=some (.sl (some (r,o+l * s)) (len-l) (cap-l) ex):=by
 show (bif Nat.ble l len&&Nat.ble len cap&&Nat.ble cap cap&&(Nat.beq ex 0||Nat.beq ex s)then _ else _)=_
 have:(Nat.beq ex 0||Nat.beq ex s)=true:=by rcases h4 with rfl | rfl<;>simp[zp]
 simp[zq,h1,h2,this]
theorem zfv {L:Lg}{size bytes len cap ex c e r o:Nat}{b:Option (Nat×Nat)}{new:List AV}{k:AV→Lg→Prop}(hr:zF L b (0 * size)=some new)(h1:new.all AV.one=true)(hle:len≤cap)
  (hk:k (.sl (some (r,o)) len cap ex) L):Xh size bytes L k [.sl (some (r,o)) len cap ex,.sl b 0 c e]:=by
 simp only[Xh,hr,zdJ,h1,true_and,Nat.add_zero,hle,if_true]
 exact hk
theorem YC (A X vs:List AV):zo (A++X) A.length vs=A++vs++X.drop vs.length:=by
 unfold zo
 rw[List.take_left,←List.drop_drop,List.drop_left]
theorem zbf (hf:H_f138 F){L:Lg}{v:AV}{l:List Int}{b:Nat}(h:KSl v l (some b) L)(hl:l.length≤1000000){i:Nat}(hi:i<l.length):zd F k_f138 [v,.i .i64 i,.i .i64 ((i:Int)+1)] L fun r L'=>∃sp',KSl r (l.eraseIdx i) (some b) L'∧L'=L.put b (.raw (.cells (icl (l.eraseIdx i)++sp'))):=by
 refine zr ?_
 intro Q hQ
 apply r_f138 hf.code
 unfold D_f138_1
 have hlen:=h.len (F:=F)
 obtain⟨cap,sp,ex,rfl,hb,hc,he⟩:=h
 have e1:((i:Int)+1)=((i+1:Nat):Int):=by omega
 rw[e1]
 have s1:=slc3 (s:=1) (r:=b) (o:=0) (len:=l.length) (cap:=cap) (ex:=ex) (l:=i) (h:=i+1) (m:=l.length) (by omega) (by omega) (by omega) he
 have s2:=zgD (s:=1) (r:=b) (o:=0) (len:=l.length) (cap:=cap) (ex:=ex) (m:=i) (j:=.i64) (by omega) he
 have s3:=slcL (s:=1) (r:=b) (o:=0) (len:=l.length) (cap:=cap) (ex:=ex) (l:=i+1) (by omega) (by omega) he
 have ne:¬((i:Int)=((i+1:Nat):Int)):=by omega
 simp only[YQ,hlen,s1,s2,s3]
 simp[s1,s2,s3]
 refine⟨fun h9=>absurd h9 (by omega),fun _=>?_⟩
 obtain⟨A,hA⟩:∃A,A=icl (l.take i):=⟨_,rfl⟩
 obtain⟨B,hB⟩:∃B,B=icl (l.drop (i+1)):=⟨_,rfl⟩
 have lA:A.length=i:=by rw[hA,wF];simp;omega
 have lB:B.length=l.length-(i+1):=by rw[hB,wF];simp
 have hcell:icl l++sp=A++([AV.i .i64 l[i]]++B++sp):=by
  have h1:l=l.take i++l[i]::l.drop (i+1):=by rw[←List.drop_eq_getElem_cons hi,List.take_append_drop]
  have h2:icl l=icl (l.take i)++([AV.i .i64 l[i]]++icl (l.drop (i+1))):=by
   have:=congrArg icl h1
   rw[this]
   simp only[icl,List.map_append,List.map_cons]
   rfl
  rw[h2,hA,hB]
  simp only[List.append_assoc]
 have her:icl (l.eraseIdx i)=A++B:=by
  rw[hA,hB,List.eraseIdx_eq_take_drop_succ]
  simp[icl]
 have hel:(l.eraseIdx i).length=l.length-1:=List.length_eraseIdx_of_lt hi
 rw[hcell]at hb
 have hr:zF L (some (b,i+1)) ((l.length-(i+1)) * 1)=some B:=by
  have h1:(i+1)+(l.length-(i+1))≤(A++([AV.i .i64 l[i]]++B++sp)).length:=by simp[lA,lB];omega
  simp only[zF,hb,AB.read,cut,zq,Nat.mul_one,h1,decide_true,cond_true]
  rw[show i+1=A.length+1 by omega,←List.drop_drop,List.drop_left]
  rw[show l.length-(A.length+1)=B.length by rw[lA,lB]]
  have h3:A.length+1+B.length≤A.length+(B.length+sp.length+1):=by omega
  simp[h3]
 have fin:∀M:Lg,M=L.put b (.raw (.cells (A++B++([.i .i64 0]++sp))))→zl (some (.sl (some (b,0)) (l.length-1) cap ex)) Q M:=by
  intro M hM
  refine⟨_,zu.refl _,hQ _ _ ⟨[.i .i64 0]++sp,⟨cap,[.i .i64 0]++sp,ex,by rw[hel],by rw[hM,ze,her],by rw[hel];simp;omega,he⟩,by rw[hM,her]⟩⟩
 have rest:∀(M:Lg) (y:AV),M b=some (.raw (.cells (A++B++([y]++sp))))→(∀z,M.put b z=L.put b z) →
   za F .lenSl [.sl (some (b,0)) (l.length-1) cap ex] M fun v8 L8=>WC (zaP 1 true true false [.sl (some (b,0)) (l.length-1) cap ex,v8,.i .i64 l.length]) L8 fun v9 L9=>za F (.clr [.i .i64 0]) [v9] L9 fun x L10=>zl (some (.sl (some (b,0)) (l.length-1) cap ex)) Q L10:=by
  intro M y hM hput
  have s4:=slc2 (s:=1) (r:=b) (o:=0) (len:=l.length-1) (cap:=cap) (ex:=ex) (l:=l.length-1) (h:=l.length) (by omega) (by omega) he
  have e5:l.length-(l.length-1)=1:=by omega
  simp[s4,e5,ziv,y5]
  have lAB:(A++B).length=l.length-1:=by simp[lA,lB];omega
  have hw:wrL M (b,l.length-1) [.i .i64 0]=some (M.put b (.raw (.cells (A++B++([.i .i64 0]++sp))))):=by
   have h1:(l.length-1) + [AV.i .i64 0].length≤(A++B++([y]++sp)).length:=by simp[lA,lB];omega
   simp only[wrL,hM,h1]
   have h2:=YC (A++B) ([y]++sp) [.i .i64 0]
   rw[lAB]at h2
   rw[h2]
   simp
  rw[hw]
  exact fin _ (hput _)
 by_cases hn:l.length-(i+1)=0
 ·have hBn:B=[]:=List.length_eq_zero_iff.1 (by omega)
  have hi1:i=l.length-1:=by omega
  rw[hn]at hr ⊢
  refine zfv hr (by simp[hBn]) (by omega) ?_
  have:=rest L (.i .i64 l[i]) (by rw[hb,hBn];simp) (fun z=>rfl)
  rw[←hi1]at this
  exact this
 ·have hwr:wrL L (b,0+i * 1) B=some (L.put b (.raw (.cells (A++B++([AV.i .i64 l[i]]++B++sp).drop B.length)))):=by
   have h1:i+B.length≤(A++([AV.i .i64 l[i]]++B++sp)).length:=by simp[lA,lB];omega
   have h2:=YC A ([AV.i .i64 l[i]]++B++sp) B
   rw[lA]at h2
   have h3:B.all AV.one=true:=by rw[hB];exact V3 _
   simp only[wrL,hb,Nat.zero_add,Nat.mul_one,h1,h3,and_self,if_true,h2]
  have hlast:∃y,([AV.i .i64 l[i]]++B++sp).drop B.length=[y]++sp:=by
   have h1:([AV.i .i64 l[i]]++B).length=B.length+1:=by simp
   rw[List.drop_append_of_le_length (by omega)]
   have h2:(([AV.i .i64 l[i]]++B).drop B.length).length=1:=by rw[List.length_drop];omega
   obtain⟨y,hy⟩:=List.length_eq_one_iff.1 h2
   exact⟨y,by rw[hy]⟩
  obtain⟨y,hy⟩:=hlast
  rw[hy]at hwr
  refine Wp (m:=l.length-(i+1)) hr (by rw[hB];exact V3 _) (by omega) (by omega) hwr ?_
  have hi1:i+(l.length-(i+1))=l.length-1:=by omega
  rw[hi1]
  exact rest _ y (ze _ _ _) (fun z=>zA _ _ _ _)
theorem zcq (l:List Int)(x:Int):icl (l++[x])=icl l++[AV.i .i64 x]:=by simp[icl]
theorem KSl.push {K:Lg}{v:AV}{l:List Int}{bo:Option Nat}(h:KSl v l bo K)(hl:l.length≤1000000){x:Int}{src:Option (Nat×Nat)}{c e:Nat}(hr:zF K src (1 * 1)=some [.i .i64 x]){k:AV→Lg→Prop}
  (hk:∀w q K',KSl w (l++[x]) (some q) K'→(bo=some q∨K q=none)→(∀r,r≠q→bo≠some r→K' r=K r)→k w K'):Xh 1 8 K k [v,.sl src 1 c e]:=by
 cases bo with
 | none =>
  obtain⟨rfl,rfl⟩:=h
  refine wV (m:=1) hr (by simp) (by omega) (by omega) (old:=[]) (by simp[zF]) (by simp[Zd];rfl) ?_
  intro b hb
  refine hk _ b _ ⟨1,[],1,by simp,by simp[Lg.put_apply,icl],by simp,.inr rfl⟩ (.inr hb) ?_
  intro r hr _
  rw[zb _ _ _ hr]
 | some b =>
  obtain⟨cap,sp,ex,rfl,hb,hc,he⟩:=h
  by_cases hcap:l.length+1≤cap
  ·have hsp:∃y r,sp=y::r:=by
    cases sp with
    | nil=>simp at hc;omega
    | cons y r=>exact⟨y,r,rfl⟩
   obtain⟨y,r,rfl⟩:=hsp
   have hw:wrL K (b,0+l.length * 1) [.i .i64 x]=some (K.put b (.raw (.cells (icl (l++[x])++r)))):=by
    have h1:l.length + [AV.i .i64 x].length≤(icl l++y::r).length:=by simp[wF]
    have h2:=YC (icl l) (y::r) [.i .i64 x]
    rw[wF]at h2
    simp only[wrL,hb,Nat.zero_add,Nat.mul_one,h1,h2,zcq]
    simp
   refine Wp (m:=1) hr (by simp) hcap (by omega) hw ?_
   refine hk _ b _ ⟨cap,r,ex,by simp,ze _ _ _,by simp at hc ⊢;omega,he⟩ (.inl rfl) ?_
   intro q hq _
   rw[zb _ _ _ hq]
  ·have hsp:sp=[]:=List.length_eq_zero_iff.1 (by omega)
   subst hsp
   have hg:∃M,Zd K (some (b,0)) ex 1=some M∧(∀r,r≠b→M r=K r):=by
    rcases he with rfl | rfl
    ·exact⟨K,by simp[Zd],fun _ _=>rfl⟩
    ·exact⟨K.del b,by simp[Zd,hb],fun r hr=>by rw[yM,if_neg hr]⟩
   obtain⟨M,hM,hMr⟩:=hg
   refine wV (m:=1) hr (by simp) hcap (by omega) (KSl.cells (cap:=cap) hb) hM ?_
   intro q hq
   refine hk _ q _ ⟨l.length+1,[],1,by simp,by simp[Lg.put_apply,zcq],by simp,.inr rfl⟩ (.inr hq) ?_
   intro r hr hbr
   rw[zb _ _ _ hr]
   exact hMr r (fun h9=>hbr (by rw[h9]))
end
section
variable {F:Nat→Option AFn} {L:Lg}
def Ch.sg:Ch:=⟨[],0,[],[],false,true,false⟩
theorem XA (hf:H_f129 F):zd F k_f129 [] L fun r L'=>∃c,L c=none∧r=.p (some (c,0))∧L'=L.put c (.abs (yu c .sg)):=by
 apply r_f129 hf.code
 unfold D_f129_1
 refine (zar hf.f22 0 (by omega)).mono ?_
 rintro _ L1 ⟨c,rg,q1,q2,hc,rfl,h⟩
 have h2:=h.setRoot false true false
 simp[zH h.root]
 exact⟨_,h2.shut,c,hc,rfl,rfl⟩
theorem WV:∀(ws:List Wk) (i:Nat) (w:Wk),ws[i]?=some w→((yp ws).drop (i * 5)).take 5=w.cells∧i * 5+5≤(yp ws).length
 | [],i,w,h=>by simp at h
 | a::r,0,w,h=>by simp at h;subst h;simp[yp,Wk.cells]
 | a::r,i+1,w,h=>by
  have:=WV r i w (by simpa using h)
  have e:(i+1) * 5=i * 5+1+1+1+1+1:=by omega
  rw[e]
  simp only[yp,Wk.cells,List.cons_append,List.nil_append,List.drop_succ_cons,List.length_cons]
  exact⟨this.1,by omega⟩
def SlK (L:Lg)(s:AV)(ws:List Wk):Prop:=(ws=[]∧s=.sl none 0 0 0)∨∃b ex,s=.sl (some (b,0)) ws.length ws.length ex∧L b=some (.raw (.cells (yp ws)))
theorem WL (hf:H_f132 F){s:AV}{ws:List Wk}(hs:SlK L s ws)(hl:ws.length≤1000000){f:Nat}{fst cap:List AV}{p:Wk→Bool}
  (hso:∀w:Wk,zd F f (fst++(.agg w.cells)::cap) L fun v L'=>v=.b (p w)∧L'=L):zd F k_f132 [s,.fn f fst cap] L fun v L'=>v=.b (ws.any p)∧L'=L:=by
 apply r_f132 hf.code
 unfold D_f132_1
 have key:zd F k_f131 [s,.fn f fst cap] L fun v L'=>(∃i:Int,v=.i .i64 i∧(decide (0≤i)=ws.any p))∧L'=L:=by
  apply r_f131 hf.f131.code
  unfold D_f131_1 D_f131_4
  obtain⟨a,cp,ex,hsl⟩:∃a cp ex,s=.sl a ws.length cp ex:=by
   rcases hs with⟨rfl,rfl⟩ | ⟨b,ex,rfl,_⟩
   ·exact⟨none,0,0,rfl⟩
   ·exact⟨_,_,_,rfl⟩
  simp[hsl,D_f131_6]
  refine zQ (fun n l' L'=>∃i:Nat,i≤ws.length∧n=ws.length-i∧(∀x,x∈ws.take i→p x=false)∧L'=L∧l' 0=s∧l' 1=.fn f fst cap∧l' 7=.i .i64 ws.length∧l' 8=.i .i64 i)
   ws.length ⟨0,by omega,by omega,by simp,rfl,by simp[hsl],by simp,by simp,by simp⟩ ?_
  rintro n l' t L' ⟨i,hi,hn,hA,rfl,l0,l1,l7,l8⟩
  unfold D_f131_7
  rw[l0,l1,l7,l8]
  by_cases hlt:i<ws.length
  ·have hne:ws≠[]:=by rintro rfl;simp at hlt
   rcases hs with⟨h1,_⟩ | ⟨b,ex,rfl,hL⟩
   ·exact absurd h1 hne
   have hw:ws[i]?=some ws[i]:=List.getElem?_eq_getElem hlt
   have hat:=WV ws i _ hw
   have e1:((i:Int)<(ws.length:Int)):=by omega
   simp[hlt,yF _ _ _ 5 b 0 ws.length ws.length ex .i64 (i:Int) (Int.natCast_nonneg _) e1,rdL,AB.read,zO,hL,cut,zq,hat.2,hat.1]
   refine (hso ws[i]).mono ?_
   rintro _ L2 ⟨rfl,rfl⟩
   rw[xE]
   refine⟨fun hp=>?_,fun hp=>?_⟩
   ·simp
    have:ws.any p=true:=List.any_eq_true.2 ⟨ws[i],List.getElem_mem _,hp⟩
    simpa using this
   ·have e2:wr .i64 ((i:Int)+1)=((i+1:Nat):Int):=by rw[zS (by omega) (by omega)];omega
    simp
    refine⟨ws.length-(i+1),by omega,i+1,by omega,rfl,?_,l0,l1,l7,e2⟩
    intro x hx
    rw[List.take_add_one,hw]at hx
    rcases List.mem_append.1 hx with hx | hx
    ·exact hA x hx
    ·simp at hx;rw[hx];exact hp
  ·have e1:¬((i:Int)<(ws.length:Int)):=by omega
   have e2:i=ws.length:=by omega
   simp[hlt,D_f131_3]
   rw[e2,List.take_length]at hA
   simpa using hA
 refine key.mono ?_
 rintro _ _ ⟨⟨i,rfl,hi⟩,rfl⟩
 simp[←hi]
theorem ZC:∀(a b:List Wk),yp (a++b)=yp a++yp b
 | [],_=>rfl
 | w::r,b=>by simp[yp,ZC r b]
theorem COpen.keep {c rg q1 q2:Nat}{x:Ch}{K K':Lg}(h:COpen L c x rg q1 q2 K)(e:∀r,(r=c∨r=rg∨r=q1∨r=q2∨L r≠(Option.none:Option LC))→K' r=K r):COpen L c x rg q1 q2 K' :=
 ⟨h.n1,h.n2,h.n3,h.n4,h.n5,h.n6,by rw[e c (.inl rfl)];exact h.root,by rw[e rg (.inr (.inl rfl))];exact h.ring,by rw[e q1 (.inr (.inr (.inl rfl)))];exact h.rcv,by rw[e q2 (.inr (.inr (.inr (.inl rfl))))];exact h.snd,
  fun b d h1 h2 h3 h4 hd=>by rw[e b (.inr (.inr (.inr (.inr (by rw[hd];simp)))))];exact h.old b d h1 h2 h3 h4 hd,h.f1,h.f2,h.f3⟩
theorem ZA.slK {v:AV}{acc:List Wk}{K:Lg}(h:ZA K v (yp acc) acc.length 5):SlK K v acc:=by
 rcases h with⟨h1,h2,h3⟩ | ⟨b,h1,h2,h3,h4⟩
 ·exact .inl ⟨List.length_eq_zero_iff.1 h1,h3⟩
 ·exact .inr ⟨b,5,h2,h3⟩
section
variable {c rg q1 q2:Nat} {x:Ch} {K:Lg} {Q:AV→Lg→Prop}
structure EI (L:Lg)(c rg q1 q2:Nat)(x:Ch)(acc:List Wk)(v:AV)(K:Lg):Prop where
 op:COpen L c x rg q1 q2 K
 own:ZA K v (yp acc) acc.length 5
 ap:∀b,slB v=some b→b≠c∧b≠rg∧b≠q1∧b≠q2∧L b=Option.none
theorem EI.junk {acc:List Wk}{v:AV}(h:EI L c rg q1 q2 x acc v K){a:Nat}(ha:K a=Option.none)(z:LC):EI L c rg q1 q2 x acc v (K.put a z):=by
 refine⟨h.op.ext ((yq.refl _).put ha _),?_,h.ap⟩
 rcases h.own with h1 | ⟨b,h1,h2,h3,h4⟩
 ·exact .inl h1
 ·have hn:b≠a:=by
   rintro rfl
   rw[ha]at h3;cases h3
  exact .inr ⟨b,h1,h2,by rw[zb _ _ _ hn];exact h3,h4⟩
theorem EI.setRcv {acc:List Wk}{v:AV}(h:EI L c rg q1 q2 x acc v K)(ws:List Wt):EI L c rg q1 q2 { x with recvs:=ws } acc v (K.put q1 (.abs (y7 q1 ws))):=by
 refine⟨h.op.setRcv ws,?_,h.ap⟩
 rcases h.own with h1 | ⟨b,h1,h2,h3,h4⟩
 ·exact .inl h1
 ·exact .inr ⟨b,h1,h2,by rw[zb _ _ _ (h.ap b (by rw[h2];rfl)).2.2.1];exact h3,h4⟩
theorem EI.push {acc:List Wk}{v:AV}(h:EI L c rg q1 q2 x acc v K){w:Wk}{src:AV}{b1:Nat}{ex cp:Nat}(hs:src=.sl (some (b1,0)) 1 cp ex)(hb:K b1=some (.raw (.cells w.cells)))(hn:acc.length≤1000000){k:AV→Lg→Prop}
  (hk:∀v' K',EI L c rg q1 q2 x (acc++[w]) v' K'→(∀r d,K r=some d→slB v≠some r→K' r=some d)→(∀b,slB v'=some b→K b=none)→k v' K'):Xh 5 32 K k [v,src]:=by
 have h1:w.cells.all AV.one=true:=by simp[Wk.cells]
 refine h.own.app (m:=1) (by omega) hs (by omega) (new:=w.cells) (by simp[zF,hb,AB.read,cut,zq,Wk.cells]) (by simp[Wk.cells]) h1 (by omega) ?_
 intro b2 hb2
 have hd:∀r d,K r=some d→slB v≠some r→((K.delO (slB v)).put b2 (.raw (.cells (yp acc++w.cells)))) r=some d:=by
  intro r d hr hne
  have n2:r≠b2:=by rintro rfl;rw[hb2]at hr;cases hr
  rw[zb _ _ _ n2]
  cases hh:slB v with
  | none=>exact hr
  | some b=>rw[hh]at hne;simp only[Lg.delO];rw[yM,if_neg];exact hr;intro h9;exact hne (by rw[h9])
 have hkeep:∀r,(r=c∨r=rg∨r=q1∨r=q2∨L r≠(Option.none:Option LC))→((K.delO (slB v)).put b2 (.raw (.cells (yp acc++w.cells)))) r=K r:=by
  intro r hr
  have hne:slB v≠some r:=by
   intro h9
   have:=h.ap r h9
   rcases hr with h8 | h8 | h8 | h8 | h8
   ·exact this.1 h8
   ·exact this.2.1 h8
   ·exact this.2.2.1 h8
   ·exact this.2.2.2.1 h8
   ·exact h8 this.2.2.2.2
  have hex:∃d,K r=some d:=by
   rcases hr with rfl | rfl | rfl | rfl | h8
   ·exact⟨_,h.op.root⟩
   ·exact⟨_,h.op.ring⟩
   ·exact⟨_,h.op.rcv⟩
   ·exact⟨_,h.op.snd⟩
   ·cases hL:L r with
    | none=>exact absurd hL h8
    | some d =>
     by_cases e1:r=c
     ·subst e1;exact⟨_,h.op.root⟩
     by_cases e2:r=rg
     ·subst e2;exact⟨_,h.op.ring⟩
     by_cases e3:r=q1
     ·subst e3;exact⟨_,h.op.rcv⟩
     by_cases e4:r=q2
     ·subst e4;exact⟨_,h.op.snd⟩
     exact⟨d,h.op.old r d e1 e2 e3 e4 hL⟩
  obtain⟨d,hd1⟩:=hex
  rw[hd1];exact hd r d hd1 hne
 have hw:yp acc++w.cells=yp (acc++[w]):=by rw[ZC];simp[yp]
 refine hk _ _ ⟨h.op.keep hkeep,?_,?_⟩ hd (fun b h9=>by simp[slB]at h9;subst h9;exact hb2)
 ·have:=h.own.of_app (m:=1) (b:=b2) (new:=w.cells) (by omega) (by simp[Wk.cells])
  rw[hw]at this
  rw[hw]
  simpa using this
 ·intro b hb'
  simp[slB]at hb'
  subst hb'
  have nk:∀{y:Nat} {k:LC},K y=some k→b2≠y:=fun hx hxr=>by rw[←hxr,hb2]at hx;cases hx
  exact⟨nk h.op.root,nk h.op.ring,nk h.op.rcv,nk h.op.snd,(h.op.none hb2).2⟩
end
end
section
variable {F:Nat→Option AFn}
def yr (p:Bool)(acc:List Wk)(w:Wt):List Wk:=if (acc.any fun y=>decide (y.t=w.t))=true then acc else acc++[⟨w.t,w.c,0,false,p⟩]
def Ch.wakes (x:Ch):List Wk:=x.sends.foldl (yr true) (x.recvs.foldl (yr false) [])
def Ch.ended (x:Ch):Ch:={ x with recvs:=[],sends:=[],closed:=true }
section
variable {L K:Lg} {c rg q1 q2:Nat} {x:Ch} {Q:AV→Lg→Prop}
theorem zfb (hf:H_f130 F){K:Lg}{b5:Nat}{w:Wt}(hb:K b5=some (.raw (.cells w.cells)))(y:Wk) :
  zd F k_f130 ([]++(.agg y.cells)::[.p (some (b5,0))]) K fun v L'=>v=.b (decide (y.t=w.t))∧L'=K:=by
 refine zr ?_
 intro Q hQ
 apply r_f130 hf.code
 unfold D_f130_1
 simp
 rw[zN _ _ _ (by simp[Wk.cells])]
 intro b hb1
 have hn:b5≠b:=by rintro rfl;rw[hb]at hb1;cases hb1
 have h1:rdL (K.put b (.raw (.cells y.cells))) (b,0) none=some (.i .i64 y.t):=by rw[zk (ze _ _ _)];rfl
 have h2:rdL (K.put b (.raw (.cells y.cells))) (b5,0) none=some (.i .i64 w.t):=by rw[zk (by rw[zb _ _ _ hn];exact hb)];rfl
 simp[h1,h2]
 exact⟨_,(((yq.refl K).put hb1 _).sees),hQ _ _ ⟨rfl,rfl⟩⟩
theorem EI.keep {acc:List Wk}{v:AV}(h:EI L c rg q1 q2 x acc v K){K':Lg}(e:∀r,(r=c∨r=rg∨r=q1∨r=q2∨L r≠(Option.none:Option LC)∨slB v=some r)→K' r=K r):EI L c rg q1 q2 x acc v K':=by
 refine⟨h.op.keep fun r hr=>e r (by rcases hr with h | h | h | h | h<;>simp[h]),?_,h.ap⟩
 rcases h.own with h1 | ⟨b,h1,h2,h3,h4⟩
 ·exact .inl h1
 ·exact .inr ⟨b,h1,h2,by rw[e b (by simp[h2,slB])];exact h3,h4⟩
theorem EI.setSnd {acc:List Wk}{v:AV}(h:EI L c rg q1 q2 x acc v K)(ws:List Wt):EI L c rg q1 q2 { x with sends:=ws } acc v (K.put q2 (.abs (y7 q2 ws))):=by
 refine⟨h.op.setSnd ws,?_,h.ap⟩
 rcases h.own with h1 | ⟨b,h1,h2,h3,h4⟩
 ·exact .inl h1
 ·exact .inr ⟨b,h1,h2,by rw[zb _ _ _ (h.ap b (by rw[h2];rfl)).2.2.2.1];exact h3,h4⟩
def Ch.rest (x:Ch)(p:Bool)(ws:List Wt):Ch:=if p=true then { x with sends:=ws }else { x with recvs:=ws }
def qOf (q1 q2:Nat)(p:Bool):Nat:=if p=true then q2 else q1
theorem EI.setQ {acc:List Wk}{v:AV}{p:Bool}{ws0:List Wt}(h:EI L c rg q1 q2 (x.rest p ws0) acc v K)(ws:List Wt):EI L c rg q1 q2 (x.rest p ws) acc v (K.put (qOf q1 q2 p) (.abs (y7 (qOf q1 q2 p) ws))):=by
 cases p
 ·exact h.setRcv ws
 ·exact h.setSnd ws
theorem EI.getQ {acc:List Wk}{v:AV}{p:Bool}{ws:List Wt}(h:EI L c rg q1 q2 (x.rest p ws) acc v K):K (qOf q1 q2 p)=some (.abs (y7 (qOf q1 q2 p) ws)):=by
 cases p
 ·exact h.op.rcv
 ·exact h.op.snd
structure EL (L:Lg)(c rg q1 q2:Nat)(x:Ch)(p:Bool)(bq:Nat)(cq:LC)(todo:List Wt)(acc:List Wk)(E:Env)(K:Lg):Prop where
 ei:EI L c rg q1 q2 (x.rest p todo.tail) acc (E 2) K
 l0:E 0=.p (some (c,0))
 l4:E 4=.p (some (qOf q1 q2 p,0))
 l6:E 6=.b (!todo.isEmpty)
 l5:∃b5,E 5=.p (some (b5,0))∧slB (E 2)≠some b5∧(∀w r,todo=w::r→K b5=some (.raw (.cells w.cells)))
 bq0:K bq=some cq
 bq1:bq≠c∧bq≠rg∧bq≠q1∧bq≠q2∧slB (E 2)≠some bq
theorem zf2 (hf:H_f14 F){p:Bool}{bq:Nat}{cq:LC}{ws:List Wt}{acc:List Wk}{E:Env}(ei:EI L c rg q1 q2 (x.rest p ws) acc (E 2) K)(l0:E 0=.p (some (c,0)))(l4:E 4=.p (some (qOf q1 q2 p,0)))
  (b0:K bq=some cq) (b1:bq≠c∧bq≠rg∧bq≠q1∧bq≠q2∧slB (E 2)≠some bq) {b5:Nat} (k5:∃cs,K b5=some (.raw (.cells cs))∧cs.length=3) (hn5:slB (E 2)≠some b5∧b5≠c∧b5≠rg∧b5≠q1∧b5≠q2∧L b5=Option.none∧b5≠bq) (h5:E 5=.p (some (b5,0))) {k:AV→Lg→Prop}
  (hk:∀(w:Wt) (K':Lg),K' b5=K b5→(∀E',E' 0=E 0→E' 2=E 2→E' 4=E 4→E' 5=E 5→E' 6=.b (!ws.isEmpty)→EL L c rg q1 q2 x p bq cq ws acc E' (K'.put b5 (.raw (.cells w.cells))))→k (.tup [w.av,.b (!ws.isEmpty)]) K'):zd F k_f14 [.p (some (qOf q1 q2 p,0))] K k:=by
 refine (vy hf ei.getQ).mono ?_
 intro v K' hv
 have q5:b5≠qOf q1 q2 p:=by cases p<;>simp[qOf,hn5]
 cases ws with
 | nil =>
  obtain⟨rfl,rfl⟩:=hv
  refine hk Wt.zero K' rfl ?_
  intro E' e0 e2 e4 e5 e6
  refine⟨?_,by rw[e0,l0],by rw[e4,l4],e6,⟨b5,by rw[e5,h5],by rw[e2];exact hn5.1,fun w r h=>by cases h⟩,?_,?_⟩
  ·rw[e2]
   refine ei.keep fun r hr=>zb _ _ _ ?_
   rintro rfl
   rcases hr with h | h | h | h | h | h
   ·exact hn5.2.1 h
   ·exact hn5.2.2.1 h
   ·exact hn5.2.2.2.1 h
   ·exact hn5.2.2.2.2.1 h
   ·exact h hn5.2.2.2.2.2.1
   ·exact hn5.1 h
  ·rw[zb _ _ _ (Ne.symm hn5.2.2.2.2.2.2)];exact b0
  ·rw[e2];exact b1
 | cons w r =>
  obtain⟨rfl,rfl⟩:=hv
  refine hk w _ (zb _ _ _ q5) ?_
  intro E' e0 e2 e4 e5 e6
  refine⟨?_,by rw[e0,l0],by rw[e4,l4],e6,⟨b5,by rw[e5,h5],by rw[e2];exact hn5.1,fun w' r' h=>by cases h;exact ze _ _ _⟩,?_,?_⟩
  ·rw[e2]
   refine (ei.setQ r).keep fun r hr=>zb _ _ _ ?_
   rintro rfl
   rcases hr with h | h | h | h | h | h
   ·exact hn5.2.1 h
   ·exact hn5.2.2.1 h
   ·exact hn5.2.2.2.1 h
   ·exact hn5.2.2.2.2.1 h
   ·exact h hn5.2.2.2.2.2.1
   ·exact hn5.1 h
  ·have hq:bq≠qOf q1 q2 p:=by cases p<;>simp[qOf,b1]
   rw[zb _ _ _ (Ne.symm hn5.2.2.2.2.2.2),zb _ _ _ hq];exact b0
  ·rw[e2];exact b1
end
end
section
variable {F:Nat→Option AFn}
section
variable {L K:Lg} {c rg q1 q2:Nat} {x:Ch} {Q:AV→Lg→Prop}
theorem EI.fresh {acc:List Wk}{v:AV}(h:EI L c rg q1 q2 x acc v K){b:Nat}(hb:K b=Option.none):slB v≠some b∧b≠c∧b≠rg∧b≠q1∧b≠q2∧L b=Option.none:=by
 refine⟨?_,?_,?_,?_,?_,(h.op.none hb).2⟩
 ·intro h9
  rcases h.own with⟨_,_,h1⟩ | ⟨b',h1,h2,h3,h4⟩
  ·rw[h1]at h9;cases h9
  ·rw[h2]at h9;simp[slB]at h9;subst h9;rw[hb]at h3;cases h3
 ·rintro rfl;have:=h.op.root;rw[hb]at this;cases this
 ·rintro rfl;have:=h.op.ring;rw[hb]at this;cases this
 ·rintro rfl;have:=h.op.rcv;rw[hb]at this;cases this
 ·rintro rfl;have:=h.op.snd;rw[hb]at this;cases this
theorem eqQ (h:COpen L c x rg q1 q2 K)(p:Bool):zhX K (some (qOf q1 q2 p,0)) (some (q2,0))=some p:=by
 cases p
 ·simp[zhX,qOf,h.n6,zeE,h.rcv,h.snd]
 ·simp[zhX,qOf]
theorem zje (hf:H_f133 F){p:Bool}{bq:Nat}{cq:LC}{todo:List Wt}{acc:List Wk}{E:Env}{k1 k2:Env→Lg→Prop}(h:EL L c rg q1 q2 x p bq cq todo acc E K)(hlen:acc.length+todo.length≤1000000)
  (h0:todo=[]→D_f1301 F Q k1 E K)
  (hs:∀w r,todo=w::r→∀E' K',EL L c rg q1 q2 x p bq cq r (yr p acc w) E' K'→E' 18=E 18→E' 19=E 19→E' 20=E 20→k2 E' K'):D_f1307 F Q k1 k2 E K:=by
 unfold D_f1307
 rw[h.l6,xE]
 cases todo with
 | nil=>exact⟨fun h9=>by simp at h9,fun _=>h0 rfl⟩
 | cons w r =>
  refine⟨fun _=>?_,fun h9=>by simp at h9⟩
  obtain⟨b5,e5,n5,c5⟩:=h.l5
  have k5:=c5 w r rfl
  have ei:=h.ei
  simp at ei hlen
  rw[h.l0,h.l4,e5]
  simp
  refine (WL hf.f132 ei.own.slK (by omega) (p:=fun y=>decide (y.t=w.t)) (zfb hf.f130 k5)).mono ?_
  rintro _ K' ⟨rfl,hK'⟩
  rw[hK']
  clear hK' K'
  have r5:rdL K (b5,0) (some 3)=some (.agg w.cells):=by
   rw[yj k5 (by simp[Wt.cells])];simp[Wt.cells]
  have tail:∀(r':List Wt) (v:AV) (K2:Lg) (acc':List Wk),r'=r→EI L c rg q1 q2 (x.rest p r') acc' v K2→K2 bq=some cq→slB v≠some bq→acc'=yr p acc w→∀E0:Env,E0 0=.p (some (c,0))→E0 4=.p (some (qOf q1 q2 p,0))→E0 2=v→E0 18=E 18→E0 19=E 19→E0 20=E 20 →
    ∀b,K2 b=Option.none→stL 3 (K2.put b (.raw (.cells [.i .i64 0,.i .i64 0,.i .i64 0]))) (fun _ L17=>zd F k_f14 [.p (some (qOf q1 q2 p,0))] L17 fun v18 L18=>za F (.ext 0) [v18] L18 fun v19 L19=>za F (.ext 1) [v18] L19 fun v20 L20=>za F (.st 3) [.p (some (b,0)),v19] L20 fun _ L21 =>
     k2 (Env.put (Env.put (Env.put E0 53 (.agg w.cells)) 5 (.p (some (b,0)))) 6 v20) L21) [.p (some (b,0)),.agg w.cells]:=by
   rintro r' v K2 acc' rfl e2 kq sq rfl E0 a0 a4 a2 a18 a19 a20 b6 hb6
   have fr6:=e2.fresh hb6
   have nq6:bq≠b6:=by rintro rfl;rw[kq]at hb6;cases hb6
   rw[zw (n:=3) (ze _ _ _) (by simp[Wt.cells]) (by simp[Wt.cells]) (by simp)]
   have e3:=e2.junk hb6 (.raw (.cells (zo [.i .i64 0,.i .i64 0,.i .i64 0] 0 w.cells)))
   simp
   have spw:∀(a b c:AV) (w:Wt),zo [a,b,c] 0 w.cells=w.cells:=fun _ _ _ _=>rfl
   rw[zA,spw]
   rw[spw]at e3
   refine zf2 (cq:=cq) (E:=Env.put (Env.put E0 53 (.agg w.cells)) 5 (.p (some (b6,0)))) (b5:=b6) (acc:=yr p acc w) (ws:=r') hf.f14 (by simpa[a2]using e3) (by simp[a0]) (by simp[a4]) (by rw[zb _ _ _ nq6];exact kq) ⟨h.bq1.1,h.bq1.2.1,h.bq1.2.2.1,h.bq1.2.2.2.1,by simpa[a2]using sq⟩ ⟨_,ze _ _ _,by simp[Wt.cells]⟩ ⟨by simpa[a2]using fr6.1,fr6.2.1,fr6.2.2.1,fr6.2.2.2.1,fr6.2.2.2.2.1,fr6.2.2.2.2.2,Ne.symm nq6⟩ (by simp) ?_
   intro w2 K3 hK3 hE
   simp
   rw[ze]at hK3
   have hw3:zo w.cells 0 w2.cells=w2.cells:=rfl
   rw[Wt.av,zw (n:=3) hK3 (by simp[Wt.cells]) (by simp[Wt.cells]) (by simp[Wt.cells]),hw3]
   refine hs w r' rfl _ _ (hE _ ?_ ?_ ?_ ?_ ?_) ?_ ?_ ?_<;>simp[a18,a19,a20]
  cases hc:acc.any fun y=>decide (y.t=w.t)
  ·have hw:yr p acc w=acc++[⟨w.t,w.c,0,false,p⟩]:=by simp[yr,hc]
   have f0:rdL K (b5,0) none=some (.i .i64 w.t):=by rw[zk k5];rfl
   have f1:rdL K (b5,1) none=some (.i .i64 w.c):=by rw[zk k5];rfl
   have f2:rdL K (c,2) none=some (.p (some (q2,0))):=by rw[zk ei.op.root];rfl
   simp[f0,f1,f2,ziG,eqQ ei.op p,zE,zo,zq,zp,AV.cellsOf]
   rw[yg (c:=[.i .i64 w.t,.i .i64 w.c,.i .i64 0,.b false,.b p]) _ _ (by simp[y5,zE,zo,zq,zp,AV.cellsOf]) (by simp)]
   intro b1 hb1
   have fr1:=ei.fresh hb1
   have ei1:=ei.junk hb1 (.raw (.cells [.i .i64 w.t,.i .i64 w.c,.i .i64 0,.b false,.b p]))
   simp
   refine ei1.push (w:=⟨w.t,w.c,0,false,p⟩) rfl (by simp[Wk.cells]) (by omega) ?_
   intro v' K2 ei2 hK2 hfr
   have n51:b5≠b1:=by rintro rfl;rw[k5]at hb1;cases hb1
   have nq1:bq≠b1:=by rintro rfl;rw[h.bq0]at hb1;cases hb1
   have k51:(K.put b1 (.raw (.cells [.i .i64 w.t,.i .i64 w.c,.i .i64 0,.b false,.b p]))) b5=some (.raw (.cells w.cells)):=by rw[zb _ _ _ n51];exact k5
   have kq1:(K.put b1 (.raw (.cells [.i .i64 w.t,.i .i64 w.c,.i .i64 0,.b false,.b p]))) bq=some cq:=by rw[zb _ _ _ nq1];exact h.bq0
   have k52:K2 b5=some (.raw (.cells w.cells)):=hK2 b5 _ k51 n5
   have kq2:K2 bq=some cq:=hK2 bq _ kq1 h.bq1.2.2.2.2
   have sq2:slB v'≠some bq:=by intro h9;have:=hfr _ h9;rw[kq1]at this;cases this
   have r52:rdL K2 (b5,0) (some 3)=some (.agg w.cells):=by
    rw[yj k52 (by simp[Wt.cells])];simp[Wt.cells]
   simp[r52]
   have hlen2:(acc++[⟨w.t,w.c,0,false,p⟩]:List Wk).length+r.length≤1000000:=by simp;omega
   rw[←hw]at ei2 hlen2
   refine tail r v' K2 (yr p acc w) rfl ei2 kq2 sq2 rfl (Env.put E 2 v') ?_ ?_ ?_ ?_ ?_ ?_<;>simp[h.l0,h.l4]
  ·have hw:yr p acc w=acc:=by simp[yr,hc]
   simp[r5]
   exact tail r (E 2) K (yr p acc w) rfl (by rw[hw];exact ei) h.bq0 h.bq1.2.2.2.2 rfl E h.l0 h.l4 rfl rfl rfl rfl
end
end
section
variable {F:Nat→Option AFn}
section
variable {L K:Lg} {c rg q1 q2:Nat} {x:Ch} {Q:AV→Lg→Prop}
theorem zai (hf:H_f133 F){p:Bool}{bq:Nat}{ws:List Wt}{acc:List Wk}{E:Env}{k1:Env→Lg→Prop}(ei:EI L c rg q1 q2 (x.rest p ws) acc (E 2) K)(hlen:acc.length+ws.length≤1000000)
  (l0:E 0=.p (some (c,0))) (l18:E 18=.sl (some (bq,0)) 2 2 0) (l19:E 19=.i .i64 2) (l20:E 20=.i .i64 (if p=true then 1 else 0)) (b0:K bq=some (.raw (.cells [.p (some (q1,0)),.p (some (q2,0))]))) (b1:bq≠c∧bq≠rg∧bq≠q1∧bq≠q2∧slB (E 2)≠some bq)
  (hk:∀(E':Env) (K':Lg),EI L c rg q1 q2 (x.rest p []) (ws.foldl (yr p) acc) (E' 2) K'→K' bq=some (.raw (.cells [.p (some (q1,0)),.p (some (q2,0))]))→slB (E' 2)≠some bq→E' 0=.p (some (c,0))→E' 18=.sl (some (bq,0)) 2 2 0→E' 19=.i .i64 2→E' 20=.i .i64 (if p=true then 2 else 1)→k1 E' K') :
  D_f133_8 F Q k1 E K:=by
 unfold D_f133_8
 rw[l19,l20]
 have hlt:(if p=true then (1:Int)else 0)<2:=by cases p<;>simp
 simp[hlt]
 unfold D_f133_9
 simp
 unfold D_f1303
 rw[l18,l20]
 have e1:(if p=true then (1:Int)else 0)<((2:Nat):Int):=by cases p<;>simp
 have e0:(0:Int)≤(if p=true then (1:Int)else 0):=by cases p<;>simp
 rw[yF F _ _ 1 bq 0 2 2 0 .i64 _ e0 e1]
 have r1:rdL K (bq,0+(if p=true then (1:Int)else 0).toNat * 1) none=some (.p (some (qOf q1 q2 p,0))):=by
  rw[zk b0];cases p<;>rfl
 simp only[zt,r1,zh]
 unfold D_f1304
 simp only[Env.put_apply,if_true]
 generalize hE1:Env.put E 4 (.p (some (qOf q1 q2 p,0)))=E1
 have a0:E1 0=.p (some (c,0)):=by rw[←hE1];simpa using l0
 have a2:E1 2=E 2:=by rw[←hE1];simp
 have a4:E1 4=.p (some (qOf q1 q2 p,0)):=by rw[←hE1];simp
 have a18:E1 18=.sl (some (bq,0)) 2 2 0:=by rw[←hE1];simpa using l18
 have a19:E1 19=.i .i64 2:=by rw[←hE1];simpa using l19
 have a20:E1 20=.i .i64 (if p=true then 1 else 0):=by rw[←hE1];simpa using l20
 -- the first pop has no box yet
 refine (vy hf.f14 ei.getQ).mono ?_
 intro v K' hv
 have go:∀(w:Wt) (tl:List Wt) (K':Lg),tl=ws.tail→v=.tup [w.av,.b (!ws.isEmpty)]→(∀w' r,ws=w'::r→w=w')→EI L c rg q1 q2 (x.rest p tl) acc (E 2) K'→K' bq=some (.raw (.cells [.p (some (q1,0)),.p (some (q2,0))])) →
   za F (.ext 0) [v] K' fun v2 L2=>za F (.ext 1) [v] L2 fun v3 L3=>za F (.alloc [.i .i64 0,.i .i64 0,.i .i64 0]) [] L3 fun v4 L4=>za F (.st 3) [v4,v2] L4 fun _ L5=>D_f1306 F Q k1 (Env.put (Env.put E1 5 v4) 6 v3) L5:=by
  rintro w tl K' rfl rfl hw e2 kq
  simp
  intro b6 hb6
  have fr6:=e2.fresh hb6
  have nq6:bq≠b6:=by rintro rfl;rw[kq]at hb6;cases hb6
  have hw3:∀(a b c:AV) (w:Wt),zo [a,b,c] 0 w.cells=w.cells:=fun _ _ _ _=>rfl
  rw[Wt.av,zw (n:=3) (ze _ _ _) (by simp[Wt.cells]) (by simp[Wt.cells]) (by simp[Wt.cells]),zA,hw3]
  have e3:=e2.junk hb6 (.raw (.cells w.cells))
  unfold D_f1306
  obtain⟨I,hI⟩:∃I:Nat→Env→Lg→Prop,I=fun m E' K'=>∃todo acc',m=todo.length∧acc'.length+todo.length≤1000000∧todo.foldl (yr p) acc'=ws.foldl (yr p) acc∧EL L c rg q1 q2 x p bq (.raw (.cells [.p (some (q1,0)),.p (some (q2,0))])) todo acc' E' K'∧E' 18=E1 18∧E' 19=E1 19∧E' 20=E1 20:=⟨_,rfl⟩
  refine zQ I ws.length ?_ ?_
  ·rw[hI]
   refine⟨ws,acc,rfl,hlen,rfl,⟨by simpa[a2]using e3,by simp[a0],by simp[a4],by simp,⟨b6,by simp,by simpa[a2]using fr6.1,?_⟩,?_,?_⟩,by simp,by simp,by simp⟩
   ·intro w' r h;rw[hw w' r h,ze]
   ·rw[zb _ _ _ nq6];exact kq
   ·simpa[a2]using b1
  ·intro m E' t K2 hi
   rw[hI]at hi
   obtain⟨todo,acc',hm,hl2,hfold,hel,h18,h19,h20⟩:=hi
   refine zje hf hel hl2 ?_ ?_
   ·rintro rfl
    unfold D_f1301
    rw[h20,a20]
    have w1:wr .i64 ((if p=true then (1:Int)else 0)+1)=if p=true then 2 else 1:=by cases p<;>rfl
    simp only[xl,w1]
    have hei:=hel.ei
    simp only[List.tail_nil]at hei
    simp only[List.foldl_nil]at hfold
    rw[hfold]at hei
    refine hk _ _ ?_ hel.bq0 ?_ ?_ ?_ ?_ ?_
    ·simpa using hei
    ·simpa using hel.bq1.2.2.2.2
    ·simpa using hel.l0
    ·simpa[a18]using h18
    ·simpa[a19]using h19
    ·simp
   ·intro w' r hr E2 K3 hel2 g18 g19 g20
    rw[hI]
    subst hr
    refine⟨r.length,by rw[hm];simp,r,yr p acc' w',rfl,?_,?_,hel2,by rw[g18,h18],by rw[g19,h19],by rw[g20,h20]⟩
    ·simp at hl2
     have:(yr p acc' w').length≤acc'.length+1:=by unfold yr;split<;>simp
     omega
    ·simpa using hfold
 subst hE1
 cases hws:ws with
 | nil =>
  rw[hws]at hv
  obtain⟨rfl,rfl⟩:=hv
  exact go Wt.zero [] K' (by rw[hws];rfl) (by rw[hws];rfl) (fun w' r h=>by rw[hws]at h;cases h) (by rw[←hws];exact ei) b0
 | cons w r =>
  rw[hws]at hv
  obtain⟨rfl,rfl⟩:=hv
  have hq:bq≠qOf q1 q2 p:=by cases p<;>simp[qOf,b1]
  exact go w r _ (by rw[hws];rfl) (by rw[hws];rfl) (fun w' r' h=>by rw[hws]at h;cases h;rfl) (ei.setQ r) (by rw[zb _ _ _ hq];exact b0)
theorem UA (p:Bool):∀(ws:List Wt) (acc:List Wk),(ws.foldl (yr p) acc).length≤acc.length+ws.length
 | [],acc=>by simp
 | w::r,acc=>by
  have h1:=UA p r (yr p acc w)
  have h2:(yr p acc w).length≤acc.length+1:=by unfold yr;split<;>simp
  simp only[List.foldl_cons,List.length_cons]
  omega
theorem zgk (hf:H_f133 F)(op:COpen L c x rg q1 q2 K)(hlen:x.recvs.length+x.sends.length≤1000000):zd F k_f133 [.p (some (c,0))] K fun v K'=>EI L c rg q1 q2 x.ended x.wakes v K':=by
 refine zr ?_
 intro Q hQ
 apply r_f133 hf.code
 unfold D_f130 D_f133_2
 have hset:=op.setRoot x.timed x.signal true
 simp[zJ]
 rw[zH op.root (by simp) rfl]
 have hc:(K.put c (.raw (.cells ([AV.p (some (rg,0)),.p (some (q1,0)),.p (some (q2,0)),.b x.timed,.b x.signal,.b x.closed].set 5 (.b true)))))=K.put c (vN rg q1 q2 { x with timed:=x.timed,signal:=x.signal,closed:=true }):=rfl
 rw[hc]
 generalize hK1:K.put c (vN rg q1 q2 { x with timed:=x.timed,signal:=x.signal,closed:=true })=K1 at hset
 unfold D_f133_5
 have f1:rdL K1 (c,1) none=some (.p (some (q1,0))):=by rw[zk hset.root];rfl
 have f2:rdL K1 (c,2) none=some (.p (some (q2,0))):=by rw[zk hset.root];rfl
 simp[f1,f2]
 rw[yg (c:=[.p (some (q1,0)),.p (some (q2,0))]) _ _ (by simp[y5,zE,zo,zq,zp,AV.cellsOf]) (by simp)]
 intro bq hbq
 have ei0:EI L c rg q1 q2 ({ x with closed:=true }) [] (.sl none 0 0 0) K1:=⟨hset,.inl ⟨rfl,rfl,rfl⟩,fun b h=>by cases h⟩
 have fr:=ei0.fresh hbq
 have ei:=ei0.junk hbq (.raw (.cells [.p (some (q1,0)),.p (some (q2,0))]))
 simp
 unfold D_f133_7
 obtain⟨I,hI⟩:∃I:Nat→Env→Lg→Prop,I=fun m E K=>∃(y:Ch) (acc:List Wk),EI L c rg q1 q2 y acc (E 2) K∧K bq=some (.raw (.cells [.p (some (q1,0)),.p (some (q2,0))]))∧slB (E 2)≠some bq∧E 0=.p (some (c,0))∧E 18=.sl (some (bq,0)) 2 2 0∧E 19=.i .i64 2 ∧
  ((m=2∧y={ x with closed:=true }∧acc=[]∧E 20=.i .i64 0)∨(m=1∧y={ x with closed:=true,recvs:=[] }∧acc=x.recvs.foldl (yr false) []∧E 20=.i .i64 1)∨(m=0∧y=x.ended∧acc=x.wakes∧E 20=.i .i64 2)):=⟨_,rfl⟩
 refine zQ I 2 ?_ ?_
 ·rw[hI]
  exact⟨_,[],by simpa using ei,ze _ _ _,by simp[slB],by simp,by simp,by simp,.inl ⟨rfl,rfl,rfl,by simp⟩⟩
 ·intro m E t K2 hi
  rw[hI]at hi
  obtain⟨y,acc,e,kb,sb,l0,l18,l19,h⟩:=hi
  rcases h with⟨rfl,rfl,rfl,l20⟩ | ⟨rfl,rfl,hacc,l20⟩ | ⟨rfl,rfl,hacc,l20⟩
  ·refine zai (x:={ x with closed:=true }) (p:=false) (ws:=x.recvs) hf e (by simp;omega) l0 l18 l19 l20 kb ⟨fr.2.1,fr.2.2.1,fr.2.2.2.1,fr.2.2.2.2.1,sb⟩ ?_
   intro E' K' e' kb' sb' m0 m18 m19 m20
   rw[hI]
   exact⟨1,by omega,_,_,e',kb',sb',m0,m18,m19,.inr (.inl ⟨rfl,rfl,rfl,m20⟩)⟩
  ·have:=UA false x.recvs []
   simp at this
   refine zai (x:={ x with closed:=true,recvs:=[] }) (p:=true) (ws:=x.sends) hf e (by rw[hacc];omega) l0 l18 l19 l20 kb ⟨fr.2.1,fr.2.2.1,fr.2.2.2.1,fr.2.2.2.2.1,sb⟩ ?_
   intro E' K' e' kb' sb' m0 m18 m19 m20
   rw[hI]
   exact⟨0,by omega,_,_,e',kb',sb',m0,m18,m19,.inr (.inr ⟨rfl,rfl,by rw[hacc];rfl,m20⟩)⟩
  ·unfold D_f133_8
   rw[l19,l20]
   simp
   unfold D_f133_9
   simp
   unfold D_f133_4
   simp
   rw[hacc]at e
   exact⟨_,zu.refl _,hQ _ _ e⟩
theorem COpen.adopt (op:COpen L c x rg q1 q2 K){b:Nat}{d:LC}(hb:K b=some d)(hn:b≠rg∧b≠q1∧b≠q2):COpen (L.put b d) c x rg q1 q2 K :=
 ⟨op.n1,op.n2,op.n3,op.n4,op.n5,op.n6,op.root,op.ring,op.rcv,op.snd,fun r e h1 h2 h3 h4 he=>by
  rw[Lg.put_apply]at he
  split at he
  ·rename_i h9;subst h9;cases he;exact hb
  ·exact op.old r e h1 h2 h3 h4 he,by rw[zb _ _ _ (Ne.symm hn.1)];exact op.f1,by rw[zb _ _ _ (Ne.symm hn.2.1)];exact op.f2,by rw[zb _ _ _ (Ne.symm hn.2.2)];exact op.f3⟩
def zju (L:Lg)(v:AV)(ws:List Wk)(L':Lg):Prop:=(ws=[]∧v=.sl none 0 0 0∧L'=L)∨∃b ex,L b=none∧0<ws.length∧v=.sl (some (b,0)) ws.length ws.length ex∧(ex=0∨ex=5)∧L'=L.put b (.raw (.cells (yp ws)))
theorem EI.fin {acc:List Wk}{v:AV}(h:EI L c rg q1 q2 x acc v K)(hL:∃d,L c=some d):∃L',zju (L.put c (.abs (yu c x))) v acc L'∧zu K L':=by
 rcases h.own with⟨h1,h2,h3⟩ | ⟨b,h1,h2,h3,h4⟩
 ·exact⟨_,.inl ⟨List.length_eq_zero_iff.1 h1,h3,rfl⟩,h.op.shut⟩
 ·have ap:=h.ap b (by rw[h2];rfl)
  have:=(h.op.adopt h3 ⟨ap.2.1,ap.2.2.1,ap.2.2.2.1⟩).shut
  rw[yJ _ ap.1]at this
  exact⟨_,.inr ⟨b,5,by rw[zb _ _ _ ap.1];exact ap.2.2.2.2,h1,h2,.inr rfl,rfl⟩,this⟩
def Ch.endS (x:Ch):Ch×List Wk:=if x.signal=true∧x.closed=false then (x.ended,x.wakes)else (x,[])
theorem zdv (hf:H_f134 F)(e:L c=some (.abs (yu c x)))(hlen:x.recvs.length+x.sends.length≤1000000):zd F k_f134 [.p (some (c,0))] L fun v L'=>zju (L.put c (.abs (yu c x.endS.1))) v x.endS.2 L':=by
 refine zr ?_
 intro Q hQ
 apply wZ e
 intro rg q1 q2 K op
 apply r_f134 hf.code
 unfold D_f134_1
 have f4:rdL K (c,4) none=some (.b x.signal):=by rw[zk op.root];rfl
 have f5:rdL K (c,5) none=some (.b x.closed):=by rw[zk op.root];rfl
 cases hs:x.signal
 ·simp[f4,f5,hs]
  exact⟨_,op.back e,hQ _ _ (.inl ⟨by simp[Ch.endS,hs],rfl,by simp[Ch.endS,hs,yc L c _ e]⟩)⟩
 ·cases hc:x.closed
  ·simp[f4,f5,hs,hc]
   refine (zgk hf.f133 op hlen).mono ?_
   intro v K' ei
   obtain⟨L',h1,h2⟩:=ei.fin ⟨_,e⟩
   simp
   exact⟨L',h2,hQ _ _ (by simpa[Ch.endS,hs,hc]using h1)⟩
  ·simp[f4,f5,hs,hc]
   exact⟨_,op.back e,hQ _ _ (.inl ⟨by simp[Ch.endS,hs,hc],rfl,by simp[Ch.endS,hs,hc,yc L c _ e]⟩)⟩
theorem zfo (hf:H_f134 F):zd F k_f134 [.p none] L fun v L'=>v=.sl none 0 0 0∧L'=L:=by
 refine zr ?_
 intro Q hQ
 apply r_f134 hf.code
 unfold D_f134_1
 simp
 exact⟨_,zu.refl _,hQ _ _ ⟨rfl,rfl⟩⟩
theorem Uh (hf:H_f158 F)(e:L c=some (.abs (yu c x))):zd F k_f158 [.p (some (c,0))] L fun v L'=>v=.b x.closed∧L'=L:=by
 refine zr ?_
 intro Q hQ
 apply wZ e
 intro rg q1 q2 K op
 apply r_f158 hf.code
 unfold D_f158_1
 have f5:rdL K (c,5) none=some (.b x.closed):=by rw[zk op.root];rfl
 simp[f5]
 exact⟨_,op.back e,hQ _ _ ⟨rfl,rfl⟩⟩
end
end
section
variable {F:Nat→Option AFn}
structure Nd where
 parent:Int
 linked:Bool
 kids:List Int
def yO:List Nd→(Nat→AV)→Nat→List AV
 | [],_,_=>[]
 | n::r,kv,j=>[.i .i64 n.parent,.b n.linked,kv j]++yO r kv (j+1)
theorem xZ:∀(ns:List Nd) (kv:Nat→AV) (j:Nat),(yO ns kv j).length=ns.length * 3
 | [],_,_=>rfl
 | n::r,kv,j=>by simp[yO,xZ r kv (j+1)];omega
theorem wD:∀(ns:List Nd) (kv:Nat→AV) (j i k:Nat) (n:Nd),ns[i]?=some n→k<3→(yO ns kv j)[i * 3+k]?=[AV.i .i64 n.parent,.b n.linked,kv (j+i)][k]?
 | [],_,_,i,k,n,h,_=>by simp at h
 | a::r,kv,j,0,k,n,h,hk=>by
  simp at h;subst h
  simp only[yO,Nat.zero_mul,Nat.zero_add,Nat.add_zero]
  rw[List.getElem?_append_left (by simp;omega)]
 | a::r,kv,j,i+1,k,n,h,hk=>by
  have:=wD r kv (j+1) i k n (by simpa using h) hk
  have e:(i+1) * 3+k=[AV.i .i64 a.parent,.b a.linked,kv j].length+(i * 3+k):=by simp;omega
  rw[e]
  simp only[yO]
  rw[List.getElem?_append_right (by omega),Nat.add_sub_cancel_left,this,show j+1+i=j+(i+1) by omega]
theorem Yi:∀(ns ms:List Nd) (kv:Nat→AV) (j:Nat),yO (ns++ms) kv j=yO ns kv j++yO ms kv (j+ns.length)
 | [],ms,kv,j=>by simp[yO]
 | n::r,ms,kv,j=>by
  simp only[List.cons_append,yO,Yi r ms kv (j+1),List.length_cons,List.append_assoc]
  rw[show j+1+r.length=j+(r.length+1) by omega]
theorem vY:∀(ns:List Nd) (kv kv':Nat→AV) (j:Nat),(∀i,i<ns.length→kv (j+i)=kv' (j+i))→yO ns kv j=yO ns kv' j
 | [],_,_,_,_=>rfl
 | n::r,kv,kv',j,h=>by
  simp only[yO]
  rw[vY r kv kv' (j+1) (fun i hi=>by have:=h (i+1) (by simp;omega);rw[show j+1+i=j+(i+1) by omega];exact this)]
  have:=h 0 (by simp)
  simp at this
  rw[this]
theorem Ve:∀(ns:List Nd) (kv:Nat→AV) (j i:Nat) (n:Nd) (v:AV) (l:List Int),ns[i]?=some n→(yO ns kv j).set (i * 3+2) v=yO (ns.set i { n with kids:=l }) (fun q=>if q=j+i then v else kv q) j
 | [],_,_,i,n,v,l,h=>by simp at h
 | a::r,kv,j,0,n,v,l,h=>by
  simp at h;subst h
  simp[yO]
  refine vY r kv _ (j+1) fun i hi=>?_
  rw[if_neg (by omega)]
 | a::r,kv,j,i+1,n,v,l,h=>by
  have:=Ve r kv (j+1) i n v l (by simpa using h)
  have e:(i+1) * 3+2=(i * 3+2)+1+1+1:=by omega
  rw[e]
  simp only[yO,List.cons_append,List.nil_append,List.set_cons_succ,this]
  have e2:j+1+i=j+(i+1):=by omega
  rw[e2,if_neg (by omega)]
theorem XU:∀(ns:List Nd) (kv:Nat→AV) (j i:Nat) (n:Nd) (b:Bool),ns[i]?=some n→(yO ns kv j).set (i * 3+1) (.b b)=yO (ns.set i { n with linked:=b }) kv j
 | [],_,_,i,n,b,h=>by simp at h
 | a::r,kv,j,0,n,b,h=>by
  simp at h;subst h
  simp[yO]
 | a::r,kv,j,i+1,n,b,h=>by
  have:=XU r kv (j+1) i n b (by simpa using h)
  have e:(i+1) * 3+1=(i * 3+1)+1+1+1:=by omega
  rw[e]
  simp only[yO,List.cons_append,List.nil_append,List.set_cons_succ,this]
def NSl (sv:AV)(ns:List Nd)(kv:Nat→AV)(nb:Option Nat)(t:Nat)(L K:Lg):Prop:=match nb with
 | none=>sv=.sl none 0 0 0∧ns=[]
 | some b=>sv=.sl (some (b,0)) ns.length ns.length 3∧K b=some (.raw (.cells (yO ns kv 0)))∧b≠t∧L b=none∧0<ns.length
structure TOpen (L:Lg)(t:Nat)(ns:List Nd)(sv:AV)(kv:Nat→AV)(nb:Option Nat)(kb:Nat→Option Nat)(K:Lg):Prop where
 root:K t=some (.raw (.cells [sv]))
 arr:NSl sv ns kv nb t L K
 kid:∀(j:Nat) (n:Nd),ns[j]?=some n→KSl (kv j) n.kids (kb j) K
 kne:∀(j q:Nat),j<ns.length→kb j=some q→q≠t∧nb≠some q∧L q=none
 kap:∀i j q:Nat,i<ns.length→j<ns.length→kb i=some q→kb j=some q→i=j
 old:∀r d,r≠t→L r=some d→K r=some d
def xy (t:Nat)(ns:List Nd)(hp:Hp):Prop:=∃sv kv nb kb M,TOpen Lg.nil t ns sv kv nb kb M∧Sat M hp
theorem KSl.mono {v:AV}{l:List Int}{bo:Option Nat}{K M:Lg}(h:KSl v l bo K)(e:∀q,bo=some q→M q=K q):KSl v l bo M:=by
 cases bo with
 | none=>exact h
 | some b =>
  obtain⟨cap,sp,ex,h1,h2,h3,h4⟩:=h
  exact⟨cap,sp,ex,h1,by rw[e b rfl];exact h2,h3,h4⟩
theorem NSl.mono {sv:AV}{ns:List Nd}{kv:Nat→AV}{nb:Option Nat}{t:Nat}{L L' K M:Lg}(h:NSl sv ns kv nb t L K)(e:∀q,nb=some q→M q=K q)(f:∀q,nb=some q→L' q=none):NSl sv ns kv nb t L' M:=by
 cases nb with
 | none=>exact h
 | some b =>
  obtain⟨h1,h2,h3,h4,h5⟩:=h
  exact⟨h1,by rw[e b rfl];exact h2,h3,f b rfl,h5⟩
section
variable {L L0 K:Lg} {t:Nat} {ns:List Nd} {sv:AV} {kv:Nat→AV} {nb:Option Nat} {kb:Nat→Option Nat}
theorem TOpen.shut (o:TOpen L t ns sv kv nb kb K):zu K (L.put t (.abs (xy t ns))):=by
 refine yW (fun r=>r=t∨nb=some r∨∃j,j<ns.length∧kb j=some r) (.inl rfl) ?_ ?_ (.inl ⟨_,o.root⟩) ?_
 ·intro r d hr hd;simp only[not_or]at hr;exact o.old r d hr.1 hd
 ·rintro r (rfl | h | ⟨j,hj,hq⟩) hr
  ·exact absurd rfl hr
  ·have:=o.arr;rw[h]at this;exact this.2.2.2.1
  ·exact (o.kne j r hj hq).2.2
 ·intro M hm hM hN hs
  refine⟨sv,kv,nb,kb,M,⟨by rw[hM t (.inl rfl)];exact o.root,o.arr.mono (fun q hq=>hM q (.inr (.inl hq))) (fun _ _=>rfl),?_,?_,o.kap,fun r d _ hd=>by cases hd⟩,hs⟩
  ·intro j n hn
   have hj:j<ns.length:=(List.getElem?_eq_some_iff.1 hn).1
   exact (o.kid j n hn).mono fun q hq=>hM q (.inr (.inr ⟨j,hj,hq⟩))
  ·intro j q hj hq
   have:=o.kne j q hj hq
   exact⟨this.1,this.2.1,rfl⟩
theorem ZY {f:Nat}{vs:List AV}{Q:AV→Lg→Prop}(e:L t=some (.abs (xy t ns)))(H:∀sv kv nb kb K,TOpen L t ns sv kv nb kb K→zd F f vs K Q):zd F f vs L Q:=by
 apply yX e
 rintro hm ⟨sv,kv,nb,kb,M,o,hs⟩
 refine⟨M,hs,by rw[o.root];simp,fun hf=>?_⟩
 have hover:∀b d,M b=some d→(M.over L) b=some d:=fun b d hb=>by simp[Lg.over,hb]
 have arrM:∀q,nb=some q→∃d,M q=some d∧q≠t:=fun q hq=>by
  have:=o.arr;rw[hq]at this;exact⟨_,this.2.1,this.2.2.1⟩
 have kidM:∀j q,j<ns.length→kb j=some q→∃d,M q=some d:=fun j q hj hq=>by
  have:=o.kid j ns[j] (List.getElem?_eq_getElem hj)
  rw[hq]at this
  obtain⟨cap,sp,ex,_,h2,_⟩:=this
  exact⟨_,h2⟩
 refine H sv kv nb kb (M.over L) ⟨hover _ _ o.root,?_,?_,?_,o.kap,?_⟩
 ·refine o.arr.mono (fun q hq=>?_) (fun q hq=>?_)
  ·obtain⟨d,h1,_⟩:=arrM q hq;rw[h1];exact hover _ _ h1
  ·obtain⟨d,h1,h2⟩:=arrM q hq;exact hf _ _ h1 h2
 ·intro j n hn
  have hj:j<ns.length:=(List.getElem?_eq_some_iff.1 hn).1
  refine (o.kid j n hn).mono fun q hq=>?_
  obtain⟨d,h1⟩:=kidM j q hj hq
  rw[h1];exact hover _ _ h1
 ·intro j q hj hq
  have:=o.kne j q hj hq
  obtain⟨d,h1⟩:=kidM j q hj hq
  exact⟨this.1,this.2.1,hf _ _ h1 this.1⟩
 ·intro r d hr hd
  cases hM:M r with
  | none=>simp[Lg.over,hM,hd]
  | some c=>rw[hf r c hM hr]at hd;cases hd
theorem TOpen.back (o:TOpen L t ns sv kv nb kb K)(e:L t=some (.abs (xy t ns))):zu K L:=by
 have:=o.shut
 rwa [yc L t _ e]at this
theorem TOpen.ne (o:TOpen L t ns sv kv nb kb K){r:Nat}(hr:K r=none):r≠t∧L r=none:=by
 have n:r≠t:=by rintro rfl;rw[o.root]at hr;cases hr
 refine⟨n,?_⟩
 cases e:L r with
 | none=>rfl
 | some d=>rw[o.old r d n e]at hr;cases hr
theorem TOpen.onto (o:TOpen L t ns sv kv nb kb K){r:Nat}(hr:K r=none)(d:LC):TOpen (L.put r d) t ns sv kv nb kb (K.put r d):=by
 have nbk:∀{y:Nat} {k:LC},K y=some k→y≠r:=fun hx hxr=>by rw[hxr,hr]at hx;cases hx
 have arrM:∀q,nb=some q→q≠r∧L q=none:=fun q hq=>by
  have:=o.arr;rw[hq]at this;exact⟨nbk this.2.1,this.2.2.2.1⟩
 have kidM:∀j q,j<ns.length→kb j=some q→q≠r:=fun j q hj hq=>by
  have:=o.kid j ns[j] (List.getElem?_eq_getElem hj)
  rw[hq]at this
  obtain⟨cap,sp,ex,_,h2,_⟩:=this
  exact nbk h2
 refine⟨by rw[zb _ _ _ (nbk o.root)];exact o.root,o.arr.mono (fun q hq=>zb _ _ _ (arrM q hq).1) (fun q hq=>by rw[zb _ _ _ (arrM q hq).1];exact (arrM q hq).2),?_,?_,o.kap,?_⟩
 ·intro j n hn
  have hj:j<ns.length:=(List.getElem?_eq_some_iff.1 hn).1
  exact (o.kid j n hn).mono fun q hq=>zb _ _ _ (kidM j q hj hq)
 ·intro j q hj hq
  have:=o.kne j q hj hq
  exact⟨this.1,this.2.1,by rw[zb _ _ _ (kidM j q hj hq)];exact this.2.2⟩
 ·intro y k hy hk
  rw[Lg.put_apply]at hk ⊢
  split
  ·rename_i h9;rw[if_pos h9]at hk;exact hk
  ·rename_i h9;rw[if_neg h9]at hk;exact o.old y k hy hk
theorem NSl.len (h:NSl sv ns kv nb t L K)(M:Lg)(k:AV→Lg→Prop):za F .lenSl [sv] M k=k (.i .i64 ns.length) M:=by
 cases nb with
 | none=>obtain⟨rfl,rfl⟩:=h;simp
 | some b=>obtain⟨rfl,_⟩:=h;simp
theorem UE (hf:H_f117 F):zd F k_f117 [] L fun v L'=>∃t,L t=none∧v=.p (some (t,0))∧L'=L.put t (.abs (xy t [])):=by
 refine zr ?_
 intro Q hQ
 apply r_f117 hf.code
 unfold D_f117_1
 simp[zE]
 rw[zN _ _ _ (by simp)]
 intro t ht
 have o:TOpen L t [] (.sl none 0 0 0) (fun _=>.bad) none (fun _=>none) (L.put t (.raw (.cells [.sl none 0 0 0]))) :=
  ⟨ze _ _ _,⟨rfl,rfl⟩,fun j n h=>by simp at h,fun j q h=>by simp at h,fun i j q h=>by simp at h,fun r d hr hd=>by rw[zb _ _ _ hr];exact hd⟩
 simp
 exact⟨_,o.shut,hQ _ _ ⟨t,ht,rfl,rfl⟩⟩
theorem UF (hf:H_f118 F)(o:TOpen L t ns sv kv nb kb K):zd F k_f118 [.p (some (t,0))] K fun v K'=>v=.i .i64 ns.length∧K'=K:=by
 refine zr ?_
 intro Q hQ
 apply r_f118 hf.code
 unfold D_f118_1
 have f:rdL K (t,0) none=some sv:=by rw[zk o.root];rfl
 simp[f,o.arr.len]
 exact⟨_,zu.refl _,hQ _ _ ⟨rfl,rfl⟩⟩
def YI (ns:List Nd)(id:Int):Bool:=decide (0≤id)&&decide (id<ns.length)
theorem vS (hf:H_f119 F)(o:TOpen L t ns sv kv nb kb K)(id:Int):zd F k_f119 [.p (some (t,0)),.i .i64 id] K fun v K'=>v=.b (YI ns id)∧K'=K:=by
 refine zr ?_
 intro Q hQ
 apply r_f119 hf.code
 unfold D_f119_1
 by_cases c1:0≤id
 ·simp[c1]
  refine (UF hf.f118 o).mono ?_
  rintro _ K' ⟨rfl,rfl⟩
  simp[c1]
  exact⟨_,zu.refl _,hQ _ _ ⟨by simp[YI,c1],rfl⟩⟩
 ·simp[c1]
  exact⟨_,zu.refl _,hQ _ _ ⟨by simp[YI,c1],rfl⟩⟩
theorem V6 {ns:List Nd}{id:Int}(h:YI ns id=true):∃i:Nat,id=(i:Int)∧i<ns.length:=by
 simp[YI]at h
 obtain⟨i,rfl⟩:=Int.eq_ofNat_of_zero_le h.1
 exact⟨i,rfl,by omega⟩
def kidsT (ns:List Nd)(id:Int):List Int:=if YI ns id=true then (ns.getD id.toNat ⟨0,false,[]⟩).kids else []
theorem VH (hf:H_f136 F)(e:L t=some (.abs (xy t ns)))(hk:∀n∈ns,n.kids.length≤1000000)(id:Int):zd F k_f136 [.p (some (t,0)),.i .i64 id] L fun r L' =>
  (kidsT ns id=[]∧r=.sl none 0 0 0∧L'=L)∨∃b ex,L b=none∧r=.sl (some (b,0)) (kidsT ns id).length (kidsT ns id).length ex∧L'=L.put b (.raw (.cells (icl (kidsT ns id)))):=by
 refine zr ?_
 intro Q hQ
 apply ZY e
 intro sv kv nb kb K o
 have hback:=o.back e
 apply r_f136 hf.code
 unfold D_f136_1
 refine (vS hf.f119 o id).mono ?_
 rintro _ K' ⟨rfl,hK'⟩
 rw[hK']
 clear hK' K'
 cases hh:YI ns id
 ·simp
  exact⟨_,hback,hQ _ _ (.inl ⟨by simp[kidsT,hh],rfl,rfl⟩)⟩
 ·obtain⟨i,rfl,hi⟩:=V6 hh
  have f:rdL K (t,0) none=some sv:=by rw[zk o.root];rfl
  have hkid:=o.kid i ns[i] (List.getElem?_eq_getElem hi)
  have hks:kidsT ns i=ns[i].kids:=by simp[kidsT,hh,hi]
  cases nb with
  | none=>have:=o.arr.2;rw[this]at hi;simp at hi
  | some b =>
   obtain⟨a1,a2,a3,a4,a5⟩:=o.arr
   rw[a1]at f
   have ei:(i:Int)<(ns.length:Int):=by omega
   have f2:rdL K (b,i * 3+2) none=some (kv i):=by
    rw[zk a2,wD ns kv 0 i 2 ns[i] (List.getElem?_eq_getElem hi) (by omega)]
    simp
   simp[f,f2,yF _ _ _ 3 b 0 ns.length ns.length 3 .i64 (i:Int) (Int.natCast_nonneg _) ei]
   refine (zdu hf.f135 hkid (hk _ (List.getElem_mem hi))).mono ?_
   rintro r K2 (⟨h1,rfl,hK2⟩ | ⟨b2,ex,h1,rfl,hK2⟩)
   ·rw[hK2]
    exact⟨_,hback,hQ _ _ (.inl ⟨by rw[hks,h1],rfl,rfl⟩)⟩
   ·rw[hK2]
    have hne:=o.ne h1
    refine⟨_,(o.onto h1 (.raw (.cells (icl ns[i].kids)))).back (by rw[zb _ _ _ (Ne.symm hne.1)];exact e),hQ _ _ (.inr ⟨b2,ex,hne.2,by rw[hks],by rw[hks]⟩)⟩
end
end
section
variable {F:Nat→Option AFn}
def vq (ns:List Nd)(i:Nat)(x:Int):List Nd:=match ns[i]? with
 | some n=>ns.set i { n with kids:=n.kids++[x] }
 | none=>ns
def zL (ns:List Nd)(parent:Int)(linked:Bool):List Nd×Int×Int :=
 if parent≠-1∧YI ns parent=false then (ns,0,1)else if 1000≤ns.length then (ns,0,3)
 else ((if (linked&&decide (parent≠-1))=true then vq ns parent.toNat ns.length else ns)++[⟨parent,linked&&decide (parent≠-1),[]⟩],ns.length,0)
section
variable {L L0 K:Lg} {t:Nat} {ns:List Nd} {sv:AV} {kv:Nat→AV} {nb:Option Nat} {kb:Nat→Option Nat} {Q:AV→Lg→Prop}
theorem add6 (o:TOpen L t ns sv kv nb kb K)(hl:ns.length<1000)(parent:Int)(lk:Bool)(x8:Int)(hQ:∀K',zu K' (L.put t (.abs (xy t (ns++[⟨parent,lk,[]⟩]))))→Q (.tup [.i .i64 x8,.i .i64 0]) (L.put t (.abs (xy t (ns++[⟨parent,lk,[]⟩]))))) :
  D_f120_6 F Q (.p (some (t,0))) (.i .i64 parent) (.b lk) (.i .i64 x8) K:=by
 unfold D_f120_6
 have f:rdL K (t,0) none=some sv:=by rw[zk o.root];rfl
 simp[f,zE,zo,zq,zp]
 rw[yg (c:=[.i .i64 parent,.b lk,.sl none 0 0 0]) _ _ (by simp[y5,zE,xT,zo,zq,zp]) (by simp)]
 intro b1 hb1
 have nb1:∀{y:Nat} {k:LC},K y=some k→y≠b1:=fun hx hxr=>by rw[hxr,hb1]at hx;cases hx
 simp
 have hsv:ZA K sv (yO ns kv 0) ns.length 3:=by
  cases nb with
  | none=>obtain⟨h1,h2⟩:=o.arr;subst h2;exact .inl ⟨rfl,rfl,h1⟩
  | some b=>obtain⟨h1,h2,h3,h4,h5⟩:=o.arr;exact .inr ⟨b,h5,h1,h2,xZ _ _ _⟩
 have hsb:slB sv=nb:=by
  cases nb with
  | none=>obtain⟨h1,h2⟩:=o.arr;rw[h1];rfl
  | some b=>obtain⟨h1,_⟩:=o.arr;rw[h1];rfl
 have hnbK:∀q,nb=some q→K q≠none∧q≠t∧L q=none:=fun q hq=>by
  have:=o.arr;rw[hq]at this;exact⟨by rw[this.2.1];simp,this.2.2.1,this.2.2.2.1⟩
 have hsv1:ZA (K.put b1 (.raw (.cells [.i .i64 parent,.b lk,.sl none 0 0 0]))) sv (yO ns kv 0) ns.length 3:=by
  rcases hsv with h | ⟨b,c0,c1,c2,c3⟩
  ·exact .inl h
  ·exact .inr ⟨b,c0,c1,by rw[zb _ _ _ (nb1 c2)];exact c2,c3⟩
 refine hsv1.app (m:=1) (by omega) rfl (by omega) (new:=[.i .i64 parent,.b lk,.sl none 0 0 0]) (by simp[zF,AB.read,cut,zq]) (by simp) (by simp) (by omega) ?_
 intro b2 hb2
 rw[Lg.put_apply]at hb2
 have n12:b2≠b1:=by rintro rfl;simp at hb2
 rw[if_neg n12]at hb2
 have nb2:∀{y:Nat} {k:LC},K y=some k→y≠b2:=fun hx hxr=>by rw[hxr,hb2]at hx;cases hx
 rw[hsb]
 have hdel:∀(M:Lg) r,nb≠some r→(M.delO nb) r=M r:=by
  intro M r hr
  cases hh:nb with
  | none=>rfl
  | some b=>rw[hh]at hr;simp only[Lg.delO];rw[yM,if_neg];intro h;exact hr (by rw[h])
 obtain⟨kv',hkv⟩:∃kv':Nat→AV,kv'=fun q=>if q=ns.length then .sl none 0 0 0 else kv q:=⟨_,rfl⟩
 obtain⟨kb',hkb⟩:∃kb':Nat→Option Nat,kb'=fun q=>if q=ns.length then none else kb q:=⟨_,rfl⟩
 have onew:yO ns kv 0++[.i .i64 parent,.b lk,.sl none 0 0 0]=yO (ns++[⟨parent,lk,[]⟩]) kv' 0:=by
  rw[Yi,vY ns kv kv' 0 (fun i hi=>by rw[hkv];simp;omega)]
  simp[yO,hkv]
 rw[onew]
 obtain⟨M,hM⟩:∃M,M=((K.put b1 (.raw (.cells [.i .i64 parent,.b lk,.sl none 0 0 0]))).delO nb).put b2 (.raw (.cells (yO (ns++[⟨parent,lk,[]⟩]) kv' 0))):=⟨_,rfl⟩
 rw[←hM]
 have hMo:∀r d,K r=some d→nb≠some r→M r=some d:=by
  intro r d hd hr
  rw[hM,zb _ _ _ (nb2 hd),hdel _ _ hr,zb _ _ _ (nb1 hd)];exact hd
 have hnt:nb≠some t:=fun h=>(hnbK t h).2.1 rfl
 have hMt:=hMo t _ o.root hnt
 have hMb:M b2=some (.raw (.cells (yO (ns++[⟨parent,lk,[]⟩]) kv' 0))):=by rw[hM,ze]
 have hb2:=o.ne hb2
 have oN:TOpen L t (ns++[⟨parent,lk,[]⟩]) (.sl (some (b2,0)) (ns.length+1) (ns.length+1) 3) kv' (some b2) kb' (M.put t (.raw (.cells [.sl (some (b2,0)) (ns.length+1) (ns.length+1) 3]))):=by
  refine⟨ze _ _ _,⟨by simp,by rw[zb _ _ _ hb2.1];exact hMb,hb2.1,hb2.2,by simp⟩,?_,?_,?_,?_⟩
  ·intro j n hn
   by_cases hj:j<ns.length
   ·rw[List.getElem?_append_left hj]at hn
    have hne:j≠ns.length:=by omega
    have e1:kv' j=kv j:=by rw[hkv];simp[hne]
    have e2:kb' j=kb j:=by rw[hkb];simp[hne]
    rw[e1,e2]
    have hk:=o.kid j n hn
    refine hk.mono fun q hq=>?_
    have h3:=o.kne j q hj hq
    rw[zb _ _ _ h3.1]
    have:∃d,K q=some d:=by rw[hq]at hk;obtain⟨_,_,_,_,h2,_⟩:=hk;exact⟨_,h2⟩
    obtain⟨d,hd⟩:=this
    rw[hd];exact hMo q d hd h3.2.1
   ·have hlt:=(List.getElem?_eq_some_iff.1 hn).1
    simp at hlt
    have hjn:j=ns.length:=by omega
    subst hjn
    rw[List.getElem?_append_right (by omega)]at hn
    simp at hn
    subst hn
    rw[hkv,hkb]
    simp[KSl]
  ·intro j q hj hq
   have hj':j<ns.length:=by
    by_cases h:j=ns.length
    ·rw[hkb]at hq;simp[h]at hq
    ·simp at hj;omega
   have hne:j≠ns.length:=by omega
   have e2:kb' j=kb j:=by rw[hkb];simp[hne]
   rw[e2]at hq
   have h3:=o.kne j q hj' hq
   refine⟨h3.1,?_,h3.2.2⟩
   intro h4
   simp only[Option.some.injEq]at h4
   have hk:=o.kid j ns[j] (List.getElem?_eq_getElem hj')
   rw[hq]at hk
   obtain⟨_,_,_,_,h2,_⟩:=hk
   exact nb2 h2 h4.symm
  ·intro i j q hi hj hqi hqj
   have hi':i≠ns.length:=fun h=>by rw[hkb]at hqi;simp[h]at hqi
   have hj':j≠ns.length:=fun h=>by rw[hkb]at hqj;simp[h]at hqj
   rw[hkb]at hqi hqj
   simp[hi']at hqi
   simp[hj']at hqj
   simp at hi hj
   exact o.kap i j q (by omega) (by omega) hqi hqj
  ·intro r d hr hd
   rw[zb _ _ _ hr]
   refine hMo r d (o.old r d hr hd) ?_
   intro h;rw[(hnbK r h).2.2]at hd;cases hd
 have fM:rdL M (t,0) none=some sv:=by rw[zk hMt];rfl
 simp[zH hMt]
 exact⟨_,oN.shut,hQ _ oN.shut⟩
theorem TOpen.kidded (o:TOpen L t ns sv kv nb kb K){i:Nat}{n:Nd}(hn:ns[i]?=some n){b:Nat}(hb:nb=some b){w:AV}{q:Nat}{l:List Int}{K':Lg}(hw:KSl w l (some q) K')(hq:kb i=some q∨K q=none)(hK:∀r,r≠q→kb i≠some r→K' r=K r) :
  ∃kv' kb',TOpen L t (ns.set i { n with kids:=l }) sv kv' nb kb' (K'.put b (.raw (.cells ((yO ns kv 0).set (i * 3+2) w))))∧K' b=some (.raw (.cells (yO ns kv 0))):=by
 have hi:i<ns.length:=(List.getElem?_eq_some_iff.1 hn).1
 have ha:=o.arr
 rw[hb]at ha
 obtain⟨a1,a2,a3,a4,a5⟩:=ha
 have hqb:q≠b:=by
  rcases hq with h | h
  ·have:=(o.kne i q hi h).2.1;rw[hb]at this;exact fun h9=>this (by rw[h9])
  ·rintro rfl;rw[a2]at h;cases h
 have hqt:q≠t:=by
  rcases hq with h | h
  ·exact (o.kne i q hi h).1
  ·rintro rfl;rw[o.root]at h;cases h
 have hqL:L q=none:=by
  rcases hq with h | h
  ·exact (o.kne i q hi h).2.2
  ·exact (o.ne h).2
 have hib:kb i≠some b:=fun h=>by have:=(o.kne i b hi h).2.1;exact this hb
 have hit:kb i≠some t:=fun h=>(o.kne i t hi h).1 rfl
 have hKb:K' b=some (.raw (.cells (yO ns kv 0))):=by rw[hK b (Ne.symm hqb) hib];exact a2
 obtain⟨kv',hkv⟩:∃kv':Nat→AV,kv'=fun q=>if q=0+i then w else kv q:=⟨_,rfl⟩
 obtain⟨kb',hkb⟩:∃kb':Nat→Option Nat,kb'=fun j=>if j=i then some q else kb j:=⟨_,rfl⟩
 have hkM:∀j r,j≠i→j<ns.length→kb j=some r→r≠q∧kb i≠some r:=by
  intro j r hj hjl hr
  refine⟨?_,fun h=>hj (o.kap j i r hjl hi hr h)⟩
  rintro rfl
  rcases hq with h | h
  ·exact hj (o.kap j i r hjl hi hr h)
  ·have:=o.kid j ns[j] (List.getElem?_eq_getElem hjl)
   rw[hr]at this
   obtain⟨_,_,_,_,h2,_⟩:=this
   rw[h2]at h;cases h
 refine⟨kv',kb',⟨?_,?_,?_,?_,?_,?_⟩,hKb⟩
 ·rw[zb _ _ _ (Ne.symm a3),hK t (Ne.symm hqt) hit];exact o.root
 ·rw[hb]
  refine⟨by simp[a1],?_,a3,a4,by simpa using a5⟩
  rw[ze,Ve ns kv 0 i n w l hn,←hkv]
 ·intro j m hm
  by_cases hj:j=i
  ·subst hj
   rw[List.getElem?_set_self hi]at hm
   simp at hm;subst hm
   rw[hkv,hkb]
   simp
   exact hw.mono fun r hr=>by cases hr;rw[zb _ _ _ hqb]
  ·rw[List.getElem?_set_ne (Ne.symm hj)]at hm
   have hjl:j<ns.length:=(List.getElem?_eq_some_iff.1 hm).1
   have e1:kv' j=kv j:=by rw[hkv];simp[hj]
   have e2:kb' j=kb j:=by rw[hkb];simp[hj]
   rw[e1,e2]
   refine (o.kid j m hm).mono fun r hr=>?_
   have h3:=hkM j r hj hjl hr
   have h4:=o.kne j r hjl hr
   have h5:r≠b:=fun h9=>h4.2.1 (by rw[hb,h9])
   rw[zb _ _ _ h5,hK r h3.1 h3.2]
 ·intro j r hj hr
  simp at hj
  by_cases hji:j=i
  ·rw[hkb]at hr;simp[hji]at hr;subst hr
   exact⟨hqt,by rw[hb];simpa using Ne.symm hqb,hqL⟩
  ·rw[hkb]at hr;simp[hji]at hr
   exact o.kne j r hj hr
 ·intro j k r hj hk hrj hrk
  simp at hj hk
  rw[hkb]at hrj hrk
  by_cases hji:j=i<;>by_cases hki:k=i
  ·omega
  ·simp[hji]at hrj;simp[hki]at hrk;subst hrj
   exact absurd rfl (hkM k _ hki hk hrk).1
  ·simp[hji]at hrj;simp[hki]at hrk;subst hrk
   exact absurd rfl (hkM j _ hji hj hrj).1
  ·simp[hji]at hrj;simp[hki]at hrk
   exact o.kap j k r hj hk hrj hrk
 ·intro r d hr hd
  have h1:r≠b:=by rintro rfl;rw[a4]at hd;cases hd
  have h2:r≠q:=by rintro rfl;rw[hqL]at hd;cases hd
  have h3:kb i≠some r:=fun h=>by rw[(o.kne i r hi h).2.2]at hd;cases hd
  rw[zb _ _ _ h1,hK r h2 h3];exact o.old r d hr hd
theorem TOpen.sub (o:TOpen L0 t ns sv kv nb kb K)(hs:∀r d,r≠t→L r=some d→L0 r=some d):TOpen L t ns sv kv nb kb K:=by
 have hn:∀r,r≠t→L0 r=none→L r=none:=by
  intro r hr h0
  cases e:L r with
  | none=>rfl
  | some d=>rw[hs r d hr e]at h0;cases h0
 refine⟨o.root,o.arr.mono (fun _ _=>rfl) (fun q hq=>?_),o.kid,fun j q hj hq=>?_,o.kap,fun r d hr hd=>o.old r d hr (hs r d hr hd)⟩
 ·have:=o.arr;rw[hq]at this;exact hn q this.2.2.1 this.2.2.2.1
 ·have:=o.kne j q hj hq;exact⟨this.1,this.2.1,hn q this.1 this.2.2⟩
theorem KSl.cellsOf {v:AV}{l:List Int}{bo:Option Nat}(h:KSl v l bo K):v.cellsOf=some [v]:=by
 cases bo with
 | none=>obtain⟨rfl,_⟩:=h;rfl
 | some b=>obtain⟨_,_,_,rfl,_⟩:=h;rfl
theorem add5 (o:TOpen L t ns sv kv nb kb K)(hl:ns.length<1000)(hkl:∀n∈ns,n.kids.length≤1000000)(parent:Int)(lk:Bool)(hp:lk=true→YI ns parent=true){ms:List Nd}(hms:ms=(if lk=true then vq ns parent.toNat ns.length else ns)++[⟨parent,lk,[]⟩])
  (hQ:Q (.tup [.i .i64 ns.length,.i .i64 0]) (L.put t (.abs (xy t ms)))):D_f120_5 F Q (.p (some (t,0))) (.i .i64 parent) (.b lk) (.i .i64 ns.length) K:=by
 unfold D_f120_5
 cases lk with
 | false =>
  simp at hms
  subst hms
  simp
  exact add6 o hl parent false ns.length (fun _ _=>hQ)
 | true =>
  obtain⟨i,rfl,hi⟩:=V6 (hp rfl)
  have hn:ns[i]?=some ns[i]:=List.getElem?_eq_getElem hi
  have f:rdL K (t,0) none=some sv:=by rw[zk o.root];rfl
  cases hnb:nb with
  | none=>have:=o.arr;rw[hnb]at this;rw[this.2]at hi;simp at hi
  | some b =>
   have ha:=o.arr
   rw[hnb]at ha
   obtain⟨a1,a2,a3,a4,a5⟩:=ha
   have ei:(i:Int)<(ns.length:Int):=by omega
   have hkid:=o.kid i ns[i] hn
   have f2:rdL K (b,i * 3+2) none=some (kv i):=by
    rw[zk a2,wD ns kv 0 i 2 ns[i] hn (by omega)];simp
   rw[a1]at f
   simp[f,f2,yF _ _ _ 3 b 0 ns.length ns.length 3 .i64 (i:Int) (Int.natCast_nonneg _) ei]
   rw[yg (c:=[.i .i64 ns.length]) _ _ (by simp[y5,zE,zo,zq,zp,AV.cellsOf]) (by simp)]
   intro b1 hb1
   have hne1:=o.ne hb1
   have o1:=o.onto hb1 (.raw (.cells [.i .i64 ns.length]))
   have hkid1:=o1.kid i ns[i] hn
   simp
   refine hkid1.push (hkl _ (List.getElem_mem hi)) (x:=(ns.length:Int)) (by simp[zF,AB.read,cut,zq]) ?_
   intro w q K' hw hq hK
   obtain⟨kv',kb',oN,hKb⟩:=o1.kidded hn hnb hw hq hK
   have hlt:i * 3+2<(yO ns kv 0).length:=by rw[xZ];omega
   simp[yF _ _ _ 3 b 0 ns.length ns.length 3 .i64 (i:Int) (Int.natCast_nonneg _) ei]
   rw[zH hKb hlt hw.cellsOf]
   refine⟨⟨?_,trivial⟩,?_⟩
   ·have hKt:=oN.root
    rw[zb _ _ _ (Ne.symm a3),a1]at hKt
    have hr0:=o.root
    rw[a1]at hr0
    simp[z8,yB,Xm,rdL,AB.read,zO,hKt,hr0]
   ·have oS:TOpen L t _ sv kv' nb kb' _:=oN.sub (fun r d hr hd=>by
     have:r≠b1:=by rintro rfl;rw[hne1.2]at hd;cases hd
     rw[zb _ _ _ this];exact hd)
    have e9:vq ns i ns.length=ns.set i { ns[i]with kids:=ns[i].kids++[(ns.length:Int)] }:=by simp[vq,hn]
    simp[e9]at hms
    refine add6 oS (by simp;omega) i true ns.length (fun K2 _=>?_)
    rw[←hms]
    exact hQ
theorem YT (hf:H_f120 F)(e:L t=some (.abs (xy t ns)))(hkl:∀n∈ns,n.kids.length≤1000000)(parent:Int)(linked:Bool):zd F k_f120 [.p (some (t,0)),.i .i64 parent,.b linked] L fun v L' =>
  v=.tup [.i .i64 (zL ns parent linked).2.1,.i .i64 (zL ns parent linked).2.2]∧L'=L.put t (.abs (xy t (zL ns parent linked).1)):=by
 refine zr ?_
 intro Q hQ
 apply ZY e
 intro sv kv nb kb K o
 have hback:=o.back e
 have f:rdL K (t,0) none=some sv:=by rw[zk o.root];rfl
 have errE:∀k,zL ns parent linked=(ns,0,k)→zl (some (.tup [.i .i64 0,.i .i64 k])) Q K:=fun k hk=>⟨L,hback,hQ _ _ (by rw[hk];exact⟨rfl,(yc L t _ e).symm⟩)⟩
 have go:¬(parent≠-1∧YI ns parent=false)→¬1000≤ns.length→D_f120_3 F Q (.p (some (t,0))) (.i .i64 parent) (.b linked) K:=by
  intro c1 c2
  unfold D_f120_3
  simp[f,o.arr.len]
  unfold D_f120_4
  have ht:zL ns parent linked=((if (linked&&decide (parent≠-1))=true then vq ns parent.toNat ns.length else ns)++[⟨parent,linked&&decide (parent≠-1),[]⟩],(ns.length:Int),0):=by
   unfold zL
   rw[if_neg c1,if_neg c2]
  have h5:=add5 (F:=F) (Q:=Q) o (by omega) hkl parent (linked&&decide (parent≠-1)) (fun h=>by
   simp at h
   cases hh:YI ns parent
   ·exact absurd ⟨h.2,hh⟩ c1
   ·rfl) rfl (hQ _ _ (by rw[ht];exact⟨rfl,rfl⟩))
  cases linked with
  | false=>simpa using h5
  | true =>
   by_cases hp:parent=-1
   ·simpa[hp]using h5
   ·simpa[hp]using h5
 apply r_f120 hf.code
 unfold D_f120_1 D_f120_2
 have fin2:¬(parent≠-1∧YI ns parent=false)→(1000≤ns.length→zl (some (.tup [.i .i64 0,.i .i64 3])) Q K):=fun c1 c2=>errE 3 (by unfold zL;rw[if_neg c1,if_pos c2])
 by_cases hp:parent=-1
 ·have c1:¬(parent≠-1∧YI ns parent=false):=by simp[hp]
  by_cases c2:1000≤ns.length
  ·have c2':(1000:Int)≤(ns.length:Int):=by omega
   have:=fin2 c1 c2
   simpa[hp,f,o.arr.len,c2']using this
  ·have c2':¬(1000:Int)≤(ns.length:Int):=by omega
   have:=go c1 c2
   rw[hp]at this
   simpa[hp,f,o.arr.len,c2']using this
 ·simp[hp]
  refine (vS hf.f119 o parent).mono ?_
  rintro _ K' ⟨rfl,hK'⟩
  rw[hK']
  clear hK' K'
  cases hh:YI ns parent
  ·have:=errE 1 (by unfold zL;rw[if_pos ⟨hp,hh⟩])
   simpa[hp]using this
  ·have c1:¬(parent≠-1∧YI ns parent=false):=by simp[hh]
   by_cases c2:1000≤ns.length
   ·have c2':(1000:Int)≤(ns.length:Int):=by omega
    have:=fin2 c1 c2
    simpa[hp,f,o.arr.len,c2']using this
   ·have c2':¬(1000:Int)≤(ns.length:Int):=by omega
    have:=go c1 c2
    simpa[hp,f,o.arr.len,c2']using this
end
end
section
variable {F:Nat→Option AFn}
def UD (ns:List Nd)(i:Nat):List Nd:=match ns[i]? with
 | some n=>ns.set i { n with linked:=false }
 | none=>ns
def zap (ns:List Nd)(p:Nat)(x:Int):List Nd:=match ns[p]? with
 | some n=>ns.set p { n with kids:=n.kids.eraseIdx (za4 n.kids x 0).toNat }
 | none=>ns
section
variable {L L0 K:Lg} {t:Nat} {ns:List Nd} {sv:AV} {kv:Nat→AV} {nb:Option Nat} {kb:Nat→Option Nat} {Q:AV→Lg→Prop}
theorem TOpen.link (o:TOpen L t ns sv kv nb kb K){i:Nat}{n:Nd}(hn:ns[i]?=some n){b:Nat}(hb:nb=some b)(v:Bool):TOpen L t (ns.set i { n with linked:=v }) sv kv nb kb (K.put b (.raw (.cells ((yO ns kv 0).set (i * 3+1) (.b v))))):=by
 have hi:i<ns.length:=(List.getElem?_eq_some_iff.1 hn).1
 have ha:=o.arr
 rw[hb]at ha
 obtain⟨a1,a2,a3,a4,a5⟩:=ha
 refine⟨by rw[zb _ _ _ (Ne.symm a3)];exact o.root,?_,?_,?_,?_,?_⟩
 ·rw[hb]
  exact⟨by simp[a1],by rw[ze,XU ns kv 0 i n v hn],a3,a4,by simpa using a5⟩
 ·intro j m hm
  have hjl:j<ns.length:=by have:=(List.getElem?_eq_some_iff.1 hm).1;simpa using this
  have hkk:KSl (kv j) m.kids (kb j) K:=by
   by_cases hj:j=i
   ·subst hj
    rw[List.getElem?_set_self hi]at hm
    simp at hm;subst hm
    exact o.kid j n hn
   ·rw[List.getElem?_set_ne (Ne.symm hj)]at hm
    exact o.kid j m hm
  refine hkk.mono fun r hr=>?_
  have h4:=o.kne j r hjl hr
  exact zb _ _ _ (fun h9=>h4.2.1 (by rw[hb,h9]))
 ·intro j r hj hr
  simp at hj
  exact o.kne j r hj hr
 ·intro j k r hj hk hrj hrk
  simp at hj hk
  exact o.kap j k r hj hk hrj hrk
 ·intro r d hr hd
  have h1:r≠b:=by rintro rfl;rw[a4]at hd;cases hd
  rw[zb _ _ _ h1];exact o.old r d hr hd
def vt (ns:List Nd)(i:Nat):List Nd×Bool:=match ns[i]? with
 | some n=>if n.linked=true then (zap (UD ns i) n.parent.toNat i,true)else (ns,false)
 | none=>(ns,false)
theorem det4 (hfi:H_f137 F)(hfd:H_f138 F)(o:TOpen L t ns sv kv nb kb K)(hkl:∀n∈ns,n.kids.length≤1000000){i p k:Nat}{n m:Nd}(hn:ns[i]?=some n)(hp:n.parent=(p:Int))(hm:ns[p]?=some m)(hk:k<m.kids.length)(hix:za4 m.kids i 0=(k:Int))
  (hQ:Q (.b true) (L.put t (.abs (xy t (zap ns p i))))):D_f139_4 F Q (.p (some (t,0))) (.i .i64 i) K:=by
 unfold D_f139_4
 have hi:i<ns.length:=(List.getElem?_eq_some_iff.1 hn).1
 have hpl:p<ns.length:=(List.getElem?_eq_some_iff.1 hm).1
 have f:rdL K (t,0) none=some sv:=by rw[zk o.root];rfl
 cases hnb:nb with
 | none=>have:=o.arr;rw[hnb]at this;rw[this.2]at hi;simp at hi
 | some b =>
  have ha:=o.arr
  rw[hnb]at ha
  obtain⟨a1,a2,a3,a4,a5⟩:=ha
  have ei:(i:Int)<(ns.length:Int):=by omega
  have ep:(p:Int)<(ns.length:Int):=by omega
  have f1:rdL K (b,i * 3) none=some (.i .i64 p):=by rw[zk a2];have:=wD ns kv 0 i 0 n hn (by omega);simpa[hp]using this
  have f2:rdL K (b,p * 3+2) none=some (kv p):=by rw[zk a2,wD ns kv 0 p 2 m hm (by omega)];simp
  rw[a1]at f
  have hkid:=o.kid p m hm
  have hmem:m∈ns:=List.mem_of_getElem? hm
  simp[f,f1,f2,yF _ _ _ 3 b 0 ns.length ns.length 3 .i64 (i:Int) (Int.natCast_nonneg _) ei,yF _ _ _ 3 b 0 ns.length ns.length 3 .i64 (p:Int) (Int.natCast_nonneg _) ep]
  refine (zdc hfi hkid (hkl m hmem) i).mono ?_
  rintro _ K' ⟨rfl,hK'⟩
  rw[hK']
  clear hK' K'
  rw[hix]
  have w1:wr .i64 ((k:Int)+1)=(k:Int)+1:=zS (by have:=hkl m hmem;omega) (by have:=hkl m hmem;omega)
  simp[f2,w1]
  cases hkb:kb p with
  | none=>rw[hkb]at hkid;rw[hkid.2]at hk;simp at hk
  | some q =>
   rw[hkb]at hkid
   refine (zbf hfd hkid (hkl m hmem) hk).mono ?_
   rintro w K' ⟨sp',hw,hK'⟩
   obtain⟨kv',kb',oN,hKb⟩:=o.kidded hm hnb hw (.inl hkb) (fun r hr _=>by rw[hK',zb _ _ _ hr])
   have hlt:p * 3+2<(yO ns kv 0).length:=by rw[xZ];omega
   simp
   rw[zH hKb hlt hw.cellsOf]
   have e9:zap ns p i=ns.set p { m with kids:=m.kids.eraseIdx k }:=by simp[zap,hm,hix]
   rw[e9]at hQ
   exact⟨_,oN.shut,hQ⟩
theorem UG (hf:H_f139 F)(e:L t=some (.abs (xy t ns)))(hkl:∀n∈ns,n.kids.length≤1000000){i:Nat}(hi:i<ns.length)(hok:∀n:Nd,ns[i]?=some n→n.linked=true→∃(p:Nat) (m:Nd) (k:Nat),n.parent=(p:Int)∧ns[p]?=some m∧p≠i∧k<m.kids.length∧za4 m.kids i 0=(k:Int)):zd F k_f139 [.p (some (t,0)),.i .i64 i] L fun v L'=>v=.b (vt ns i).2∧L'=L.put t (.abs (xy t (vt ns i).1)):=by
 refine zr ?_
 intro Q hQ
 apply ZY e
 intro sv kv nb kb K o
 have hback:=o.back e
 have hn:ns[i]?=some ns[i]:=List.getElem?_eq_getElem hi
 have f:rdL K (t,0) none=some sv:=by rw[zk o.root];rfl
 apply r_f139 hf.code
 unfold D_f139_1 D_f139_2
 refine (vS hf.f119 o i).mono ?_
 rintro _ K' ⟨rfl,hK'⟩
 rw[hK']
 clear hK' K'
 have hh:YI ns i=true:=by simp[YI];omega
 rw[hh]
 cases hnb:nb with
 | none=>have:=o.arr;rw[hnb]at this;rw[this.2]at hi;simp at hi
 | some b =>
  have ha:=o.arr
  rw[hnb]at ha
  obtain⟨a1,a2,a3,a4,a5⟩:=ha
  have ei:(i:Int)<(ns.length:Int):=by omega
  have f1:rdL K (b,i * 3+1) none=some (.b ns[i].linked):=by rw[zk a2];have:=wD ns kv 0 i 1 ns[i] hn (by omega);simpa using this
  have hlt:i * 3+1<(yO ns kv 0).length:=by rw[xZ];omega
  rw[a1]at f
  cases hlk:ns[i].linked
  ·have:=hQ (.b false) L ⟨by simp[vt,hn,hlk],by simp[vt,hn,hlk,yc L t _ e]⟩
   simp[f,f1,hlk,yF _ _ _ 3 b 0 ns.length ns.length 3 .i64 (i:Int) (Int.natCast_nonneg _) ei]
   exact⟨_,hback,this⟩
  ·obtain⟨p,m,k,hp,hm,hpi,hk,hix⟩:=hok ns[i] hn hlk
   have oN:=o.link hn hnb false
   have hun:UD ns i=ns.set i { ns[i]with linked:=false }:=by simp[UD,hn]
   simp[f,f1,hlk,yF _ _ _ 3 b 0 ns.length ns.length 3 .i64 (i:Int) (Int.natCast_nonneg _) ei]
   unfold D_f139_3
   simp[f,yF _ _ _ 3 b 0 ns.length ns.length 3 .i64 (i:Int) (Int.natCast_nonneg _) ei]
   rw[zH a2 hlt rfl]
   refine det4 hf.f137 hf.f138 oN ?_ (i:=i) (p:=p) (k:=k) (n:={ ns[i]with linked:=false }) (m:=m) (by rw[List.getElem?_set_self hi]) hp (by rw[List.getElem?_set_ne (Ne.symm hpi)];exact hm) hk hix ?_
   ·intro y hy
    rcases List.mem_or_eq_of_mem_set hy with h | rfl
    ·exact hkl y h
    ·exact hkl ns[i] (List.getElem_mem hi)
   ·refine hQ _ _ ⟨by simp[vt,hn,hlk],by simp[vt,hn,hlk,hun,hp]⟩
end
end
end Go.AM
