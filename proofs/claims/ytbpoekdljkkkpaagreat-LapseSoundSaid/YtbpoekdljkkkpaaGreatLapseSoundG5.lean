/- The texts LibTreeB, LibTreeC, LibCtxA, LibCtxB, LibCtxC, LibCtxD, LibCtxE, LibCtxF, LibCtxG, LibCtxH, LibCtxI, LibCtxJ, LibCtxK, LibCtxL, LibCtxM, LibCtxN of a proof of LapseSound, merged. -/
import Derived.Test.YtbpoekdljkkkpaaGreatLapseSoundG4
set_option linter.unusedVariables false
set_option linter.unusedSimpArgs false
namespace Go.AM
section
variable {F:Nat→Option aT}
def vy (ns:List Nd)(i:Nat)(x:Int):List Nd:=match ns[i]? with
 | some n=>ns.set i { n with kids:=n.kids++[x] }
 | none=>ns
def zP (ns:List Nd)(parent:Int)(linked:Bool):List Nd×Int×Int :=
 if parent≠-1∧YQ ns parent=false then (ns,0,1)else if 1000≤ns.length then (ns,0,3)
 else ((if (linked&&decide (parent≠-1))=true then vy ns parent.toNat ns.length else ns)++[⟨parent,linked&&decide (parent≠-1),[]⟩],ns.length,0)
section
variable {L L0 K:Lg} {t:Nat} {ns:List Nd} {sv:AV} {kv:Nat→AV} {nb:Option Nat} {kb:Nat→Option Nat} {Q:AV→Lg→Prop}
theorem znB (o:bR L t ns sv kv nb kb K)(hl:ns.length<1000)(parent:Int)(lk:Bool)(x8:Int)(hQ:∀K',zx K' (L.put t (.abs (xG t (ns++[⟨parent,lk,[]⟩]))))→Q (.ay [.i .i64 x8,.i .i64 0]) (L.put t (.abs (xG t (ns++[⟨parent,lk,[]⟩]))))) :
  fN F Q (.p (some (t,0))) (.i .i64 parent) (.b lk) (.i .i64 x8) K:=by
 unfold fN
 have f:aq K (t,0) none=some sv:=by rw[zj o.root];rfl
 simp[f,zF,zo,zp,zq]
 rw[yg (c:=[.i .i64 parent,.b lk,.sl none 0 0 0]) _ _ (by simp[y7,zF,wa,zo,zp,zq]) (by simp)]
 intro b1 bP
 have nb1:∀{y:Nat} {k:LC},K y=some k→y≠b1:=fun hx ie=>by rw[ie,bP]at hx;cases hx
 simp
 have hsv:ZM K sv (yN ns kv 0) ns.length 3:=by
  cases nb with
  | none=>obtain⟨h1,h2⟩:=o.arr;subst h2;exact .inl ⟨rfl,rfl,h1⟩
  | some b=>obtain⟨h1,h2,h3,h4,h5⟩:=o.arr;exact .inr ⟨b,h5,h1,h2,wi _ _ _⟩
 have Sd:au sv=nb:=by
  cases nb with
  | none=>obtain⟨h1,h2⟩:=o.arr;rw[h1];rfl
  | some b=>obtain⟨h1,_⟩:=o.arr;rw[h1];rfl
 have zlB:∀q,nb=some q→K q≠none∧q≠t∧L q=none:=fun q hq=>by
  have:=o.arr;rw[hq]at this;exact⟨by rw[this.2.1];simp,this.2.2.1,this.2.2.2.1⟩
 have Sb:ZM (K.put b1 (.raw (.cells [.i .i64 parent,.b lk,.sl none 0 0 0]))) sv (yN ns kv 0) ns.length 3:=by
  rcases hsv with h | ⟨b,c0,c1,c2,c3⟩
  ·exact .inl h
  ·exact .inr ⟨b,c0,c1,by rw[zb _ _ _ (nb1 c2)];exact c2,c3⟩
 refine Sb.app (m:=1) (by omega) rfl (by omega) (new:=[.i .i64 parent,.b lk,.sl none 0 0 0]) (by simp[zH,AB.read,cut,zp]) (by simp) (by simp) (by omega) ?_
 intro b2 bT
 rw[Lg.ah]at bT
 have n12:b2≠b1:=by rintro rfl;simp at bT
 rw[if_neg n12]at bT
 have HB:∀{y:Nat} {k:LC},K y=some k→y≠b2:=fun hx ie=>by rw[ie,bT]at hx;cases hx
 rw[Sd]
 have Jd:∀(M:Lg) r,nb≠some r→(M.ij nb) r=M r:=by
  intro M r hr
  cases hh:nb with
  | none=>rfl
  | some b=>rw[hh]at hr;simp only[Lg.ij];rw[yL,if_neg];intro h;exact hr (by rw[h])
 obtain⟨kv',hkv⟩:∃kv':Nat→AV,kv'=fun q=>if q=ns.length then .sl none 0 0 0 else kv q:=⟨_,rfl⟩
 obtain⟨kb',A3⟩:∃kb':Nat→Option Nat,kb'=fun q=>if q=ns.length then none else kb q:=⟨_,rfl⟩
 have RM:yN ns kv 0++[.i .i64 parent,.b lk,.sl none 0 0 0]=yN (ns++[⟨parent,lk,[]⟩]) kv' 0:=by
  rw[Yq,Zi ns kv kv' 0 (fun i hi=>by rw[hkv];simp;omega)]
  simp[yN,hkv]
 rw[RM]
 obtain⟨M,hM⟩:∃M,M=((K.put b1 (.raw (.cells [.i .i64 parent,.b lk,.sl none 0 0 0]))).ij nb).put b2 (.raw (.cells (yN (ns++[⟨parent,lk,[]⟩]) kv' 0))):=⟨_,rfl⟩
 rw[←hM]
 have hMo:∀r d,K r=some d→nb≠some r→M r=some d:=by
  intro r d hd hr
  rw[hM,zb _ _ _ (HB hd),Jd _ _ hr,zb _ _ _ (nb1 hd)];exact hd
 have hnt:nb≠some t:=fun h=>(zlB t h).2.1 rfl
 have hMt:=hMo t _ o.root hnt
 have hMb:M b2=some (.raw (.cells (yN (ns++[⟨parent,lk,[]⟩]) kv' 0))):=by rw[hM,ze]
 have bT:=o.ne bT
 have oN:bR L t (ns++[⟨parent,lk,[]⟩]) (.sl (some (b2,0)) (ns.length+1) (ns.length+1) 3) kv' (some b2) kb' (M.put t (.raw (.cells [.sl (some (b2,0)) (ns.length+1) (ns.length+1) 3]))):=by
  refine⟨ze _ _ _,⟨by simp,by rw[zb _ _ _ bT.1];exact hMb,bT.1,bT.2,by simp⟩,?_,?_,?_,?_⟩
  ·intro j n hn
   by_cases hj:j<ns.length
   ·rw[List.getElem?_append_left hj]at hn
    have hne:j≠ns.length:=by omega
    have e1:kv' j=kv j:=by rw[hkv];simp[hne]
    have e2:kb' j=kb j:=by rw[A3];simp[hne]
    rw[e1,e2]
    have hk:=o.Ev j n hn
    refine hk.mono fun q hq=>?_
    have h3:=o.Eu j q hj hq
    rw[zb _ _ _ h3.1]
    have:∃d,K q=some d:=by rw[hq]at hk;obtain⟨_,_,_,_,h2,_⟩:=hk;exact⟨_,h2⟩
    obtain⟨d,hd⟩:=this
    rw[hd];exact hMo q d hd h3.2.1
   ·have hlt:=(List.getElem?_eq_some_iff.1 hn).1
    simp at hlt
    have hjn:j=ns.length:=by omega
    subst hjn
    rw[List.getElem?_append_right (by omega)]at hn
    simp at hn
    subst hn
    rw[hkv,A3]
    simp[Ak]
  ·intro j q hj hq
   have hj':j<ns.length:=by
    by_cases h:j=ns.length
    ·rw[A3]at hq;simp[h]at hq
    ·simp at hj;omega
   have hne:j≠ns.length:=by omega
   have e2:kb' j=kb j:=by rw[A3];simp[hne]
   rw[e2]at hq
   have h3:=o.Eu j q hj' hq
   refine⟨h3.1,?_,h3.2.2⟩
   intro h4
   simp only[Option.some.injEq]at h4
   have hk:=o.Ev j ns[j] (List.getElem?_eq_getElem hj')
   rw[hq]at hk
   obtain⟨_,_,_,_,h2,_⟩:=hk
   exact HB h2 h4.symm
  ·intro i j q hi hj Ih hqj
   have hi':i≠ns.length:=fun h=>by rw[A3]at Ih;simp[h]at Ih
   have hj':j≠ns.length:=fun h=>by rw[A3]at hqj;simp[h]at hqj
   rw[A3]at Ih hqj
   simp[hi']at Ih
   simp[hj']at hqj
   simp at hi hj
   exact o.MI i j q (by omega) (by omega) Ih hqj
  ·intro r d hr hd
   rw[zb _ _ _ hr]
   refine hMo r d (o.old r d hr hd) ?_
   intro h;rw[(zlB r h).2.2]at hd;cases hd
 have fM:aq M (t,0) none=some sv:=by rw[zj hMt];rfl
 simp[zD hMt]
 exact⟨_,oN.shut,hQ _ oN.shut⟩
theorem bR.IU (o:bR L t ns sv kv nb kb K){i:Nat}{n:Nd}(hn:ns[i]?=some n){b:Nat}(hb:nb=some b){w:AV}{q:Nat}{l:List Int}{K':Lg}(hw:Ak w l (some q) K')(hq:kb i=some q∨K q=none)(hK:∀r,r≠q→kb i≠some r→K' r=K r) :
  ∃kv' kb',bR L t (ns.set i { n with kids:=l }) sv kv' nb kb' (K'.put b (.raw (.cells ((yN ns kv 0).set (i * 3+2) w))))∧K' b=some (.raw (.cells (yN ns kv 0))):=by
 have hi:i<ns.length:=(List.getElem?_eq_some_iff.1 hn).1
 have ha:=o.arr
 rw[hb]at ha
 obtain⟨a1,a2,a3,a4,a5⟩:=ha
 have Bs:q≠b:=by
  rcases hq with h | h
  ·have:=(o.Eu i q hi h).2.1;rw[hb]at this;exact fun h9=>this (by rw[h9])
  ·rintro rfl;rw[a2]at h;cases h
 have hqt:q≠t:=by
  rcases hq with h | h
  ·exact (o.Eu i q hi h).1
  ·rintro rfl;rw[o.root]at h;cases h
 have hqL:L q=none:=by
  rcases hq with h | h
  ·exact (o.Eu i q hi h).2.2
  ·exact (o.ne h).2
 have hib:kb i≠some b:=fun h=>by have:=(o.Eu i b hi h).2.1;exact this hb
 have hit:kb i≠some t:=fun h=>(o.Eu i t hi h).1 rfl
 have OA:K' b=some (.raw (.cells (yN ns kv 0))):=by rw[hK b (Ne.symm Bs) hib];exact a2
 obtain⟨kv',hkv⟩:∃kv':Nat→AV,kv'=fun q=>if q=0+i then w else kv q:=⟨_,rfl⟩
 obtain⟨kb',A3⟩:∃kb':Nat→Option Nat,kb'=fun j=>if j=i then some q else kb j:=⟨_,rfl⟩
 have hkM:∀j r,j≠i→j<ns.length→kb j=some r→r≠q∧kb i≠some r:=by
  intro j r hj hjl hr
  refine⟨?_,fun h=>hj (o.MI j i r hjl hi hr h)⟩
  rintro rfl
  rcases hq with h | h
  ·exact hj (o.MI j i r hjl hi hr h)
  ·have:=o.Ev j ns[j] (List.getElem?_eq_getElem hjl)
   rw[hr]at this
   obtain⟨_,_,_,_,h2,_⟩:=this
   rw[h2]at h;cases h
 refine⟨kv',kb',⟨?_,?_,?_,?_,?_,?_⟩,OA⟩
 ·rw[zb _ _ _ (Ne.symm a3),hK t (Ne.symm hqt) hit];exact o.root
 ·rw[hb]
  refine⟨by simp[a1],?_,a3,a4,by simpa using a5⟩
  rw[ze,Vx ns kv 0 i n w l hn,←hkv]
 ·intro j m hm
  by_cases hj:j=i
  ·subst hj
   rw[List.getElem?_set_self hi]at hm
   simp at hm;subst hm
   rw[hkv,A3]
   simp
   exact hw.mono fun r hr=>by cases hr;rw[zb _ _ _ Bs]
  ·rw[List.getElem?_set_ne (Ne.symm hj)]at hm
   have hjl:j<ns.length:=(List.getElem?_eq_some_iff.1 hm).1
   have e1:kv' j=kv j:=by rw[hkv];simp[hj]
   have e2:kb' j=kb j:=by rw[A3];simp[hj]
   rw[e1,e2]
   refine (o.Ev j m hm).mono fun r hr=>?_
   have h3:=hkM j r hj hjl hr
   have h4:=o.Eu j r hjl hr
   have h5:r≠b:=fun h9=>h4.2.1 (by rw[hb,h9])
   rw[zb _ _ _ h5,hK r h3.1 h3.2]
 ·intro j r hj hr
  simp at hj
  by_cases hji:j=i
  ·rw[A3]at hr;simp[hji]at hr;subst hr
   exact⟨hqt,by rw[hb];simpa using Ne.symm Bs,hqL⟩
  ·rw[A3]at hr;simp[hji]at hr
   exact o.Eu j r hj hr
 ·intro j k r hj hk MQ MP
  simp at hj hk
  rw[A3]at MQ MP
  by_cases hji:j=i<;>by_cases hki:k=i
  ·omega
  ·simp[hji]at MQ;simp[hki]at MP;subst MQ
   exact absurd rfl (hkM k _ hki hk MP).1
  ·simp[hji]at MQ;simp[hki]at MP;subst MP
   exact absurd rfl (hkM j _ hji hj MQ).1
  ·simp[hji]at MQ;simp[hki]at MP
   exact o.MI j k r hj hk MQ MP
 ·intro r d hr hd
  have h1:r≠b:=by rintro rfl;rw[a4]at hd;cases hd
  have h2:r≠q:=by rintro rfl;rw[hqL]at hd;cases hd
  have h3:kb i≠some r:=fun h=>by rw[(o.Eu i r hi h).2.2]at hd;cases hd
  rw[zb _ _ _ h1,hK r h2 h3];exact o.old r d hr hd
theorem bR.sub (o:bR L0 t ns sv kv nb kb K)(hs:∀r d,r≠t→L r=some d→L0 r=some d):bR L t ns sv kv nb kb K:=by
 have hn:∀r,r≠t→L0 r=none→L r=none:=by
  intro r hr h0
  cases e:L r with
  | none=>rfl
  | some d=>rw[hs r d hr e]at h0;cases h0
 refine⟨o.root,o.arr.mono (fun _ _=>rfl) (fun q hq=>?_),o.Ev,fun j q hj hq=>?_,o.MI,fun r d hr hd=>o.old r d hr (hs r d hr hd)⟩
 ·have:=o.arr;rw[hq]at this;exact hn q this.2.2.1 this.2.2.2.1
 ·have:=o.Eu j q hj hq;exact⟨this.1,this.2.1,hn q this.1 this.2.2⟩
theorem Ak.cellsOf {v:AV}{l:List Int}{bo:Option Nat}(h:Ak v l bo K):v.cellsOf=some [v]:=by
 cases bo with
 | none=>obtain⟨rfl,_⟩:=h;rfl
 | some b=>obtain⟨_,_,_,rfl,_⟩:=h;rfl
theorem zqu (o:bR L t ns sv kv nb kb K)(hl:ns.length<1000)(dA:∀n∈ns,n.kids.length≤1000000)(parent:Int)(lk:Bool)(hp:lk=true→YQ ns parent=true){ms:List Nd}(hms:ms=(if lk=true then vy ns parent.toNat ns.length else ns)++[⟨parent,lk,[]⟩])
  (hQ:Q (.ay [.i .i64 ns.length,.i .i64 0]) (L.put t (.abs (xG t ms)))):jm F Q (.p (some (t,0))) (.i .i64 parent) (.b lk) (.i .i64 ns.length) K:=by
 unfold jm
 cases lk with
 | false =>
  simp at hms
  subst hms
  simp
  exact znB o hl parent false ns.length (fun _ _=>hQ)
 | true =>
  obtain⟨i,rfl,hi⟩:=Un (hp rfl)
  have hn:ns[i]?=some ns[i]:=List.getElem?_eq_getElem hi
  have f:aq K (t,0) none=some sv:=by rw[zj o.root];rfl
  cases hnb:nb with
  | none=>have:=o.arr;rw[hnb]at this;rw[this.2]at hi;simp at hi
  | some b =>
   have ha:=o.arr
   rw[hnb]at ha
   obtain⟨a1,a2,a3,a4,a5⟩:=ha
   have ei:(i:Int)<(ns.length:Int):=by omega
   have dR:=o.Ev i ns[i] hn
   have f2:aq K (b,i * 3+2) none=some (kv i):=by
    rw[zj a2,wM ns kv 0 i 2 ns[i] hn (by omega)];simp
   rw[a1]at f
   simp[f,f2,yn _ _ _ 3 b 0 ns.length ns.length 3 .i64 (i:Int) (Int.natCast_nonneg _) ei]
   rw[yg (c:=[.i .i64 ns.length]) _ _ (by simp[y7,zF,zo,zp,zq,AV.cellsOf]) (by simp)]
   intro b1 bP
   have zps:=o.ne bP
   have o1:=o.bW bP (.raw (.cells [.i .i64 ns.length]))
   have zlJ:=o1.Ev i ns[i] hn
   simp
   refine zlJ.push (dA _ (List.getElem_mem hi)) (x:=(ns.length:Int)) (by simp[zH,AB.read,cut,zp]) ?_
   intro w q K' hw hq hK
   obtain⟨kv',kb',oN,OA⟩:=o1.IU hn hnb hw hq hK
   have hlt:i * 3+2<(yN ns kv 0).length:=by rw[wi];omega
   simp[yn _ _ _ 3 b 0 ns.length ns.length 3 .i64 (i:Int) (Int.natCast_nonneg _) ei]
   rw[zD OA hlt hw.cellsOf]
   refine⟨⟨?_,trivial⟩,?_⟩
   ·have hKt:=oN.root
    rw[zb _ _ _ (Ne.symm a3),a1]at hKt
    have ju:=o.root
    rw[a1]at ju
    simp[yb,yC,XT,aq,AB.read,zR,hKt,ju]
   ·have oS:bR L t _ sv kv' nb kb' _:=oN.sub (fun r d hr hd=>by
     have:r≠b1:=by rintro rfl;rw[zps.2]at hd;cases hd
     rw[zb _ _ _ this];exact hd)
    have e9:vy ns i ns.length=ns.set i { ns[i]with kids:=ns[i].kids++[(ns.length:Int)] }:=by simp[vy,hn]
    simp[e9]at hms
    refine znB oS (by simp;omega) i true ns.length (fun K2 _=>?_)
    rw[←hms]
    exact hQ
theorem Y0 (hf:BW F)(e:L t=some (.abs (xG t ns)))(dA:∀n∈ns,n.kids.length≤1000000)(parent:Int)(linked:Bool):zd F ia [.p (some (t,0)),.i .i64 parent,.b linked] L fun v L' =>
  v=.ay [.i .i64 (zP ns parent linked).2.1,.i .i64 (zP ns parent linked).2.2]∧L'=L.put t (.abs (xG t (zP ns parent linked).1)):=by
 refine zr ?_
 intro Q hQ
 apply Z6 e
 intro sv kv nb kb K o
 have eW:=o.back e
 have f:aq K (t,0) none=some sv:=by rw[zj o.root];rfl
 have HU:∀k,zP ns parent linked=(ns,0,k)→zm (some (.ay [.i .i64 0,.i .i64 k])) Q K:=fun k hk=>⟨L,eW,hQ _ _ (by rw[hk];exact⟨rfl,(ye L t _ e).symm⟩)⟩
 have go:¬(parent≠-1∧YQ ns parent=false)→¬1000≤ns.length→fO F Q (.p (some (t,0))) (.i .i64 parent) (.b linked) K:=by
  intro c1 c2
  unfold fO
  simp[f,o.arr.len]
  unfold uP
  have ht:zP ns parent linked=((if (linked&&decide (parent≠-1))=true then vy ns parent.toNat ns.length else ns)++[⟨parent,linked&&decide (parent≠-1),[]⟩],(ns.length:Int),0):=by
   unfold zP
   rw[if_neg c1,if_neg c2]
  have h5:=zqu (F:=F) (Q:=Q) o (by omega) dA parent (linked&&decide (parent≠-1)) (fun h=>by
   simp at h
   cases hh:YQ ns parent
   ·exact absurd ⟨h.2,hh⟩ c1
   ·rfl) rfl (hQ _ _ (by rw[ht];exact⟨rfl,rfl⟩))
  cases linked with
  | false=>simpa using h5
  | true =>
   by_cases hp:parent=-1
   ·simpa[hp]using h5
   ·simpa[hp]using h5
 apply Ro hf.code
 unfold uR uQ
 have Jy:¬(parent≠-1∧YQ ns parent=false)→(1000≤ns.length→zm (some (.ay [.i .i64 0,.i .i64 3])) Q K):=fun c1 c2=>HU 3 (by unfold zP;rw[if_neg c1,if_pos c2])
 by_cases hp:parent=-1
 ·have c1:¬(parent≠-1∧YQ ns parent=false):=by simp[hp]
  by_cases c2:1000≤ns.length
  ·have Np:(1000:Int)≤(ns.length:Int):=by omega
   have:=Jy c1 c2
   simpa[hp,f,o.arr.len,Np]using this
  ·have Np:¬(1000:Int)≤(ns.length:Int):=by omega
   have:=go c1 c2
   rw[hp]at this
   simpa[hp,f,o.arr.len,Np]using this
 ·simp[hp]
  refine (Zb hf.f119 o parent).mono ?_
  rintro _ K' ⟨rfl,bU⟩
  rw[bU]
  clear bU K'
  cases hh:YQ ns parent
  ·have:=HU 1 (by unfold zP;rw[if_pos ⟨hp,hh⟩])
   simpa[hp]using this
  ·have c1:¬(parent≠-1∧YQ ns parent=false):=by simp[hh]
   by_cases c2:1000≤ns.length
   ·have Np:(1000:Int)≤(ns.length:Int):=by omega
    have:=Jy c1 c2
    simpa[hp,f,o.arr.len,Np]using this
   ·have Np:¬(1000:Int)≤(ns.length:Int):=by omega
    have:=go c1 c2
    simpa[hp,f,o.arr.len,Np]using this
end
end
section
variable {F:Nat→Option aT}
def US (ns:List Nd)(i:Nat):List Nd:=match ns[i]? with
 | some n=>ns.set i { n with linked:=false }
 | none=>ns
def zaD (ns:List Nd)(p:Nat)(x:Int):List Nd:=match ns[p]? with
 | some n=>ns.set p { n with kids:=n.kids.eraseIdx (Fj n.kids x 0).toNat }
 | none=>ns
section
variable {L L0 K:Lg} {t:Nat} {ns:List Nd} {sv:AV} {kv:Nat→AV} {nb:Option Nat} {kb:Nat→Option Nat} {Q:AV→Lg→Prop}
theorem bR.link (o:bR L t ns sv kv nb kb K){i:Nat}{n:Nd}(hn:ns[i]?=some n){b:Nat}(hb:nb=some b)(v:Bool):bR L t (ns.set i { n with linked:=v }) sv kv nb kb (K.put b (.raw (.cells ((yN ns kv 0).set (i * 3+1) (.b v))))):=by
 have hi:i<ns.length:=(List.getElem?_eq_some_iff.1 hn).1
 have ha:=o.arr
 rw[hb]at ha
 obtain⟨a1,a2,a3,a4,a5⟩:=ha
 refine⟨by rw[zb _ _ _ (Ne.symm a3)];exact o.root,?_,?_,?_,?_,?_⟩
 ·rw[hb]
  exact⟨by simp[a1],by rw[ze,X4 ns kv 0 i n v hn],a3,a4,by simpa using a5⟩
 ·intro j m hm
  have hjl:j<ns.length:=by have:=(List.getElem?_eq_some_iff.1 hm).1;simpa using this
  have hkk:Ak (kv j) m.kids (kb j) K:=by
   by_cases hj:j=i
   ·subst hj
    rw[List.getElem?_set_self hi]at hm
    simp at hm;subst hm
    exact o.Ev j n hn
   ·rw[List.getElem?_set_ne (Ne.symm hj)]at hm
    exact o.Ev j m hm
  refine hkk.mono fun r hr=>?_
  have h4:=o.Eu j r hjl hr
  exact zb _ _ _ (fun h9=>h4.2.1 (by rw[hb,h9]))
 ·intro j r hj hr
  simp at hj
  exact o.Eu j r hj hr
 ·intro j k r hj hk MQ MP
  simp at hj hk
  exact o.MI j k r hj hk MQ MP
 ·intro r d hr hd
  have h1:r≠b:=by rintro rfl;rw[a4]at hd;cases hd
  rw[zb _ _ _ h1];exact o.old r d hr hd
def vA (ns:List Nd)(i:Nat):List Nd×Bool:=match ns[i]? with
 | some n=>if n.linked=true then (zaD (US ns i) n.parent.toNat i,true)else (ns,false)
 | none=>(ns,false)
theorem zql (j9:BT F)(kf:BS F)(o:bR L t ns sv kv nb kb K)(dA:∀n∈ns,n.kids.length≤1000000){i p k:Nat}{n m:Nd}(hn:ns[i]?=some n)(hp:n.parent=(p:Int))(hm:ns[p]?=some m)(hk:k<m.kids.length)(hix:Fj m.kids i 0=(k:Int))
  (hQ:Q (.b true) (L.put t (.abs (xG t (zaD ns p i))))):jj F Q (.p (some (t,0))) (.i .i64 i) K:=by
 unfold jj
 have hi:i<ns.length:=(List.getElem?_eq_some_iff.1 hn).1
 have j5:p<ns.length:=(List.getElem?_eq_some_iff.1 hm).1
 have f:aq K (t,0) none=some sv:=by rw[zj o.root];rfl
 cases hnb:nb with
 | none=>have:=o.arr;rw[hnb]at this;rw[this.2]at hi;simp at hi
 | some b =>
  have ha:=o.arr
  rw[hnb]at ha
  obtain⟨a1,a2,a3,a4,a5⟩:=ha
  have ei:(i:Int)<(ns.length:Int):=by omega
  have ep:(p:Int)<(ns.length:Int):=by omega
  have f1:aq K (b,i * 3) none=some (.i .i64 p):=by rw[zj a2];have:=wM ns kv 0 i 0 n hn (by omega);simpa[hp]using this
  have f2:aq K (b,p * 3+2) none=some (kv p):=by rw[zj a2,wM ns kv 0 p 2 m hm (by omega)];simp
  rw[a1]at f
  have dR:=o.Ev p m hm
  have hmem:m∈ns:=List.mem_of_getElem? hm
  simp[f,f1,f2,yn _ _ _ 3 b 0 ns.length ns.length 3 .i64 (i:Int) (Int.natCast_nonneg _) ei,yn _ _ _ 3 b 0 ns.length ns.length 3 .i64 (p:Int) (Int.natCast_nonneg _) ep]
  refine (zdv j9 dR (dA m hmem) i).mono ?_
  rintro _ K' ⟨rfl,bU⟩
  rw[bU]
  clear bU K'
  rw[hix]
  have w1:wr .i64 ((k:Int)+1)=(k:Int)+1:=zT (by have:=dA m hmem;omega) (by have:=dA m hmem;omega)
  simp[f2,w1]
  cases A3:kb p with
  | none=>rw[A3]at dR;rw[dR.2]at hk;simp at hk
  | some q =>
   rw[A3]at dR
   refine (zby kf dR (dA m hmem) hk).mono ?_
   rintro w K' ⟨sp',hw,bU⟩
   obtain⟨kv',kb',oN,OA⟩:=o.IU hm hnb hw (.inl A3) (fun r hr _=>by rw[bU,zb _ _ _ hr])
   have hlt:p * 3+2<(yN ns kv 0).length:=by rw[wi];omega
   simp
   rw[zD OA hlt hw.cellsOf]
   have e9:zaD ns p i=ns.set p { m with kids:=m.kids.eraseIdx k }:=by simp[zaD,hm,hix]
   rw[e9]at hQ
   exact⟨_,oN.shut,hQ⟩
theorem UV (hf:kC F)(e:L t=some (.abs (xG t ns)))(dA:∀n∈ns,n.kids.length≤1000000){i:Nat}(hi:i<ns.length)(hok:∀n:Nd,ns[i]?=some n→n.linked=true→∃(p:Nat) (m:Nd) (k:Nat),n.parent=(p:Int)∧ns[p]?=some m∧p≠i∧k<m.kids.length∧Fj m.kids i 0=(k:Int)):zd F eN [.p (some (t,0)),.i .i64 i] L fun v L'=>v=.b (vA ns i).2∧L'=L.put t (.abs (xG t (vA ns i).1)):=by
 refine zr ?_
 intro Q hQ
 apply Z6 e
 intro sv kv nb kb K o
 have eW:=o.back e
 have hn:ns[i]?=some ns[i]:=List.getElem?_eq_getElem hi
 have f:aq K (t,0) none=some sv:=by rw[zj o.root];rfl
 apply Q7 hf.code
 unfold tY tX
 refine (Zb hf.f119 o i).mono ?_
 rintro _ K' ⟨rfl,bU⟩
 rw[bU]
 clear bU K'
 have hh:YQ ns i=true:=by simp[YQ];omega
 rw[hh]
 cases hnb:nb with
 | none=>have:=o.arr;rw[hnb]at this;rw[this.2]at hi;simp at hi
 | some b =>
  have ha:=o.arr
  rw[hnb]at ha
  obtain⟨a1,a2,a3,a4,a5⟩:=ha
  have ei:(i:Int)<(ns.length:Int):=by omega
  have f1:aq K (b,i * 3+1) none=some (.b ns[i].linked):=by rw[zj a2];have:=wM ns kv 0 i 1 ns[i] hn (by omega);simpa using this
  have hlt:i * 3+1<(yN ns kv 0).length:=by rw[wi];omega
  rw[a1]at f
  cases hlk:ns[i].linked
  ·have:=hQ (.b false) L ⟨by simp[vA,hn,hlk],by simp[vA,hn,hlk,ye L t _ e]⟩
   simp[f,f1,hlk,yn _ _ _ 3 b 0 ns.length ns.length 3 .i64 (i:Int) (Int.natCast_nonneg _) ei]
   exact⟨_,eW,this⟩
  ·obtain⟨p,m,k,hp,hm,hpi,hk,hix⟩:=hok ns[i] hn hlk
   have oN:=o.link hn hnb false
   have hun:US ns i=ns.set i { ns[i]with linked:=false }:=by simp[US,hn]
   simp[f,f1,hlk,yn _ _ _ 3 b 0 ns.length ns.length 3 .i64 (i:Int) (Int.natCast_nonneg _) ei]
   unfold tW
   simp[f,yn _ _ _ 3 b 0 ns.length ns.length 3 .i64 (i:Int) (Int.natCast_nonneg _) ei]
   rw[zD a2 hlt rfl]
   refine zql hf.f137 hf.f138 oN ?_ (i:=i) (p:=p) (k:=k) (n:={ ns[i]with linked:=false }) (m:=m) (by rw[List.getElem?_set_self hi]) hp (by rw[List.getElem?_set_ne (Ne.symm hpi)];exact hm) hk hix ?_
   ·intro y hy
    rcases List.mem_or_eq_of_mem_set hy with h | rfl
    ·exact dA y h
    ·exact dA ns[i] (List.getElem_mem hi)
   ·refine hQ _ _ ⟨by simp[vA,hn,hlk],by simp[vA,hn,hlk,hun,hp]⟩
end
end
section
variable {F:Nat→Option aT}
structure One where
 node:Int
 free:Bool
 c:Option Nat
 err:Int
 cause:Int
 when:Int
 has:Bool
 own:Bool
 timer:Int
 deriving DecidableEq
def One.cells (o:One):List AV:=[.i .i64 o.node,.b o.free,ptr o.c,.i .i64 o.err,.i .i64 o.cause,.i .i64 o.when,.b o.has,.b o.own,.i .i64 o.timer]
structure cK where
 node:Int
 prog:Int
 ak:Bool
 deriving DecidableEq
def cK.cells (o:cK):List AV:=[.i .i64 o.node,.i .i64 o.prog,.b o.ak]
structure Cs where
 t:Option Nat
 tree:List Nd
 af:List One
 ai:List cK
 who:Int→Option Int
theorem One.len (o:One):o.cells.length=9:=rfl
theorem cK.len (o:cK):o.cells.length=3:=rfl
theorem One.one (o:One):o.cells.all AV.one=true:=rfl
structure aU (c:Nat)(σ:Cs)(t mb:Nat)(aW aZ:AV)(M:Lg):Prop where
 root:M c=some (.raw (.cells [ptr σ.t,.p (some (t,0)),aW,aZ,.m (some mb)]))
 tree:M t=some (.abs (xG t σ.tree))
 map:∃es,M mb=some (.raw (.map es))∧Fb es σ.who
 af:bu M aW (zl One.cells σ.af) σ.af.length 9
 ai:bu M aZ (zl cK.cells σ.ai) σ.ai.length 3
 n1:c≠t
 n2:c≠mb
 n3:t≠mb
 no:∀b,au aW=some b→b≠c∧b≠t∧b≠mb
 na:∀b,au aZ=some b→b≠c∧b≠t∧b≠mb∧au aW≠some b
 dom:∀b,M b≠none→b=c∨b=t∨b=mb∨au aW=some b∨au aZ=some b
def YG (c:Nat)(σ:Cs):Hp→Prop:=zgU fun M=>∃t mb aW aZ,aU c σ t mb aW aZ M
section
variable {M L:Lg} {c t mb:Nat} {aW aZ:AV} {σ:Cs} {Q:AV→Lg→Prop}
theorem yB {f:Nat}{vs:List AV}(e:L c=some (.abs (YG c σ)))(H:∀M t mb aW aZ,aU c σ t mb aW aZ M→yk M L c→zd F f vs (M.ak L) Q):zd F f vs L Q:=by
 refine zbS e ?_ ?_
 ·rintro M ⟨t,mb,aW,aZ,h⟩;rw[h.root];simp
 ·rintro M ⟨t,mb,aW,aZ,h⟩ ha;exact H M t mb aW aZ h ha
theorem aU.shut (h:aU c σ t mb aW aZ M)(ha:yk M L c):zx (M.ak L) (L.put c (.abs (YG c σ))):=VO ⟨t,mb,aW,aZ,h⟩ ⟨_,h.root⟩ ha
theorem aU.back (h:aU c σ t mb aW aZ M)(ha:yk M L c)(e:L c=some (.abs (YG c σ))):zx (M.ak L) L:=zdT ⟨t,mb,aW,aZ,h⟩ ⟨_,h.root⟩ ha e
theorem aU.f0 (h:aU c σ t mb aW aZ M)(L:Lg):aq (M.ak L) (c,0) none=some (ptr σ.t):=by rw[zj (z8 h.root)];rfl
theorem aU.f1 (h:aU c σ t mb aW aZ M)(L:Lg):aq (M.ak L) (c,1) none=some (.p (some (t,0))):=by rw[zj (z8 h.root)];rfl
theorem aU.f2 (h:aU c σ t mb aW aZ M)(L:Lg):aq (M.ak L) (c,2) none=some aW:=by rw[zj (z8 h.root)];rfl
theorem aU.f3 (h:aU c σ t mb aW aZ M)(L:Lg):aq (M.ak L) (c,3) none=some aZ:=by rw[zj (z8 h.root)];rfl
theorem aU.f4 (h:aU c σ t mb aW aZ M)(L:Lg):aq (M.ak L) (c,4) none=some (.m (some mb)):=by rw[zj (z8 h.root)];rfl
theorem aU.fo (h:aU c σ t mb aW aZ M){i:Nat}{o:One}(hi:σ.af[i]?=some o):∃b,au aW=some b∧M b=some (.raw (.cells (zl One.cells σ.af))) ∧
  (∀(L:Lg) (k:AV→Lg→Prop),za F (.aX 9) [aW,.i .i64 i] L k=k (.p (some (b,i * 9))) L)∧(∀(L:Lg) (j:Nat),j<9→aq (M.ak L) (b,i * 9+j) none=o.cells[j]?)∧∀(L:Lg),aq (M.ak L) (b,i * 9) (some 9)=some (.agg o.cells):=by
 have hl:i<σ.af.length:=(List.getElem?_eq_some_iff.1 hi).1
 obtain⟨b,h1,h2,h3,h4⟩:=h.af.aX (F:=F) (x:=(i:Int)) (by omega) (by omega)
 have h5:=xT One.len σ.af i o hi
 refine⟨b,h1,h2,fun L k=>by simpa using h4 L k .i64,fun L j hj=>?_,fun L=>?_⟩
 ·rw[zj (z8 h2),vw One.len σ.af i j o hi hj]
 ·rw[yc (z8 h2) h5.2,h5.1]
theorem aU.fa (h:aU c σ t mb aW aZ M){i:Nat}{o:cK}(hi:σ.ai[i]?=some o):∃b,au aZ=some b∧M b=some (.raw (.cells (zl cK.cells σ.ai))) ∧
  (∀(L:Lg) (k:AV→Lg→Prop),za F (.aX 3) [aZ,.i .i64 i] L k=k (.p (some (b,i * 3))) L)∧(∀(L:Lg) (j:Nat),j<3→aq (M.ak L) (b,i * 3+j) none=o.cells[j]?):=by
 have hl:i<σ.ai.length:=(List.getElem?_eq_some_iff.1 hi).1
 obtain⟨b,h1,h2,h3,h4⟩:=h.ai.aX (F:=F) (x:=(i:Int)) (by omega) (by omega)
 refine⟨b,h1,h2,fun L k=>by simpa using h4 L k .i64,fun L j hj=>?_⟩
 ·rw[zj (z8 h2),vw cK.len σ.ai i j o hi hj]
theorem aU.aD (h:aU c σ t mb aW aZ M)(ns:List Nd):aU c { σ with tree:=ns } t mb aW aZ (M.put t (.abs (xG t ns))):=by
 refine⟨by rw[zb _ _ _ h.n1];exact h.root,ze _ _ _,?_,h.af.mono fun b hb=>zb _ _ _ (h.no b hb).2.1,h.ai.mono fun b hb=>zb _ _ _ (h.na b hb).2.1,h.n1,h.n2,h.n3,h.no,h.na,?_⟩
 ·obtain⟨es,h1,h2⟩:=h.map;exact⟨es,by rw[zb _ _ _ (Ne.symm h.n3)];exact h1,h2⟩
 ·intro b hb
  by_cases e:b=t
  ·exact .inr (.inl e)
  ·rw[zb _ _ _ e]at hb;exact h.dom b hb
theorem aU.IE (h:aU c σ t mb aW aZ M){es:List (AV×AV)}{w:Int→Option Int}(he:Fb es w):aU c { σ with who:=w } t mb aW aZ (M.put mb (.raw (.map es))):=by
 refine⟨by rw[zb _ _ _ h.n2];exact h.root,by rw[zb _ _ _ h.n3];exact h.tree,⟨es,ze _ _ _,he⟩,h.af.mono fun b hb=>zb _ _ _ (h.no b hb).2.2,h.ai.mono fun b hb=>zb _ _ _ (h.na b hb).2.2.1,h.n1,h.n2,h.n3,h.no,h.na,?_⟩
 ·intro b hb
  by_cases e:b=mb
  ·exact .inr (.inr (.inl e))
  ·rw[zb _ _ _ e]at hb;exact h.dom b hb
theorem aU.aB (h:aU c σ t mb aW aZ M){b i j:Nat}{o o':One}{v:AV}(hi:σ.af[i]?=some o)(hb:au aW=some b)(hj:j<9)(e:o.cells.set j v=o'.cells) :
  aU c { σ with af:=σ.af.set i o' } t mb aW aZ (M.put b (.raw (.cells ((zl One.cells σ.af).set (i * 9+j) v)))):=by
 have hn:=h.no b hb
 have hf:=xm One.len σ.af i o o' j v hi hj e
 refine⟨by rw[zb _ _ _ (Ne.symm hn.1)];exact h.root,by rw[zb _ _ _ (Ne.symm hn.2.1)];exact h.tree,?_,?_,h.ai.mono fun b' hb'=>zb _ _ _ (fun h9=>(h.na b' hb').2.2.2 (by rw[h9];exact hb)),h.n1,h.n2,h.n3,h.no,h.na,?_⟩
 ·obtain⟨es,h1,h2⟩:=h.map;exact⟨es,by rw[zb _ _ _ (Ne.symm hn.2.2)];exact h1,h2⟩
 ·rcases h.af with⟨h1,h2,h3⟩ | ⟨b',ex,h1,h2,h3,h4,h5⟩
  ·rw[h3]at hb;cases hb
  ·rw[h2]at hb;simp[au]at hb;subst hb
   exact .inr ⟨b',ex,by simpa using h1,by simpa using h2,h3,by rw[ze,hf],by rw[←hf];simpa using h5⟩
 ·intro q hq
  by_cases e:q=b
  ·subst e;exact .inr (.inr (.inr (.inl hb)))
  ·rw[zb _ _ _ e]at hq;exact h.dom q hq
theorem aU.od (h:aU c σ t mb aW aZ M){b i j:Nat}{o o':cK}{v:AV}(hi:σ.ai[i]?=some o)(hb:au aZ=some b)(hj:j<3)(e:o.cells.set j v=o'.cells) :
  aU c { σ with ai:=σ.ai.set i o' } t mb aW aZ (M.put b (.raw (.cells ((zl cK.cells σ.ai).set (i * 3+j) v)))):=by
 have hn:=h.na b hb
 have hf:=xm cK.len σ.ai i o o' j v hi hj e
 refine⟨by rw[zb _ _ _ (Ne.symm hn.1)];exact h.root,by rw[zb _ _ _ (Ne.symm hn.2.1)];exact h.tree,?_,h.af.mono fun b' hb'=>zb _ _ _ (fun h9=>hn.2.2.2 (by rw[←h9];exact hb')),?_,h.n1,h.n2,h.n3,h.no,h.na,?_⟩
 ·obtain⟨es,h1,h2⟩:=h.map;exact⟨es,by rw[zb _ _ _ (Ne.symm hn.2.2.1)];exact h1,h2⟩
 ·rcases h.ai with⟨h1,h2,h3⟩ | ⟨b',ex,h1,h2,h3,h4,h5⟩
  ·rw[h3]at hb;cases hb
  ·rw[h2]at hb;simp[au]at hb;subst hb
   exact .inr ⟨b',ex,by simpa using h1,by simpa using h2,h3,by rw[ze,hf],by rw[←hf];simpa using h5⟩
 ·intro q hq
  by_cases e:q=b
  ·subst e;exact .inr (.inr (.inr (.inr hb)))
  ·rw[zb _ _ _ e]at hq;exact h.dom q hq
theorem aU.fresh (h:aU c σ t mb aW aZ M){b:Nat}(hb:M b=none):b≠c∧b≠t∧b≠mb∧au aW≠some b∧au aZ≠some b:=by
 refine⟨?_,?_,?_,?_,?_⟩
 ·rintro rfl;rw[h.root]at hb;cases hb
 ·rintro rfl;rw[h.tree]at hb;cases hb
 ·rintro rfl;obtain⟨es,h1,_⟩:=h.map;rw[h1]at hb;cases hb
 ·intro h9;have:=h.af.block h9;rw[hb]at this;cases this
 ·intro h9;have:=h.ai.block h9;rw[hb]at this;cases this
theorem aU.grow (h:aU c σ t mb aW aZ M){o:One}{b:Nat}(hap:yk M L c){K1:Lg}(g:Grown (M.ak L) aW b (zl One.cells σ.af++o.cells) K1):∃M1,aU c { σ with af:=σ.af++[o] } t mb (.sl (some (b,0)) (σ.af.length+1) (σ.af.length+1) 9) aZ M1∧yk M1 L c∧zx (K1.put c (.raw (.cells [ptr σ.t,.p (some (t,0)),.sl (some (b,0)) (σ.af.length+1) (σ.af.length+1) 9,aZ,.m (some mb)]))) (M1.ak L):=by
 have SB:=yI.1 g.fresh
 have fr:=h.fresh SB.1
 let M0:Lg:=fun r=>if au aW=some r then none else M r
 have hM0:∀r,au aW≠some r→M0 r=M r:=fun r hr=>by simp[M0,hr]
 have FX:∀r,au aW=some r→M0 r=none:=fun r hr=>by simp[M0,hr]
 let M1:Lg:=(M0.put b (.raw (.cells (zl One.cells σ.af++o.cells)))).put c (.raw (.cells [ptr σ.t,.p (some (t,0)),.sl (some (b,0)) (σ.af.length+1) (σ.af.length+1) 9,aZ,.m (some mb)]))
 have e1:∀r,r≠b→r≠c→au aW≠some r→M1 r=M r:=fun r h1 h2 h3=>by
  show (Lg.put _ _ _) r=_
  rw[zb _ _ _ h2,zb _ _ _ h1,hM0 r h3]
 have eb:M1 b=some (.raw (.cells (zl One.cells σ.af++o.cells))):=by
  show (Lg.put _ _ _) b=_
  rw[zb _ _ _ fr.1,ze]
 have hfl:zl One.cells (σ.af++[o])=zl One.cells σ.af++o.cells:=by rw[zU];simp[zl]
 have hlen:(zl One.cells σ.af++o.cells).length=(σ.af.length+1) * 9:=by rw[List.length_append,zY One.len,One.len];omega
 have nt:au aW≠some t:=fun h9=>(h.no t h9).2.1 rfl
 have nm:au aW≠some mb:=fun h9=>(h.no mb h9).2.2 rfl
 refine⟨M1,⟨ze _ _ _,by rw[e1 t (Ne.symm fr.2.1) (Ne.symm h.n1) nt];exact h.tree,?_,?_,?_,h.n1,h.n2,h.n3,?_,?_,?_⟩,?_,?_⟩
 ·obtain⟨es,h1,h2⟩:=h.map
  exact⟨es,by rw[e1 mb (Ne.symm fr.2.2.1) (Ne.symm h.n2) nm];exact h1,h2⟩
 ·exact .inr ⟨b,9,by simp,by simp,.inr rfl,by rw[eb,hfl],by rw[hfl];simpa using hlen⟩
 ·refine h.ai.mono fun b' hb'=>e1 b' ?_ (h.na b' hb').1 (h.na b' hb').2.2.2
  rintro rfl;exact fr.2.2.2.2 hb'
 ·intro b' hb';simp[au]at hb';subst hb';exact⟨fr.1,fr.2.1,fr.2.2.1⟩
 ·intro b' hb'
  have:=h.na b' hb'
  refine⟨this.1,this.2.1,this.2.2.1,?_⟩
  intro h9;simp[au]at h9;subst h9;exact fr.2.2.2.2 hb'
 ·intro q hq
  by_cases q1:q=c
  ·exact .inl q1
  by_cases q2:q=b
  ·subst q2;exact .inr (.inr (.inr (.inl rfl)))
  by_cases q3:au aW=some q
  ·exfalso;apply hq
   show (Lg.put _ _ _) q=_
   rw[zb _ _ _ q1,zb _ _ _ q2,FX q q3]
  rw[e1 q q2 q1 q3]at hq
  rcases h.dom q hq with h9 | h9 | h9 | h9 | h9
  ·exact absurd h9 q1
  ·exact .inr (.inl h9)
  ·exact .inr (.inr (.inl h9))
  ·exact absurd h9 q3
  ·exact .inr (.inr (.inr (.inr h9)))
 ·intro q hq hM
  by_cases q2:q=b
  ·subst q2;exact SB.2
  by_cases q3:au aW=some q
  ·exfalso;apply hM
   show (Lg.put _ _ _) q=_
   rw[zb _ _ _ hq,zb _ _ _ q2,FX q q3]
  rw[e1 q q2 hq q3]at hM
  exact hap q hq hM
 ·apply zx.drop
  intro r d hr
  by_cases q1:r=c
  ·subst q1
   rw[z8 (d:=_) (ze _ _ _)]at hr
   rw[ze];exact hr
  rw[zb _ _ _ q1]
  by_cases q2:r=b
  ·subst q2;rw[z8 eb]at hr;rw[g.now];exact hr
  by_cases q3:au aW=some r
  ·exfalso
   have hz:M1 r=none:=by
    show (Lg.put _ _ _) r=_
    rw[zb _ _ _ q1,zb _ _ _ q2,FX r q3]
   rw[yG hz]at hr
   have:=hap r q1 (by rw[h.af.block q3];simp)
   rw[this]at hr;cases hr
  rw[g.same r q2 q3]
  unfold Lg.ak at hr ⊢
  rw[e1 r q2 q1 q3]at hr
  exact hr
def Cs.has (σ:Cs)(id:Int):Bool:=decide (0≤id)&&decide (id<σ.af.length)
theorem xF (hf:eu F)(h:aU c σ t mb aW aZ M)(L:Lg)(id:Int):zd F cX [.p (some (c,0)),.i .i64 id] (M.ak L) fun v K'=>v=.b (σ.has id)∧K'=M.ak L:=by
 refine zr ?_
 intro Q hQ
 apply Ri hf.code
 unfold uD
 by_cases c1:0≤id
 ·simp[c1,h.f2 L,h.af.len]
  exact⟨_,zx.refl _,hQ _ _ ⟨by simp[Cs.has,c1],rfl⟩⟩
 ·simp[c1]
  exact⟨_,zx.refl _,hQ _ _ ⟨by simp[Cs.has,c1],rfl⟩⟩
def Cs.room (σ:Cs)(id:Int):Int:=if σ.has id=false then 4 else if 64≤σ.af.length then 3 else 0
theorem Zu (hf:pR F)(h:aU c σ t mb aW aZ M)(L:Lg)(id:Int):zd F fy [.p (some (c,0)),.i .i64 id] (M.ak L) fun v K'=>v=.i .i64 (σ.room id)∧K'=M.ak L:=by
 refine zr ?_
 intro Q hQ
 apply Rh hf.code
 unfold uC
 refine (xF hf.f127 h L id).mono ?_
 rintro _ K' ⟨rfl,bU⟩
 rw[bU]
 clear bU K'
 cases hh:σ.has id
 ·simp[hh]
  exact⟨_,zx.refl _,hQ _ _ ⟨by simp[Cs.room,hh],rfl⟩⟩
 ·by_cases h6:64≤σ.af.length
  ·have:(64:Int)≤(σ.af.length:Int):=by omega
   simp[hh,h.f2 L,h.af.len,this]
   exact⟨_,zx.refl _,hQ _ _ ⟨by simp[Cs.room,hh,h6],rfl⟩⟩
  ·have:¬(64:Int)≤(σ.af.length:Int):=by omega
   simp[hh,h.f2 L,h.af.len,this]
   exact⟨_,zx.refl _,hQ _ _ ⟨by simp[Cs.room,hh,h6],rfl⟩⟩
end
end
section
variable {F:Nat→Option aT}
def Em (ns:List Nd):Bool:=ns.all fun n=>decide (n.kids.length≤1000)
theorem zcE {ns:List Nd}(h:Em ns=true):∀n∈ns,n.kids.length≤1000000:=by
 intro n hn
 have:=(List.all_eq_true.1 h) n hn
 simp at this;omega
def Cs.add (σ:Cs)(o:One)(parent:Int):Cs :=
 let r:=zP σ.tree parent (!o.free)
 { σ with tree:=r.1,who:=yM σ.who r.2.1 (some σ.af.length),af:=σ.af++[{ o with node:=r.2.1,timer:=-1 }] }
section
variable {M L:Lg} {c t mb:Nat} {aW aZ:AV} {σ:Cs} {Q:AV→Lg→Prop}
theorem vK (hf:kD F)(h:aU c σ t mb aW aZ M)(ha:yk M L c)(o:One)(parent:Int)(hk:Em σ.tree=true)(hl:σ.af.length≤1000) :
  zd F eO [.p (some (c,0)),.agg o.cells,.i .i64 parent] (M.ak L) fun v K'=>v=.i .i64 σ.af.length∧∃M' mW,K'=M'.ak L∧aU c (σ.add o parent) t mb mW aZ M'∧yk M' L c:=by
 refine zr ?_
 intro Q hQ
 apply Rn hf.code
 unfold uO uN
 simp
 rw[zL _ _ _ (One.one o)]
 intro b4 hb4
 have HT:=yI.1 hb4
 have fr:=h.fresh HT.1
 rw[yH HT.1]
 have ha4:=ha.dx HT.1 (.raw (.cells o.cells))
 have g1:aq (M.ak (L.put b4 (.raw (.cells o.cells)))) (b4,1) none=some (.b o.free):=by rw[zj (by rw[yG HT.1,ze])];rfl
 simp[h.f1 _,g1]
 refine (Y0 hf.f120 (z8 h.tree) (zcE hk) parent (!o.free)).mono ?_
 rintro _ K' ⟨rfl,bU⟩
 rw[xt]at bU
 rw[bU]
 clear bU K'
 have h2:=h.aD (zP σ.tree parent (!o.free)).1
 have By:=ha4.own (b:=t) (by rw[h.tree];simp) (.abs (xG t (zP σ.tree parent (!o.free)).1))
 generalize hr:zP σ.tree parent (!o.free)=r at h2 By
 have hm4:(M.put t (.abs (xG t r.1))) b4=none:=by rw[zb _ _ _ fr.2.1];exact HT.1
 have gb4:∀o1:One,((M.put t (.abs (xG t r.1))).ak (L.put b4 (.raw (.cells o1.cells)))) b4=some (.raw (.cells o1.cells)):=fun o1=>by rw[yG hm4,ze]
 have st4:∀(o1 o2:One) (j:Nat) (v:AV) (k:AV→Lg→Prop),j<9→v.cellsOf=some [v]→o1.cells.set j v=o2.cells→k .bad ((M.put t (.abs (xG t r.1))).ak (L.put b4 (.raw (.cells o2.cells)))) →
   jy 1 ((M.put t (.abs (xG t r.1))).ak (L.put b4 (.raw (.cells o1.cells)))) k [.p (some (b4,j)),v]:=by
  intro o1 o2 j v k hj hv he hk
  rw[zD (gb4 o1) (by rw[One.len];exact hj) hv,yH hm4,zA,he]
  exact hk
 simp
 refine st4 o { o with node:=r.2.1 } 0 _ _ (by omega) rfl rfl ?_
 unfold uM
 simp
 refine st4 _ { o with node:=r.2.1,timer:=-1 } 8 _ _ (by omega) rfl rfl ?_
 generalize u9:({ o with node:=r.2.1,timer:=-1 }:One)=o3
 have LY:o3.node=r.2.1:=by rw[←u9]
 have ha3:yk (M.put t (.abs (xG t r.1))) (L.put b4 (.raw (.cells o3.cells))) c:=by
  have:=By.dx hm4 (.raw (.cells o3.cells))
  rwa [zA]at this
 have g0:aq ((M.put t (.abs (xG t r.1))).ak (L.put b4 (.raw (.cells o3.cells)))) (b4,0) none=some (.i .i64 r.2.1):=by rw[zj (gb4 o3),←LY];rfl
 obtain⟨es,m1,m2⟩:=h2.map
 obtain⟨es',s1,s2⟩:=m2.set r.2.1 (σ.af.length:Int)
 simp[h2.f4,h2.f2,g0,h2.af.len,Ug,z8 m1,s1]
 rw[xt]
 have h3:=h2.IE s2
 have ha5:=ha3.own (b:=mb) (by rw[m1];simp) (.raw (.map es'))
 have hm5:((M.put t (.abs (xG t r.1))).put mb (.raw (.map es'))) b4=none:=by rw[zb _ _ _ fr.2.2.1];exact hm4
 generalize ((M.put t (.abs (xG t r.1))).put mb (.raw (.map es')))=M3 at h3 ha5 hm5
 have gg:(M3.ak (L.put b4 (.raw (.cells o3.cells)))) b4=some (.raw (.cells o3.cells)):=by rw[yG hm5,ze]
 have g9:aq (M3.ak (L.put b4 (.raw (.cells o3.cells)))) (b4,0) (some 9)=some (.agg o3.cells):=by rw[yc gg (by rw[One.len];omega)];rfl
 simp[h3.f2,g9]
 rw[yg (c:=o3.cells) _ _ (by simp[y7,zF,zo,zp,zq,AV.cellsOf,One.cells]) (One.one o3)]
 intro b5 hb5
 have m7:=yI.1 hb5
 rw[yH m7.1]
 have ha6:=ha5.dx m7.1 (.raw (.cells o3.cells))
 have gg5:(M3.ak ((L.put b4 (.raw (.cells o3.cells))).put b5 (.raw (.cells o3.cells)))) b5=some (.raw (.cells o3.cells)):=by rw[yG m7.1,ze]
 have hL5:∀r d,((L.put b4 (.raw (.cells o3.cells))).put b5 (.raw (.cells o3.cells))) r=some d∨L r=some d→r≠b4→r≠b5→L r=some d:=by
  intro r d hr h4 h5
  rcases hr with hr | hr
  ·rwa [zb _ _ _ h5,zb _ _ _ h4]at hr
  ·exact hr
 have Eo:b5≠b4:=by rintro rfl;have:=m7.2;rw[ze]at this;cases this
 have sL:∀X:Lg,zx (X.ak ((L.put b4 (.raw (.cells o3.cells))).put b5 (.raw (.cells o3.cells)))) (X.ak L):=by
  intro X
  refine (zx.Ey m7.2 _).trans (zx.Ey HT.2 _)
 generalize hLL:(L.put b4 (.raw (.cells o3.cells))).put b5 (.raw (.cells o3.cells))=LL at ha6 gg5 sL
 have bP:bu (M3.ak LL) aW (zl One.cells σ.af) σ.af.length 9:=h3.af.mono fun b hb=>by
  have:=h3.af.block hb
  rw[this];exact z8 this
 simp
 refine bP.app (m:=1) (by omega) rfl (by omega) (new:=o3.cells) (by simp[zH,gg5,AB.read,cut,zp,One.len];rw[←One.len o3,List.take_length]) (One.len o3) (One.one o3) (by omega) ?_
 intro b K1 gr _
 have SB:=yI.1 gr.fresh
 have frb:=h3.fresh SB.1
 obtain⟨M1,h7,ha7,hs7⟩:=h3.grow ha6 gr
 have hKc:K1 c=some (.raw (.cells [ptr σ.t,.p (some (t,0)),aW,aZ,.m (some mb)])):=by
  rw[gr.same c (Ne.symm frb.1) (fun h9=>(h3.no c h9).1 rfl)]
  exact z8 h3.root
 simp
 rw[zD hKc (by simp) rfl]
 have fin:aq (K1.put c (.raw (.cells ([ptr σ.t,.p (some (t,0)),aW,aZ,.m (some mb)].set 2 (.sl (some (b,0)) (σ.af.length+1) (σ.af.length+1) 9))))) (c,2) none=some (.sl (some (b,0)) (σ.af.length+1) (σ.af.length+1) 9):=by
  rw[zj (ze _ _ _)];rfl
 have w1:wr .i64 (σ.af.length:Int)=(σ.af.length:Int):=zT (by omega) (by omega)
 simp only[List.set_cons_succ,List.set_cons_zero]at fin
 simp[fin,w1]
 refine⟨M1.ak L,hs7.trans ?_,hQ _ _ ⟨by first | rfl | rw[w1],M1,.sl (some (b,0)) (σ.af.length+1) (σ.af.length+1) 9,rfl,?_,?_⟩⟩
 ·exact sL M1
 ·have:σ.add o parent={ ({ ({ σ with tree:=r.1 }:Cs)with who:=yM σ.who r.2.1 (some (σ.af.length:Int)) }:Cs)with af:=σ.af++[o3] }:=by
   simp[Cs.add,hr,u9]
  rw[this];exact h7
 ·intro q hq hM
  have:=ha7 q hq hM
  rw[←hLL]at this
  cases TC:L q with
  | none=>rfl
  | some d =>
   exfalso
   by_cases e5:q=b5
   ·subst e5;rw[ze]at this;cases this
   by_cases e4:q=b4
   ·subst e4;rw[zb _ _ _ e5,ze]at this;cases this
   rw[zb _ _ _ e5,zb _ _ _ e4,TC]at this;cases this
def RN (ns:List Nd)(i:Nat):Bool:=match ns[i]? with
 | some n=>!n.linked||(decide (0≤n.parent)&&decide (n.parent.toNat≠i)&&match ns[n.parent.toNat]? with
  | some m=>decide (0≤Fj m.kids i 0)
  | none=>false)
 | none=>false
theorem ze4 (x:Int):∀(l:List Int) (k:Nat),Fj l x k=-1∨(∃j:Nat,Fj l x k=(j:Int)∧k≤j∧j<k+l.length)
 | [],k=>.inl rfl
 | y::r,k=>by
  unfold Fj
  by_cases h:x=y
  ·rw[if_pos h];exact .inr ⟨k,rfl,Nat.le_refl _,by simp⟩
  ·rw[if_neg h]
   rcases ze4 x r (k+1)with h1 | ⟨j,h1,h2,h3⟩
   ·exact .inl h1
   ·exact .inr ⟨j,h1,by omega,by simp;omega⟩
def Ir (ns:List Nd)(i:Int):Option (List Nd):=if 0≤i∧RN ns i.toNat=true∧Em ns=true then some (vA ns i.toNat).1 else none
theorem Wq (hf:kC F){K:Lg}{t:Nat}{ns ns':List Nd}{i:Int}(e:K t=some (.abs (xG t ns)))(h:Ir ns i=some ns'):zd F eN [.p (some (t,0)),.i .i64 i] K fun v K'=>K'=K.put t (.abs (xG t ns')):=by
 unfold Ir at h
 split at h
 ·rename_i hc
  obtain⟨h0,h1,h2⟩:=hc
  obtain⟨j,rfl⟩:=Int.eq_ofNat_of_zero_le h0
  simp only[Int.toNat_natCast]at h h1
  cases h
  have hj:j<ns.length:=by
   rcases Nat.lt_or_ge j ns.length with h9 | h9
   ·exact h9
   ·unfold RN at h1;rw[List.getElem?_eq_none h9]at h1;cases h1
  refine (UV hf e (zcE h2) hj ?_).mono fun v K' h=>h.2
  intro n hn hl
  unfold RN at h1
  rw[hn]at h1
  simp[hl]at h1
  obtain⟨⟨q0,q1⟩,q2⟩:=h1
  obtain⟨p,hp⟩:=Int.eq_ofNat_of_zero_le q0
  rw[hp]at q1 q2
  simp only[Int.toNat_natCast]at q1 q2
  cases hm:ns[p]? with
  | none=>rw[hm]at q2;cases q2
  | some m =>
   rw[hm]at q2
   simp at q2
   rcases ze4 j m.kids 0 with h5 | ⟨k,h5,_,h6⟩
   ·rw[h5]at q2;omega
   ·exact⟨p,m,k,hp,hm,q1,by omega,h5⟩
 ·cases h
def Cs.dJ (σ:Cs)(k:Int):Option (Cs×(Int×Int)) :=
 if 0≤k then match σ.ai[k.toNat]? with
  | some x=>match Ir σ.tree x.node with
   | some ns=>some ({ σ with ai:=σ.ai.set k.toNat { x with ak:=true },tree:=ns },(k,x.prog))
   | none=>none
  | none=>none
 else none
theorem Yz (hf:pO F)(h:aU c σ t mb aW aZ M)(ha:yk M L c){k:Int}{σ':Cs}{st:Int×Int}(hp:σ.dJ k=some (σ',st)) :
  zd F hH [.p (some (c,0)),.i .i64 k] (M.ak L) fun v K'=>v=.agg [.i .i64 st.1,.i .i64 st.2]∧∃M',K'=M'.ak L∧aU c σ' t mb aW aZ M'∧yk M' L c:=by
 refine zr ?_
 intro Q hQ
 unfold Cs.dJ at hp
 split at hp
 case isFalse=>cases hp
 rename_i h0
 obtain⟨i,rfl⟩:=Int.eq_ofNat_of_zero_le h0
 simp only[Int.toNat_natCast]at hp
 split at hp
 case h_2=>cases hp
 rename_i x hx
 split at hp
 case h_2=>cases hp
 rename_i ns hns
 cases hp
 apply Q6 hf.code
 unfold tV
 simp
 intro b0 hb0
 have EM:=yI.1 hb0
 have fr:=h.fresh EM.1
 rw[yH EM.1]
 have ha1:=ha.dx EM.1 (.raw (.cells [.i .i64 0,.i .i64 0]))
 have sL:∀(X:Lg) d,zx (X.ak (L.put b0 d)) (X.ak L):=fun X d=>zx.Ey EM.2 _
 obtain⟨b,a1,a2,a3,a4⟩:=h.fa (F:=F) hx
 simp[h.f3,a3]
 have hlt:i * 3+2<(zl cK.cells σ.ai).length:=by have:=xT cK.len σ.ai i x hx;omega
 rw[zD (z8 a2) hlt rfl,xt]
 have h2:=h.od (o':={ x with ak:=true }) hx a1 (j:=2) (v:=.b true) (by omega) rfl
 have By:=ha1.own (b:=b) (by rw[a2];simp) (.raw (.cells ((zl cK.cells σ.ai).set (i * 3+2) (.b true))))
 have hnb:b≠b0:=by rintro rfl;rw[a2]at EM;cases EM.1
 have hm0:(M.put b (.raw (.cells ((zl cK.cells σ.ai).set (i * 3+2) (.b true))))) b0=none:=by rw[zb _ _ _ (Ne.symm hnb)];exact EM.1
 generalize (M.put b (.raw (.cells ((zl cK.cells σ.ai).set (i * 3+2) (.b true)))))=M2 at h2 By hm0
 have FF:({ σ with ai:=σ.ai.set i { x with ak:=true } }:Cs).ai[i]?=some { x with ak:=true }:=by
  have:i<σ.ai.length:=(List.getElem?_eq_some_iff.1 hx).1
  simp[this]
 obtain⟨b',c1,c2,c3,c4⟩:=h2.fa (F:=F) FF
 rw[a1]at c1
 cases c1
 have r0:∀X,aq (M2.ak X) (b,i * 3) none=some (.i .i64 x.node):=fun X=>by simpa[cK.cells]using c4 X 0 (by omega)
 simp[h2.f1,r0]
 refine (Wq hf.f139 (z8 h2.tree) hns).mono ?_
 rintro _ K' bU
 rw[xt]at bU
 rw[bU]
 clear bU K'
 have h3:=h2.aD ns
 have ha3:=By.own (b:=t) (by rw[h2.tree];simp) (.abs (xG t ns))
 have MX:(M2.put t (.abs (xG t ns))) b0=none:=by rw[zb _ _ _ fr.2.1];exact hm0
 generalize M2.put t (.abs (xG t ns))=M3 at h3 ha3 MX
 obtain⟨b',c1,c2,c3,c4⟩:=h3.fa (F:=F) FF
 rw[a1]at c1
 cases c1
 have r1:∀X,aq (M3.ak X) (b,i * 3+1) none=some (.i .i64 x.prog):=fun X=>by simpa[cK.cells]using c4 X 1 (by omega)
 have gb0:(M3.ak (L.put b0 (.raw (.cells [.i .i64 0,.i .i64 0])))) b0=some (.raw (.cells [.i .i64 0,.i .i64 0])):=by rw[yG MX,ze]
 simp[r1,zF,zo,zp,zq,AV.cellsOf]
 rw[zu (n:=2) gb0 (by simp) rfl (by simp),yH MX,zA]
 have gb1:(M3.ak (L.put b0 (.raw (.cells [.i .i64 i,.i .i64 x.prog])))) b0=some (.raw (.cells [.i .i64 i,.i .i64 x.prog])):=by rw[yG MX,ze]
 have:yz Env.nil Env.nil (M3.ak (L.put b0 (.raw (.cells [.i .i64 i,.i .i64 x.prog])))) [.cell (.c (.p (some (b0,0)))) (some 2)]=some (.agg [.i .i64 i,.i .i64 x.prog]):=by
  simp[yz,Qd,YM,yc gb1]
 simp[zo,this]
 refine⟨M3.ak L,sL _ _,hQ _ _ ⟨rfl,M3,rfl,h3,?_⟩⟩
 intro q hq hM
 have:=ha3 q hq hM
 by_cases e:q=b0
 ·subst e;exact EM.2
 ·rwa [zb _ _ _ e]at this
end
end
section
variable {F:Nat→Option aT}
structure cx where
 id:Int
 err:Int
 cause:Int
 bG:List Wk
structure CX where
 σ:Cs
 τ:bk
 χ:Nat→Ch
def xd (f:Nat→Ch)(a:Nat)(x:Ch):Nat→Ch:=fun b=>if b=a then x else f b
def CX.Jz (S:CX):Option Nat→Option (CX×List Wk)
 | none=>some (S,[])
 | some a=>if (S.χ a).recvs.length+(S.χ a).aF.length≤1000000 then some ({ S with χ:=xd S.χ a (S.χ a).cB.1 },(S.χ a).cB.2)else none
def CX.Es (S:CX)(id:Int):Option CX:=match S.σ.t with
 | none=>some S
 | some _=>match S.τ.one id with
  | none=>some S
  | some o=>if o.c=none∧S.τ.x.l.length≤1000000 then some { S with τ:={ S.τ with x:=S.τ.x.stop id } }else none
abbrev Za:=CX×List cx×List (Int×Int)
def U0 (rec:CX→Int→Int→Int→Option Za)(err cause:Int)(acc:Za)(node:Int):Option Za :=
 let who:=(acc.1.σ.who node).getD 0
 if who<0 then
  if -1000000≤who∧acc.2.2.length≤1000000 then match acc.1.σ.dJ (-who-1)with
   | some (σ',st)=>some ({ acc.1 with σ:=σ' },acc.2.1,acc.2.2++[st])
   | none=>none
  else none
 else match rec acc.1 who err cause with
  | some (S',o,t)=>if acc.2.1.length+o.length≤1000000∧acc.2.2.length+t.length≤1000000 then some (S',acc.2.1++o,acc.2.2++t)else none
  | none=>none
def CX.aB (S:CX)(i:Nat)(x:One):CX:={ S with σ:={ S.σ with af:=S.σ.af.set i x } }
def CX.aD (S:CX)(ns:List Nd):CX:={ S with σ:={ S.σ with tree:=ns } }
def CX.az:Nat→CX→Int→Int→Int→Option Za
 | 0,_,_,_,_=>none
 | n+1,S,id,err,cause =>
  if 0≤id then match S.σ.af[id.toNat]? with
   | none=>none
   | some x=>if x.free=true∨x.err≠0 then some (S,[],[])else
    match (S.aB id.toNat { x with err:=err,cause:=cause }).Jz x.c with
    | none=>none
    | some (S1,ws)=>match S1.Es x.timer with
     | none=>none
     | some S2=>if Em S2.σ.tree=true∧(dK S2.σ.tree x.node).length≤1000000 then
       match (dK S2.σ.tree x.node).foldlM (U0 (CX.az n) err cause) (S2,[⟨id,err,cause,ws⟩],[])with
       | none=>none
       | some (S3,out,aJ)=>match Ir S3.σ.tree x.node with
        | none=>none
        | some ns=>some (S3.aD ns,out,aJ)
      else none
  else none
def Cs.names (σ:Cs):List (Option Nat×Int):=σ.af.map fun o=>(o.c,o.node)
structure aY (c:Nat)(S:CX)(L:Lg):Prop where
 bQ:∀s,S.σ.t=some s→s≠c∧L s=some (.abs (Z2 s S.τ))
 bB:∀o∈S.σ.af,∀a,o.c=some a→a≠c∧S.σ.t≠some a∧L a=some (.abs (yy a (S.χ a)))
def dw (σ:Cs)(L L':Lg):Prop:=∀r,L r≠none→σ.t≠some r→(∀o∈σ.af,o.c≠some r)→L' r=L r
structure aR (σ σ':Cs):Prop where
 t:σ'.t=σ.t
 names:σ'.names=σ.names
theorem aR.refl (σ:Cs):aR σ σ:=⟨rfl,rfl⟩
theorem aR.trans {a b d:Cs}(h:aR a b)(k:aR b d):aR a d:=⟨k.t.trans h.t,k.names.trans h.names⟩
theorem aR.get {a b:Cs}(h:aR a b){i:Nat}{o:One}(hi:b.af[i]?=some o):∃o',a.af[i]?=some o'∧o'.c=o.c∧o'.node=o.node:=by
 have:=congrArg (fun l=>l[i]?) h.names
 simp only[Cs.names,List.getElem?_map,hi,Option.map_some]at this
 cases e:a.af[i]? with
 | none=>rw[e]at this;cases this
 | some o'=>rw[e]at this;simp at this;exact⟨o',rfl,this.1.symm,this.2.symm⟩
theorem aR.get' {a b:Cs}(h:aR a b){i:Nat}{o:One}(hi:a.af[i]?=some o):∃o',b.af[i]?=some o'∧o'.c=o.c∧o'.node=o.node:=by
 obtain⟨o',h1,h2,h3⟩:=aR.get (a:=b) (b:=a) ⟨h.t.symm,h.names.symm⟩ hi
 exact⟨o',h1,h2,h3⟩
theorem aR.cs {a b:Cs}(h:aR a b){x:Option Nat}(hx:∃o∈b.af,o.c=x):∃o∈a.af,o.c=x:=by
 obtain⟨o,ho,e⟩:=hx
 obtain⟨i,hi⟩:=List.mem_iff_getElem?.1 ho
 obtain⟨o',h1,h2,_⟩:=h.get hi
 exact⟨o',List.mem_of_getElem? h1,h2.trans e⟩
theorem dw.refl (σ:Cs)(L:Lg):dw σ L L:=fun _ _ _ _=>rfl
theorem dw.trans {σ σ':Cs}{L L1 L2:Lg}(s:aR σ σ')(h:dw σ L L1)(k:dw σ' L1 L2):dw σ L L2:=fun r hr h1 h2=>by
 have e:=h r hr h1 h2
 rw[k r (by rw[e];exact hr) (by rw[s.t];exact h1) (fun o ho h9=>by
  obtain⟨o',h3,h4⟩:=s.cs ⟨o,ho,h9⟩
  exact h2 o' h3 h4),e]
theorem dw.has {c:Nat}{S S':CX}{L L':Lg}(s:aR S.σ S'.σ)(h:dw S.σ L L')(o:aY c S' L'){r:Nat}(hr:L r≠none):L' r≠none:=by
 by_cases h1:S.σ.t=some r
 ·rw[(o.bQ r (by rw[s.t];exact h1)).2];simp
 ·by_cases h2:∃o∈S.σ.af,o.c=some r
  ·obtain⟨o',ho',he⟩:=aR.cs (a:=S'.σ) (b:=S.σ) ⟨s.t.symm,s.names.symm⟩ h2
   rw[(o.bB o' ho' r he).2.2];simp
  ·rw[h r hr h1 (fun o ho h9=>h2 ⟨o,ho,h9⟩)];exact hr
def Fc (p:cx×AV):List AV:=[.i .i64 p.1.id,.i .i64 p.1.err,.i .i64 p.1.cause,p.2]
def nZ (p:Int×Int):List AV:=[.i .i64 p.1,.i .i64 p.2]
theorem VI {α:Type}{f:α→List AV}:∀(a:List α),(∀x∈a,(f x).all AV.one=true)→(zl f a).all AV.one=true
 | [],_=>rfl
 | x::r,h=>by
  simp only[zl,List.all_append,h x (by simp),VI r (fun y hy=>h y (by simp[hy])),Bool.and_self]
theorem Il.one {L:Lg}{v:AV}{ws:List Wk}(h:Il L v ws):v.one=true:=by
 rcases h with⟨_,rfl⟩ | ⟨b,ex,rfl,_⟩<;>rfl
theorem Il.mono {L L':Lg}{v:AV}{ws:List Wk}(h:Il L v ws)(e:∀b,au v=some b→L' b=L b):Il L' v ws:=by
 rcases h with⟨h1,h2⟩ | ⟨b,ex,h1,h2⟩
 ·exact .inl ⟨h1,h2⟩
 ·exact .inr ⟨b,ex,h1,by rw[e b (by rw[h1];rfl)];exact h2⟩
theorem Il.has {L:Lg}{v:AV}{ws:List Wk}(h:Il L v ws){b:Nat}(e:au v=some b):L b≠none:=by
 rcases h with⟨_,rfl⟩ | ⟨b',ex,rfl,h2⟩
 ·cases e
 ·simp[au]at e;subst e;rw[h2];simp
structure cL (L0 K:Lg)(v1 v2:AV)(ps:List (cx×AV))(aJ:List (Int×Int)):Prop where
 o1:bu K v1 (zl Fc ps) ps.length 4
 o2:bu K v2 (zl nZ aJ) aJ.length 2
 ins:∀p∈ps,Il K p.2 p.1.bG∧∀b,au p.2=some b→L0 b=none∧au v1≠some b∧au v2≠some b
 f1:∀b,au v1=some b→L0 b=none∧au v2≠some b
 f2:∀b,au v2=some b→L0 b=none
def UH (L0 K:Lg)(v1 v2:AV)(aN:List cx)(aJ:List (Int×Int)):Prop:=∃ps,ps.map (·.1)=aN∧cL L0 K v1 v2 ps aJ
section
variable {L0 K K':Lg} {v1 v2:AV} {ps:List (cx×AV)} {aJ:List (Int×Int)}
theorem cL.mono (h:cL L0 K v1 v2 ps aJ)(e:∀b,L0 b=none→K b≠none→K' b=K b):cL L0 K' v1 v2 ps aJ :=
 ⟨h.o1.mono fun b hb=>e b (h.f1 b hb).1 (by rw[h.o1.block hb];simp),h.o2.mono fun b hb=>e b (h.f2 b hb) (by rw[h.o2.block hb];simp),fun p hp=>⟨(h.ins p hp).1.mono fun b hb=>e b ((h.ins p hp).2 b hb).1 ((h.ins p hp).1.has hb),(h.ins p hp).2⟩,h.f1,h.f2⟩
theorem cL.low (h:cL L0 K v1 v2 ps aJ){L1:Lg}(e:∀b,L0 b=none→K b≠none→L1 b=none):cL L1 K v1 v2 ps aJ :=
 ⟨h.o1,h.o2,fun p hp=>⟨(h.ins p hp).1,fun b hb=>⟨e b ((h.ins p hp).2 b hb).1 ((h.ins p hp).1.has hb),((h.ins p hp).2 b hb).2⟩⟩,fun b hb=>⟨e b (h.f1 b hb).1 (by rw[h.o1.block hb];simp),(h.f1 b hb).2⟩,fun b hb=>e b (h.f2 b hb) (by rw[h.o2.block hb];simp)⟩
theorem cL.nil (L0 K:Lg):cL L0 K (.sl none 0 0 0) (.sl none 0 0 0) [] []:=⟨.inl ⟨rfl,rfl,rfl⟩,.inl ⟨rfl,rfl,rfl⟩,fun p hp=>by simp at hp,fun b hb=>(by cases hb),fun b hb=>(by cases hb)⟩
theorem cL.one (h:cL L0 K v1 v2 ps aJ):(zl Fc ps).all AV.one=true:=VI ps fun p hp=>by
 have:=(h.ins p hp).1.one
 simp[Fc,this]
theorem cL.zqq (h:cL L0 K v1 v2 ps aJ){ps2:List (cx×AV)}{b:Nat}{K1:Lg}(g:Grown K v1 b (zl Fc ps++zl Fc ps2) K1)(h0:∀r,K r=none→L0 r=none)(hpos:0<ps.length+ps2.length)
  (hin:∀p∈ps2,Il K p.2 p.1.bG∧∀q,au p.2=some q→L0 q=none∧au v1≠some q∧au v2≠some q) :
  cL L0 K1 (.sl (some (b,0)) (ps.length+ps2.length) (ps.length+ps2.length) 4) v2 (ps++ps2) aJ:=by
 have nb:∀{q:Nat},K q≠none→q≠b:=fun hq hb=>hq (by rw[hb];exact g.fresh)
 refine⟨?_,?_,?_,?_,h.f2⟩
 ·have hlen:∀l:List (cx×AV),(zl Fc l).length=l.length * 4:=zY fun _=>rfl
  exact .inr ⟨b,4,by simpa using hpos,by simp,.inr rfl,by rw[g.now,zU],hlen _⟩
 ·refine h.o2.mono fun q hq=>g.same q (nb (by rw[h.o2.block hq];simp)) fun h9=>(h.f1 q h9).2 hq
 ·intro p hp
  rcases List.mem_append.1 hp with hp | hp
  ·have:=h.ins p hp
   refine⟨this.1.mono fun q hq=>g.same q (nb (this.1.has hq)) (this.2 q hq).2.1,fun q hq=>⟨(this.2 q hq).1,?_,(this.2 q hq).2.2⟩⟩
   intro h9;simp[au]at h9;exact nb (this.1.has hq) h9.symm
  ·have:=hin p hp
   refine⟨this.1.mono fun q hq=>g.same q (nb (this.1.has hq)) (this.2 q hq).2.1,fun q hq=>⟨(this.2 q hq).1,?_,(this.2 q hq).2.2⟩⟩
   intro h9;simp[au]at h9;exact nb (this.1.has hq) h9.symm
 ·intro q hq
  simp[au]at hq;subst hq
  refine⟨h0 _ g.fresh,fun h9=>?_⟩
  have:=h.o2.block h9
  rw[g.fresh]at this;cases this
theorem cL.zny (h:cL L0 K v1 v2 ps aJ){IC:List (Int×Int)}{b:Nat}{K1:Lg}(g:Grown K v2 b (zl nZ aJ++zl nZ IC) K1)(h0:∀r,K r=none→L0 r=none)(hpos:0<aJ.length+IC.length) :
  cL L0 K1 v1 (.sl (some (b,0)) (aJ.length+IC.length) (aJ.length+IC.length) 2) ps (aJ++IC):=by
 have nb:∀{q:Nat},K q≠none→q≠b:=fun hq hb=>hq (by rw[hb];exact g.fresh)
 refine⟨?_,?_,?_,?_,?_⟩
 ·refine h.o1.mono fun q hq=>g.same q (nb (by rw[h.o1.block hq];simp)) (h.f1 q hq).2
 ·have hlen:∀l:List (Int×Int),(zl nZ l).length=l.length * 2:=zY fun _=>rfl
  exact .inr ⟨b,2,by simpa using hpos,by simp,.inr rfl,by rw[g.now,zU],hlen _⟩
 ·intro p hp
  have:=h.ins p hp
  refine⟨this.1.mono fun q hq=>g.same q (nb (this.1.has hq)) (this.2 q hq).2.2,fun q hq=>⟨(this.2 q hq).1,(this.2 q hq).2.1,?_⟩⟩
  intro h9;simp[au]at h9;exact nb (this.1.has hq) h9.symm
 ·intro q hq
  refine⟨(h.f1 q hq).1,fun h9=>?_⟩
  simp[au]at h9;subst h9
  have:=h.o1.block hq
  rw[g.fresh]at this;cases this
 ·intro q hq
  simp[au]at hq;subst hq
  exact h0 _ g.fresh
end
theorem Grown.low {M L K1:Lg}{v:AV}{b c:Nat}{cs:List AV}(g:Grown (M.ak L) v b cs K1)(hv:∀q,au v=some q→M q=none)(ha:yk M L c):∃L1,K1=M.ak L1∧Grown L v b cs L1∧yk M L1 c:=by
 have hb:=yI.1 g.fresh
 refine⟨fun r=>match M r with | some _=>L r | none=>K1 r,?_,⟨hb.2,?_,?_,?_⟩,?_⟩
 ·funext r
  cases h:M r with
  | none=>rw[yG h];simp[h]
  | some d =>
   rw[z8 h,g.same r (by rintro rfl;rw[hb.1]at h;cases h) (fun h9=>by rw[hv r h9]at h;cases h),z8 h]
 ·simp only[hb.1];exact g.now
 ·intro r hr hq
  cases h:M r with
  | none=>simp only[];rw[g.same r hr hq,yG h]
  | some d=>simp only[]
 ·intro r hr
  cases h:M r with
  | none=>simp only[];have:=g.gone r hr;rw[yG h]at this;exact this
  | some d=>exact .inr rfl
 ·intro r hr hM
  cases h:M r with
  | none=>exact absurd h hM
  | some d=>have:=ha r hr hM;simpa[h]using this
end
section
variable {F:Nat→Option aT}
theorem zgd (hf:Bb F)(L:Lg)(id:Int):zd F iK [.p none,.i .i64 id] L fun v L'=>L'=L:=by
 refine zr ?_
 intro Q hQ
 apply II hf.code
 unfold iW
 have:zd F oG [.p none,.i .i64 id] L fun v L'=>v=.b false∧L'=L:=by
  refine zr ?_
  intro Q hQ
  apply NU hf.f49.code
  unfold nI
  simp
  exact⟨_,zx.refl _,hQ _ _ ⟨rfl,rfl⟩⟩
 refine this.mono ?_
 rintro _ K ⟨rfl,rfl⟩
 simp
 exact⟨_,zx.refl _,hQ _ _ rfl⟩
section
variable {M L L0:Lg} {c t mb:Nat} {aW aZ:AV} {S S':CX} {Q:AV→Lg→Prop}
theorem zdd (hf:Bb F){id:Int}(h:S.Es id=some S')(o:aY c S L)(ha:yk M L c):zd F iK [ptr S.σ.t,.i .i64 id] (M.ak L) fun v K'=>S'.σ=S.σ∧S'.χ=S.χ∧∃L',K'=M.ak L'∧yk M L' c∧aY c S' L'∧dw S.σ L L':=by
 unfold CX.Es at h
 split at h
 ·rename_i ht
  cases h
  rw[ht]
  refine (zgd hf _ _).mono ?_
  rintro v _ rfl
  exact⟨rfl,rfl,L,rfl,ha,o,dw.refl _ _⟩
 ·rename_i s ht
  have hs:=o.bQ s ht
  have Ox:=ha.low hs.1 hs.2
  rw[ht]
  split at h
  ·rename_i ho
   cases h
   refine (zeo hf (ha.get hs.1 hs.2) id ho).mono ?_
   rintro v _ ⟨_,rfl⟩
   exact⟨rfl,rfl,L,rfl,ha,o,dw.refl _ _⟩
  ·rename_i o1 ho
   split at h
   case isFalse=>cases h
   rename_i hc
   cases h
   refine (zen hf (ha.get hs.1 hs.2) hc.2 id ho (x:=Ch.tm) rfl (fun a h9=>by rw[hc.1]at h9;cases h9)).mono ?_
   rintro v _ ⟨_,rfl⟩
   refine⟨rfl,rfl,L.put s (.abs (Z2 s { S.τ with x:=S.τ.x.stop id })),?_,ha.dx Ox _,⟨?_,?_⟩,?_⟩
   ·rw[hc.1];simp only[Lg.dF];rw[yH Ox]
   ·intro s' hs'
    have e:s'=s:=by have:S.σ.t=some s':=hs';rw[ht]at this;cases this;rfl
    subst e
    exact⟨hs.1,ze _ _ _⟩
   ·intro o2 j6 a By
    have:=o.bB o2 j6 a By
    refine⟨this.1,this.2.1,?_⟩
    rw[zb];exact this.2.2
    rintro rfl;exact this.2.1 ht
   ·intro r hr h1 h2
    rw[zb];rintro rfl;exact h1 ht
theorem zfu (hf:pP F){a:Option Nat}{ws:List Wk}(h:S.Jz a=some (S',ws))(hm:∃o∈S.σ.af,o.c=a)(o:aY c S L)(ha:yk M L c):zd F fu [ptr a] (M.ak L) fun v K'=>S'.σ=S.σ∧∃L',K'=M.ak L'∧yk M L' c∧aY c S' L'∧dw S.σ L L'∧Il L' v ws∧∀b,au v=some b→L b=none:=by
 cases a with
 | none =>
  cases h
  refine (zfI hf).mono ?_
  rintro _ _ ⟨rfl,rfl⟩
  exact⟨rfl,L,rfl,ha,o,dw.refl _ _,.inl ⟨rfl,rfl⟩,fun b h=>by cases h⟩
 | some a =>
  unfold CX.Jz at h
  simp only at h
  split at h
  case isFalse=>cases h
  rename_i hlen
  cases h
  obtain⟨o1,dN,Ep⟩:=hm
  have hs:=o.bB o1 dN a Ep
  have hMa:=ha.low hs.1 hs.2.2
  refine (zdM hf (ha.get hs.1 hs.2.2) hlen).mono ?_
  intro v K' bU
  have oc:aY c { S with χ:=xd S.χ a (S.χ a).cB.1 } (L.put a (.abs (yy a (S.χ a).cB.1))):=by
   refine⟨?_,?_⟩
   ·intro s ht
    have ht':S.σ.t=some s:=ht
    have:=o.bQ s ht'
    refine⟨this.1,?_⟩
    rw[zb];exact this.2
    rintro rfl;exact hs.2.1 ht'
   ·intro o2 j6 a2 By
    have:=o.bB o2 j6 a2 By
    refine⟨this.1,this.2.1,?_⟩
    by_cases e:a2=a
    ·subst e;rw[ze];simp[xd]
    ·rw[zb _ _ _ e];simp[xd,e,this.2.2]
  have fr:dw S.σ L (L.put a (.abs (yy a (S.χ a).cB.1))):=by
   intro r hr h1 h2
   rw[zb];rintro rfl;exact h2 o1 dN Ep
  have By:=ha.dx hMa (.abs (yy a (S.χ a).cB.1))
  rw[yH hMa]at bU
  rcases bU with⟨h1,h2,h3⟩ | ⟨b,ex,h1,h2,h3,h4,h5⟩
  ·exact⟨rfl,_,h3,By,oc,fr,.inl ⟨h1,h2⟩,fun b hb=>by rw[h2]at hb;cases hb⟩
  ·have hb:=yI.1 h1
   refine⟨rfl,_,by rw[h5,yH hb.1],By.dx hb.1 _,⟨?_,?_⟩,?_,.inr ⟨b,ex,h3,ze _ _ _⟩,?_⟩
   ·intro s ht
    have:=oc.bQ s ht
    refine⟨this.1,?_⟩
    rw[zb];exact this.2
    rintro rfl;rw[hb.2]at this;cases this.2
   ·intro o2 j6 a2 By
    have:=oc.bB o2 j6 a2 By
    refine⟨this.1,this.2.1,?_⟩
    rw[zb];exact this.2.2
    rintro rfl;rw[hb.2]at this;cases this.2.2
   ·intro r hr g1 g2
    have h9:=fr r hr g1 g2
    rw[zb];exact h9
    rintro rfl;rw[hb.2]at h9;exact hr h9.symm
   ·intro b' hb'
    rw[h3]at hb';simp[au]at hb';subst hb'
    have:=hb.2
    by_cases e:b=a
    ·subst e;rw[ze]at this;cases this
    ·rwa [zb _ _ _ e]at this
theorem aY.grown {v:AV}{b:Nat}{cs:List AV}{L1:Lg}(o:aY c S L)(g:Grown L v b cs L1)(hv:∀q,au v=some q→∃d,L q=some (.raw d)):aY c S L1:=by
 have key:∀r P,L r=some (.abs P)→L1 r=some (.abs P):=by
  intro r P hr
  rw[g.same r (by rintro rfl;rw[g.fresh]at hr;cases hr) (fun h9=>by obtain⟨d,h8⟩:=hv r h9;rw[hr]at h8;cases h8)]
  exact hr
 exact⟨fun s hs=>⟨(o.bQ s hs).1,key _ _ (o.bQ s hs).2⟩,fun o1 h1 a h2=>⟨(o.bB o1 h1 a h2).1,(o.bB o1 h1 a h2).2.1,key _ _ (o.bB o1 h1 a h2).2.2⟩⟩
theorem aY.put (o:aY c S L){b:Nat}(hb:L b=none)(d:LC):aY c S (L.put b d):=by
 have key:∀r e,L r=some e→(L.put b d) r=some e:=by
  intro r e hr
  rw[zb];exact hr
  rintro rfl;rw[hb]at hr;cases hr
 exact⟨fun s hs=>⟨(o.bQ s hs).1,key _ _ (o.bQ s hs).2⟩,fun o1 h1 a h2=>⟨(o.bB o1 h1 a h2).1,(o.bB o1 h1 a h2).2.1,key _ _ (o.bB o1 h1 a h2).2.2⟩⟩
theorem dw.put {σ:Cs}{L1:Lg}(h:dw σ L L1){b:Nat}(hb:L b=none)(d:LC):dw σ L (L1.put b d):=fun r hr h1 h2=>by
 rw[zb];exact h r hr h1 h2
 rintro rfl;exact hr hb
theorem dw.grown {σ:Cs}{L1 L2:Lg}{v:AV}{b:Nat}{cs:List AV}(h:dw σ L L1)(g:Grown L1 v b cs L2)(hv:∀q,au v=some q→L q=none)(hb:L b=none):dw σ L L2:=fun r hr h1 h2=>by
 rw[g.same r (by rintro rfl;exact hr hb) (fun h9=>hr (hv r h9))];exact h r hr h1 h2
structure CL (L0:Lg)(c t mb:Nat)(aW aZ:AV)(Hr:Cs)(err cause:Int)(p:AV)(ks:List Int)(acc:Za)(E:Env)(M L:Lg)(ps:List (cx×AV)):Prop where
 d:aU c acc.1.σ t mb aW aZ M
 ap:yk M L c
 out:aY c acc.1 L
 same:aR Hr acc.1.σ
 fr:dw Hr L0 L
 has:∀r,L r=none→L0 r=none
 res:cL L0 L (E 8) (E 9) ps acc.2.2
 pm:ps.map (·.1)=acc.2.1
 l0:E 0=.p (some (c,0))
 l2:E 2=.i .i64 err
 l3:E 3=.i .i64 cause
 N0:E 10=p
 l69:E 69=.i .i64 ks.length
 kids:ks=[]∨∃kb ex,E 68=.sl (some (kb,0)) ks.length ks.length ex∧L kb=some (.raw (.cells (eB ks)))∧L0 kb=none∧au (E 8)≠some kb∧au (E 9)≠some kb
end
end
section
variable {F:Nat→Option aT}
section
variable {M L L0:Lg} {c t mb:Nat} {aW aZ:AV} {S S':CX} {Q:AV→Lg→Prop}
theorem bu.up {v:AV}{cs:List AV}{n size:Nat}(h:bu L v cs n size)(hv:∀q,au v=some q→M q=none):bu (M.ak L) v cs n size:=h.mono fun b hb=>yG (hv b hb)
theorem zbG {v w:AV}{cs new:List AV}{n m size bytes:Nat}(hO:bu L v cs n size)(hv:∀q,au v=some q→M q=none)(hsz:0<size)(hW:bu L w new m size)(hw:∀q,au w=some q→M q=none)(h1:new.all AV.one=true)(hb:(n+m) * bytes≤70368744177664)(ap:yk M L c){k:AV→Lg→Prop}
  (hk0:m=0→k v (M.ak L)) (hk:0<m→∀b L1,Grown L v b (cs++new) L1→yk M L1 c→k (.sl (some (b,0)) (n+m) (n+m) size) (M.ak L1)):Xp size bytes (M.ak L) k [v,w]:=by
 obtain⟨a,ex,e1,e2,_⟩:=(hW.up hw).NM
 by_cases hm:m=0
 ·subst hm
  have hn:new=[]:=by
   rcases hW with⟨_,h,_⟩ | ⟨_,_,h,_⟩
   ·exact h
   ·omega
  rw[hn,Nat.zero_mul]at e2
  exact (hO.up hv).znz e1 e2 (hk0 rfl)
 ·have hlen:new.length=m * size:=by
   rcases hW with⟨h,_,_⟩ | ⟨_,_,_,_,_,_,h⟩
   ·exact absurd h hm
   ·exact h
  refine (hO.up hv).app hsz e1 (by omega) e2 hlen h1 hb ?_
  intro b K1 g _
  obtain⟨L1,rfl,g1,ER⟩:=g.low hv ap
  exact hk (by omega) b L1 g1 ER
theorem P6 (ap:yk M L c)(hc:L0 c≠none){b:Nat}(h0:L0 b=none)(hb:L b≠none):M b=none:=by
 cases h:L b with
 | none=>exact absurd h hb
 | some d=>exact ap.low (by rintro rfl;exact hc h0) h
theorem zgw {es:List (AV×AV)}{w:Int→Option Int}(h:Fb es w){K:Lg}(hm:K mb=some (.raw (.map es)))(x:Int):vi (.i .i64 0) false K [.m (some mb),.i .i64 x]=some (.i .i64 ((w x).getD 0)):=by
 simp only[vi,hm,h.find]
 cases w x<;>rfl
theorem bu.has {v:AV}{cs:List AV}{n size:Nat}(h:bu L v cs n size){q:Nat}(hq:au v=some q):L q≠none:=by rw[h.block hq];simp
theorem bu.raw {v:AV}{cs:List AV}{n size:Nat}(h:bu L v cs n size):∀q,au v=some q→∃d,L q=some (.raw d):=fun q hq=>⟨_,h.block hq⟩
def zcX (F:Nat→Option aT)(N:Nat→Nat)(n:Nat):Prop:=∀(S S':CX) (id err cause:Int) (aN:List cx) (aJ:List (Int×Int)),S.az n id err cause=some (S',aN,aJ)→∀(c t mb:Nat) (aW aZ:AV) (M L:Lg),aU c S.σ t mb aW aZ M→yk M L c→aY c S L→L c≠none →
 zd F dL [.p (some (c,0)),.i .i64 id,.i .i64 err,.i .i64 cause] (M.ak L) fun v K'=>∃M' L' v1 v2,v=.ay [v1,v2]∧K'=M'.ak L'∧aU c S'.σ t mb aW aZ M'∧yk M' L' c∧aY c S' L'∧aR S.σ S'.σ∧dw S.σ L L'∧UH L L' v1 v2 aN aJ
theorem XF {σ σ':Cs}{k:Int}{st:Int×Int}(h:σ.dJ k=some (σ',st)):aR σ σ'∧σ'.af=σ.af:=by
 unfold Cs.dJ at h
 split at h
 case isFalse=>cases h
 split at h
 case h_2=>cases h
 split at h
 case h_2=>cases h
 cases h
 exact⟨⟨rfl,rfl⟩,rfl⟩
theorem zgJ (hst:pO F){n:Nat}(ih:zcX F N n){Hr:Cs}{err cause:Int}{p:AV}{ks:List Int}{acc acc':Za}{E:Env}{ps:List (cx×AV)}(h:CL L0 c t mb aW aZ Hr err cause p ks acc E M L ps)(hc:L0 c≠none)
  {i:Nat} (hi:i<ks.length) (RX:E 70=.i .i64 i) (hlen:ks.length≤1000000) (hs:U0 (CX.az n) err cause acc ks[i]=some acc') {k1:Env→Lg→Prop}
  (hk:∀(E':Env) (M' L':Lg) (ps':List (cx×AV)),CL L0 c t mb aW aZ Hr err cause p ks acc' E' M' L' ps'→E' 70=.i .i64 (i+1:Nat)→k1 E' (M'.ak L')):gn F Q k1 E (M.ak L):=by
 have zq1:∀{b:Nat},L0 b=none→b≠c:=fun hb h9=>hc (by rw[←h9];exact hb)
 rcases h.kids with h9 | ⟨kb,ex,Ii,hk2,hk3,hk4,hk5⟩
 ·rw[h9]at hi;simp at hi
 have hkM:M kb=none:=P6 h.ap hc hk3 (by rw[hk2];simp)
 unfold gn
 rw[h.l0,Ii,RX,h.l2,h.l3]
 have hn0:aq (M.ak L) (kb,i) none=some (.i .i64 ks[i]):=by
  rw[zj (by rw[yG hkM];exact hk2)];simp[eB,hi]
 have ei:(i:Int)<(ks.length:Int):=by omega
 obtain⟨es,m1,m2⟩:=h.d.map
 simp only[zf,yn F _ _ 1 kb 0 ks.length ks.length ex .i64 (i:Int) (Int.natCast_nonneg _) ei,Int.toNat_natCast,Nat.mul_one,Nat.zero_add,zt,hn0,zg,zh,zk,h.d.f4,zhs,zgw m2 (z8 m1),yP]
 unfold U0 at hs
 simp only at hs
 generalize zqT:(acc.1.σ.who ks[i]).getD 0=who at hs ⊢
 have w70:wr .i64 ((i:Int)+1)=((i+1:Nat):Int):=by rw[zT (by omega) (by omega)];omega
 have hv8:∀q,au (E 8)=some q→M q=none:=fun q hq=>P6 h.ap hc (h.res.f1 q hq).1 (h.res.o1.has hq)
 have hv9:∀q,au (E 9)=some q→M q=none:=fun q hq=>P6 h.ap hc (h.res.f2 q hq) (h.res.o2.has hq)
 by_cases hneg:who<0
 ·rw[if_pos hneg]at hs
  split at hs
  case isFalse=>cases hs
  rename_i hbd
  split at hs
  case h_2=>cases hs
  rename_i σ' st zll
  cases hs
  have w1:wr .i64 (0-who)=-who:=by rw[zT (by omega) (by omega)];omega
  have w2:wr .i64 (-who-1)=-who-1:=zT (by omega) (by omega)
  rw[zM]
  refine⟨fun _=>?_,fun h9=>absurd hneg h9⟩
  simp only[zf,zi0,w1,zbU,w2]
  refine (Yz hst h.d h.ap zll).mono ?_
  rintro _ K' ⟨rfl,M',rfl,hd,hap⟩
  have j4:=XF zll
  simp only[zf,vt]
  rw[yg (c:=[.i .i64 st.1,.i .i64 st.2]) _ _ (by simp[y7,zF,zo,zp,zq,AV.cellsOf]) (by simp)]
  intro b1 bP
  have FQ:=yI.1 bP
  rw[yH FQ.1]
  have Bx:=hap.dx FQ.1 (.raw (.cells [.i .i64 st.1,.i .i64 st.2]))
  have hb0:L0 b1=none:=h.has b1 FQ.2
  have hgrow:∀r,L0 r=none→L r≠none→(L.put b1 (.raw (.cells [.i .i64 st.1,.i .i64 st.2]))) r=L r:=fun r _ hr=>zb _ _ _ (by rintro rfl;exact hr FQ.2)
  have dh:=h.res.mono hgrow
  have iP:∀r,(L.put b1 (.raw (.cells [.i .i64 st.1,.i .i64 st.2]))) r=none→L0 r=none:=fun r hr=>by
   by_cases e:r=b1
   ·subst e;exact hb0
   ·rw[zb _ _ _ e]at hr;exact h.has r hr
  have hsame:aR Hr σ':=h.same.trans j4.1
  have hout:aY c { acc.1 with σ:=σ' } L:=⟨fun s hs=>h.out.bQ s (by rw[←j4.1.t];exact hs),fun o ho a ha=>by
   have ho':o∈acc.1.σ.af:=by have:o∈σ'.af:=ho;rwa [j4.2]at this
   have:=h.out.bB o ho' a ha
   exact⟨this.1,by show σ'.t≠_;rw[j4.1.t];exact this.2.1,this.2.2⟩⟩
  have EE:=hout.put FQ.2 (.raw (.cells [.i .i64 st.1,.i .i64 st.2]))
  have Jc:=h.fr.put hb0 (.raw (.cells [.i .i64 st.1,.i .i64 st.2]))
  have j7:(L.put b1 (.raw (.cells [.i .i64 st.1,.i .i64 st.2]))) kb=some (.raw (.cells (eB ks))):=by rw[zb];exact hk2;rintro rfl;rw[FQ.2]at hk2;cases hk2
  have zlU:(L.put b1 (.raw (.cells [.i .i64 st.1,.i .i64 st.2]))) b1=some (.raw (.cells [.i .i64 st.1,.i .i64 st.2])):=ze _ _ _
  generalize BC:L.put b1 (.raw (.cells [.i .i64 st.1,.i .i64 st.2]))=L1 at Bx dh iP EE Jc j7 zlU
  have R6:∀q,au (E 9)=some q→M' q=none:=fun q hq=>P6 Bx hc (dh.f2 q hq) (dh.o2.has hq)
  simp only[zf,Xz]
  refine zbG (c:=c) (m:=1) (new:=[.i .i64 st.1,.i .i64 st.2]) dh.o2 R6 (by omega) (.inr ⟨b1,0,by omega,rfl,.inl rfl,zlU,rfl⟩) (fun q hq=>by simp[au]at hq;subst hq;exact FQ.1) (by simp) (by omega) Bx (by omega) ?_
  intro _ b2 L2 g2 Bw
  have Jh:L0 b2=none:=iP b2 g2.fresh
  have g2':Grown L1 (E 9) b2 (zl nZ acc.2.2++zl nZ [st]) L2:=by simpa[zl,nZ]using g2
  have hres2:=dh.zny g2' iP (by simp)
  unfold cY
  simp only[Env.ah]
  simp only[zf,RX,y6,w70,if_true,if_false,reduceIte,Nat.reduceEqDiff]
  refine hk _ M' L2 ps ?_ (by simp)
  refine⟨hd,Bw,EE.grown g2 dh.o2.raw,hsame,Jc.grown g2 dh.f2 Jh,?_,by simpa using hres2,h.pm,by simp[h.l0],by simp[h.l2],by simp[h.l3],by simp[h.N0],by simp[h.l69],.inr ⟨kb,ex,by simp[Ii],?_,hk3,by simpa using hk4,?_⟩⟩
  ·intro r hr
   rcases Classical.em (r=b2)with e | e
   ·subst e;exact Jh
   ·rcases Classical.em (au (E 9)=some r)with e2 | e2
    ·exact dh.f2 r e2
    ·rw[g2.same r e e2]at hr;exact iP r hr
  ·rw[g2.same kb (by rintro rfl;rw[g2.fresh]at j7;cases j7) hk5];exact j7
  ·simp[au];rintro rfl;rw[g2.fresh]at j7;cases j7
 ·rw[if_neg hneg]at hs
  split at hs
  case h_2=>cases hs
  rename_i S' o t' zpf
  split at hs
  case isFalse=>cases hs
  rename_i hbd
  cases hs
  have hLc:L c≠none:=fun h9=>hc (h.has c h9)
  rw[zM]
  refine⟨fun h9=>absurd h9 hneg,fun _=>?_⟩
  refine (ih _ _ _ _ _ _ _ zpf c t mb aW aZ M L h.d h.ap h.out hLc).mono ?_
  rintro _ K' ⟨M',L',w1,w2,rfl,rfl,hd,hap,hout,j4,hfr,ps2,HM,hres2⟩
  have zlN:∀r,L' r=none→L r=none:=fun r hr=>by
   rcases Classical.em (L r=none)with e | e
   ·exact e
   ·exact absurd hr (hfr.has j4 hout e)
  have hfree:∀r,L0 r=none→L r≠none→(∀x,L r=some (.abs x)→False)→L' r=L r:=fun r h0 hr hx=>hfr r hr (fun h9=>by have:=(h.out.bQ r h9).2;exact hx _ this) (fun o ho h9=>by have:=(h.out.bB o ho r h9).2.2;exact hx _ this)
  have HP:L' kb=some (.raw (.cells (eB ks))):=by rw[hfree kb hk3 (by rw[hk2];simp) (fun x hx=>by rw[hk2]at hx;cases hx)];exact hk2
  have dh:cL L0 L' (E 8) (E 9) ps acc.2.2:=by
   refine⟨h.res.o1.mono fun b hb=>?_,h.res.o2.mono fun b hb=>?_,fun p hp=>⟨(h.res.ins p hp).1.mono fun b hb=>?_,(h.res.ins p hp).2⟩,h.res.f1,h.res.f2⟩
   ·have:=h.res.o1.block hb;exact hfree b (h.res.f1 b hb).1 (by rw[this];simp) (fun x hx=>by rw[this]at hx;cases hx)
   ·have:=h.res.o2.block hb;exact hfree b (h.res.f2 b hb) (by rw[this];simp) (fun x hx=>by rw[this]at hx;cases hx)
   ·have h4:=(h.res.ins p hp).1
    rcases h4 with⟨_,h5⟩ | ⟨b',ex',h5,h6⟩
    ·rw[h5]at hb;cases hb
    ·rw[h5]at hb;simp[au]at hb;subst hb
     exact hfree b' (((h.res.ins p hp).2 b' (by rw[h5];rfl)).1) (by rw[h6];simp) (fun x hx=>by rw[h6]at hx;cases hx)
  have GW:∀r,L' r=none→L0 r=none:=fun r hr=>h.has r (zlN r hr)
  have hsame:aR Hr S'.σ:=h.same.trans j4
  have zlO:dw Hr L0 L':=dw.trans h.same h.fr hfr
  have Mc:∀b,L b=none→L' b≠none→M' b=none:=fun b hb hb'=>P6 hap hLc hb hb'
  have zo3:∀q,au (E 8)=some q→M' q=none:=fun q hq=>P6 hap hc (dh.f1 q hq).1 (dh.o1.has hq)
  have zqK:ps.length=acc.2.1.length:=by rw[←h.pm];simp
  have GU:ps2.length=o.length:=by rw[←HM];simp
  have Oa:∀q,au (E 8)=some q→L q≠none:=fun q hq=>h.res.o1.has hq
  have zlA:∀q,au (E 9)=some q→L q≠none:=fun q hq=>h.res.o2.has hq
  have fin:∀(v8:AV) (L1:Lg) (ps1:List (cx×AV)),ps1.map (·.1)=acc.2.1++o→cL L0 L1 v8 (E 9) ps1 acc.2.2→bu L1 w2 (zl nZ t') t'.length 2→(∀q,au w2=some q→M' q=none)→yk M' L1 c→aY c S' L1→dw Hr L0 L1→(∀r,L1 r=none→L0 r=none)→L1 kb=some (.raw (.cells (eB ks)))→au v8≠some kb →
    Xp 2 16 (M'.ak L1) (fun Ml ku=>cY F Q k1 (Env.put (Env.put (Env.put (Env.put (Env.put (Env.put E 12 (.i .i64 ks[i])) 13 (.i .i64 who)) 14 w1) 15 w2) 8 v8) 9 Ml) ku) [E 9,w2]:=by
   intro v8 L1 ps1 u0 iC hw2 zo0 Bx EE Jc iP j7 zlI
   have R6:∀q,au (E 9)=some q→M' q=none:=fun q hq=>P6 Bx hc (iC.f2 q hq) (iC.o2.has hq)
   refine zbG (c:=c) (m:=t'.length) (new:=zl nZ t') iC.o2 R6 (by omega) hw2 zo0 (Yw (fun _=>rfl) _) (by omega) Bx ?_ ?_
   ·intro h0
    have ht0:t'=[]:=List.length_eq_zero_iff.1 h0
    unfold cY
    simp only[Env.ah]
    simp only[zf,RX,y6,w70,if_true,if_false,reduceIte,Nat.reduceEqDiff]
    refine hk _ M' L1 ps1 ?_ (by simp)
    exact⟨hd,Bx,EE,hsame,Jc,iP,by simpa[ht0]using iC,u0,by simp[h.l0],by simp[h.l2],by simp[h.l3],by simp[h.N0],by simp[h.l69],.inr ⟨kb,ex,by simp[Ii],j7,hk3,by simpa using zlI,by simpa using hk5⟩⟩
   ·intro h0 b2 L2 g2 Bw
    have Jh:L0 b2=none:=iP b2 g2.fresh
    have oT:=iC.zny g2 iP (by omega)
    unfold cY
    simp only[Env.ah]
    simp only[zf,RX,y6,w70,if_true,if_false,reduceIte,Nat.reduceEqDiff]
    refine hk _ M' L2 ps1 ?_ (by simp)
    refine⟨hd,Bw,EE.grown g2 iC.o2.raw,hsame,Jc.grown g2 iC.f2 Jh,?_,by simpa using oT,u0,by simp[h.l0],by simp[h.l2],by simp[h.l3],by simp[h.N0],by simp[h.l69],.inr ⟨kb,ex,by simp[Ii],?_,hk3,by simpa using zlI,?_⟩⟩
    ·intro r hr
     rcases Classical.em (r=b2)with e | e
     ·subst e;exact Jh
     ·rcases Classical.em (au (E 9)=some r)with e2 | e2
      ·exact iC.f2 r e2
      ·rw[g2.same r e e2]at hr;exact iP r hr
    ·rw[g2.same kb (by rintro rfl;rw[g2.fresh]at j7;cases j7) hk5];exact j7
    ·simp[au];rintro rfl;rw[g2.fresh]at j7;cases j7
  simp only[zf,yi,List.getElem?_cons_zero,List.getElem?_cons_succ,zg,Xz]
  refine zbG (c:=c) (m:=ps2.length) (new:=zl Fc ps2) dh.o1 zo3 (by omega) hres2.o1 (fun q hq=>Mc q (hres2.f1 q hq).1 (hres2.o1.has hq)) hres2.one (by omega) hap ?_ ?_
  ·intro h0
   have N9:ps2=[]:=List.length_eq_zero_iff.1 h0
   have MU:o=[]:=by rw[←HM,N9];rfl
   exact fin _ L' ps (by rw[h.pm,MU];simp) dh hres2.o2 (fun q hq=>Mc q (hres2.f2 q hq) (hres2.o2.has hq)) hap hout zlO GW HP hk4
  ·intro h0 b1 L1 g1 Bx
   have SD:L0 b1=none:=GW b1 g1.fresh
   have oT:=dh.zqq g1 GW (by omega) (fun p hp=>by
    have h4:=hres2.ins p hp
    refine⟨h4.1,fun q hq=>?_⟩
    have TC:=(h4.2 q hq).1
    exact⟨h.has q TC,fun h9=>Oa q h9 TC,fun h9=>zlA q h9 TC⟩)
   have zo1:bu L1 w2 (zl nZ t') t'.length 2:=hres2.o2.mono fun q hq=>by
    have TC:=hres2.f2 q hq
    exact g1.same q (by rintro rfl;exact hres2.o2.has hq g1.fresh) (fun h9=>Oa q h9 TC)
   refine fin _ L1 (ps++ps2) (by simp[h.pm,HM]) oT zo1 (fun q hq=>Mc q (hres2.f2 q hq) (hres2.o2.has hq)) Bx (hout.grown g1 dh.o1.raw) (zlO.grown g1 (fun q hq=>(dh.f1 q hq).1) SD) ?_ ?_ ?_
   ·intro r hr
    rcases Classical.em (r=b1)with e | e
    ·subst e;exact SD
    ·rcases Classical.em (au (E 8)=some r)with e2 | e2
     ·exact (dh.f1 r e2).1
     ·rw[g1.same r e e2]at hr;exact GW r hr
   ·rw[g1.same kb (by rintro rfl;rw[g1.fresh]at HP;cases HP) hk4];exact HP
   ·simp[au];rintro rfl;rw[g1.fresh]at HP;cases HP
end
end
section
variable {F:Nat→Option aT}
section
variable {M L L0:Lg} {c t mb:Nat} {aW aZ:AV} {S S':CX} {Q:AV→Lg→Prop}
theorem XK {i:Nat}{x x':One}(hx:S.σ.af[i]?=some x)(h1:x'.c=x.c)(h2:x'.node=x.node):aR S.σ (S.aB i x').σ:=by
 refine⟨rfl,?_⟩
 show (S.σ.af.set i x').map _=S.σ.af.map _
 apply List.ext_getElem?
 intro j
 simp only[List.getElem?_map]
 by_cases e:i=j
 ·subst e
  have hi:i<S.σ.af.length:=(List.getElem?_eq_some_iff.1 hx).1
  rw[List.getElem?_set_self hi,hx];simp[h1,h2]
 ·rw[List.getElem?_set_ne e]
theorem aY.same {S2:CX}(o:aY c S L)(h:aR S.σ S2.σ)(h1:S2.τ=S.τ)(h2:S2.χ=S.χ):aY c S2 L:=by
 refine⟨fun s hs=>?_,fun o1 ho a ha=>?_⟩
 ·rw[h1];exact o.bQ s (by rw[←h.t];exact hs)
 ·obtain⟨o',ho',he⟩:=h.cs ⟨o1,ho,ha⟩
  have:=o.bB o' ho' a he
  exact⟨this.1,by rw[h.t];exact this.2.1,by rw[h2];exact this.2.2⟩
theorem zbq {α β:Type}(f:β→α→Option β)(l:List α){i:Nat}(hi:i<l.length)(b r:β)(h:(l.drop i).foldlM f b=some r):∃b',f b l[i]=some b'∧(l.drop (i+1)).foldlM f b'=some r:=by
 rw[List.drop_eq_getElem_cons hi,List.foldlM_cons]at h
 cases h1:f b l[i]with
 | none=>rw[h1]at h;cases h
 | some b'=>rw[h1]at h;exact⟨b',rfl,h⟩
theorem YD (hf:iA F):∀n,zcX F N n
 | 0=>by intro S S' id err cause aN aJ h;cases h
 | n+1=>by
  have ih:=YD hf n
  intro S S' id err cause aN aJ hp c t mb aW aZ M L hd ha ho hc
  refine zr ?_
  intro Q hQ
  unfold CX.az at hp
  split at hp
  case isFalse=>cases hp
  rename_i h0
  obtain⟨i,rfl⟩:=Int.eq_ofNat_of_zero_le h0
  simp only[Int.toNat_natCast]at hp
  split at hp
  case h_1=>cases hp
  rename_i x hx
  apply Q5 hf.code
  unfold tU tT
  obtain⟨b,a1,a2,a3,a4,a5⟩:=hd.fo (F:=F) hx
  simp[zI,hd.f2,a3]
  unfold tS
  have g1:aq (M.ak L) (b,i * 9+1) none=some (.b x.free):=a4 L 1 (by omega)
  have g3:aq (M.ak L) (b,i * 9+3) none=some (.i .i64 x.err):=a4 L 3 (by omega)
  have TP:(x.free=true∨x.err≠0)→Q (.ay [.sl none 0 0 0,.sl none 0 0 0]) (M.ak L):=by
   intro hfx
   rw[if_pos hfx]at hp
   cases hp
   exact hQ _ _ ⟨M,L,_,_,rfl,rfl,hd,ha,ho,aR.refl _,dw.refl _ _,[],rfl,cL.nil _ _⟩
  cases hfree:x.free
  case true =>
   simp[g1,hfree]
   exact⟨_,zx.refl _,TP (.inl hfree)⟩
  by_cases dS:x.err=0
  case neg =>
   simp[g1,g3,hfree,dS]
   exact⟨_,zx.refl _,TP (.inr dS)⟩
  clear TP
  rw[if_neg (by simp[hfree,dS])]at hp
  split at hp
  case h_1=>cases hp
  rename_i S1 ws hend
  split at hp
  case h_1=>cases hp
  rename_i S2 hstop
  split at hp
  case isFalse=>cases hp
  rename_i hkk
  split at hp
  case h_1=>cases hp
  rename_i S3 out gJ A4
  split at hp
  case h_1=>cases hp
  rename_i ns M7
  cases hp
  simp[g1,g3,hfree,dS]
  unfold tQ
  have hlt:i * 9+9≤(zl One.cells S.σ.af).length:=(xT One.len S.σ.af i x hx).2
  have bK:i<S.σ.af.length:=(List.getElem?_eq_some_iff.1 hx).1
  simp
  rw[zD (z8 a2) (by omega) rfl,xt]
  have d1:=hd.aB (o':={ x with err:=err }) hx a1 (j:=3) (v:=.i .i64 err) (by omega) rfl
  have ER:=ha.own (b:=b) (by rw[a2];simp) (.raw (.cells ((zl One.cells S.σ.af).set (i * 9+3) (.i .i64 err))))
  generalize M.put b (.raw (.cells ((zl One.cells S.σ.af).set (i * 9+3) (.i .i64 err))))=M1 at d1 ER
  have hx1:({ S.σ with af:=S.σ.af.set i { x with err:=err } }:Cs).af[i]?=some { x with err:=err }:=by simp[bK]
  obtain⟨b',b1,b2,b3,b4,b5⟩:=d1.fo (F:=F) hx1
  rw[a1]at b1
  cases b1
  have zpy:=(xT One.len _ i _ hx1).2
  simp
  rw[zD (z8 b2) (Nat.lt_of_lt_of_le (by omega:i * 9+4<i * 9+9) zpy) rfl,xt]
  have d2:=d1.aB (o':={ x with err:=err,cause:=cause }) hx1 a1 (j:=4) (v:=.i .i64 cause) (by omega) rfl
  have Mg:=ER.own (b:=b) (by rw[b2];simp) (.raw (.cells ((zl One.cells ({ S.σ with af:=S.σ.af.set i { x with err:=err } }:Cs).af).set (i * 9+4) (.i .i64 cause))))
  generalize M1.put b (.raw (.cells ((zl One.cells ({ S.σ with af:=S.σ.af.set i { x with err:=err } }:Cs).af).set (i * 9+4) (.i .i64 cause))))=M2 at d2 Mg
  have hS0:({ ({ S.σ with af:=S.σ.af.set i { x with err:=err } }:Cs)with af:=({ S.σ with af:=S.σ.af.set i { x with err:=err } }:Cs).af.set i { x with err:=err,cause:=cause } }:Cs)=(S.aB i { x with err:=err,cause:=cause }).σ:=by
   simp[CX.aB,List.set_set]
  rw[hS0]at d2
  have HL:aR S.σ (S.aB i { x with err:=err,cause:=cause }).σ:=XK hx rfl rfl
  have MU:aY c (S.aB i { x with err:=err,cause:=cause }) L:=ho.same HL rfl rfl
  have FF:(S.aB i { x with err:=err,cause:=cause }).σ.af[i]?=some { x with err:=err,cause:=cause }:=by simp[CX.aB,bK]
  generalize hSS:S.aB i { x with err:=err,cause:=cause }=S0 at d2 HL MU FF hend
  obtain⟨b',b1,b2,b3,b4,b5⟩:=d2.fo (F:=F) FF
  rw[a1]at b1
  cases b1
  unfold tP
  have r2:aq (M2.ak L) (b,i * 9+2) none=some (ptr x.c):=b4 L 2 (by omega)
  simp[r2]
  refine (zfu hf.f134 hend ⟨_,List.mem_of_getElem? FF,rfl⟩ MU Mg).mono ?_
  rintro v4 _ ⟨R0,L1,rfl,HY,dN,A6,FG,hwf⟩
  rw[←R0]at d2 FF HL
  have zln:aR S0.σ S1.σ:=by rw[R0];exact aR.refl _
  have hv4:v4.cellsOf=some [v4]:=by rcases FG with⟨_,rfl⟩ | ⟨_,_,rfl,_⟩<;>rfl
  have R7:v4.one=true:=FG.one
  simp[zF,zo,zp,zq,hv4,R7]
  rw[yg (c:=[.i .i64 i,.i .i64 err,.i .i64 cause,v4]) _ _ (by simp[y7,zF,zo,zp,zq,AV.cellsOf,R7]) (by simp[R7])]
  intro bo hbo
  have Je:=yI.1 hbo
  rw[yH Je.1]
  have ap4:=HY.dx Je.1 (.raw (.cells [.i .i64 i,.i .i64 err,.i .i64 cause,v4]))
  have EO:∀r,L1 r=none→L r=none:=fun r hr=>by
   rcases Classical.em (L r=none)with e | e
   ·exact e
   ·exact absurd hr (A6.has zln dN e)
  have hbL:L bo=none:=EO bo Je.2
  have j6:=dN.put Je.2 (.raw (.cells [.i .i64 i,.i .i64 err,.i .i64 cause,v4]))
  have OE:dw S.σ L (L1.put bo (.raw (.cells [.i .i64 i,.i .i64 err,.i .i64 cause,v4]))):=(dw.trans (by rw[←R0];exact HL) (dw.refl _ _) A6).put hbL _
  have hnb:∀q,au v4=some q→q≠bo:=fun q hq=>by rintro rfl;exact FG.has hq Je.2
  have hres:cL L (L1.put bo (.raw (.cells [.i .i64 i,.i .i64 err,.i .i64 cause,v4]))) (.sl (some (bo,0)) 1 1 0) (.sl none 0 0 0) [(⟨i,err,cause,ws⟩,v4)] []:=by
   refine⟨.inr ⟨bo,0,by simp,rfl,.inl rfl,by rw[ze];rfl,rfl⟩,.inl ⟨rfl,rfl,rfl⟩,?_,?_,fun q hq=>by cases hq⟩
   ·intro p hp
    simp at hp;subst hp
    refine⟨FG.mono fun q hq=>zb _ _ _ (hnb q hq),fun q hq=>⟨hwf q hq,?_,by simp[au]⟩⟩
    intro h9;simp[au]at h9;exact hnb q hq h9.symm
   ·intro q hq;simp[au]at hq;subst hq;exact⟨hbL,by simp[au]⟩
  have zmT:∀r,(L1.put bo (.raw (.cells [.i .i64 i,.i .i64 err,.i .i64 cause,v4]))) r=none→L r=none:=fun r hr=>by
   by_cases e:r=bo
   ·subst e;exact hbL
   ·rw[zb _ _ _ e]at hr;exact EO r hr
  generalize L1.put bo (.raw (.cells [.i .i64 i,.i .i64 err,.i .i64 cause,v4]))=L2 at ap4 j6 OE hres zmT
  unfold tO
  obtain⟨b',b1,b2,b3,b4,b5⟩:=d2.fo (F:=F) FF
  rw[a1]at b1
  cases b1
  have r8:aq (M2.ak L2) (b,i * 9+8) none=some (.i .i64 x.timer):=b4 L2 8 (by omega)
  simp[d2.f0,r8]
  refine (zdd hf.f51 hstop j6 ap4).mono ?_
  rintro _ _ ⟨RZ,zqS,L3,rfl,ap5,u9,fr3⟩
  have zo8:aR S.σ S2.σ:=by rw[RZ];exact HL
  have TO:dw S.σ L L3:=OE.trans HL fr3
  have zlm:aR S1.σ S2.σ:=by rw[RZ];exact aR.refl _
  have TE:∀r,L3 r=none→L r=none:=fun r hr=>by
   rcases Classical.em (L2 r=none)with e | e
   ·exact zmT r e
   ·exact absurd hr (fr3.has zlm u9 e)
  have zlu:∀r,L r=none→L2 r≠none→(∀z,L2 r=some (.abs z)→False)→L3 r=L2 r:=fun r h0 hr hz=>fr3 r hr (fun h9=>hz _ (j6.bQ r h9).2) (fun o ho h9=>hz _ (j6.bB o ho r h9).2.2)
  have oT:cL L L3 (.sl (some (bo,0)) 1 1 0) (.sl none 0 0 0) [(⟨i,err,cause,ws⟩,v4)] []:=by
   refine⟨hres.o1.mono fun q hq=>?_,hres.o2.mono fun q hq=>(by cases hq),fun p hp=>⟨(hres.ins p hp).1.mono fun q hq=>?_,(hres.ins p hp).2⟩,hres.f1,hres.f2⟩
   ·have:=hres.o1.block hq;exact zlu q (hres.f1 q hq).1 (by rw[this];simp) (fun z hz=>by rw[this]at hz;cases hz)
   ·have h4:=(hres.ins p hp).1
    rcases h4 with⟨_,h5⟩ | ⟨b',ex',h5,h6⟩
    ·rw[h5]at hq;cases hq
    ·rw[h5]at hq;simp[au]at hq;subst hq
     exact zlu b' (((hres.ins p hp).2 b' (by rw[h5];rfl)).1) (by rw[h6];simp) (fun z hz=>by rw[h6]at hz;cases hz)
  rw[←RZ]at d2 FF
  unfold tM
  obtain⟨b',b1,b2,b3,b4,b5⟩:=d2.fo (F:=F) FF
  rw[a1]at b1
  cases b1
  have r0:aq (M2.ak L3) (b,i * 9) none=some (.i .i64 x.node):=by have:=b4 L3 0 (by omega);simpa[One.cells]using this
  simp[d2.f1,r0]
  refine (VY hf.f136 (z8 d2.tree) (zcE hkk.1) x.node).mono ?_
  intro v7 K' oV
  generalize hks:dK S2.σ.tree x.node=ks at oV A4 hkk
  have zlH:∀(LL:Lg) (k:AV→Lg→Prop),za F .ax [v7] LL k=k (.i .i64 ks.length) LL:=by
   intro LL k
   rcases oV with⟨h1,rfl,_⟩ | ⟨b',ex,_,rfl,_⟩
   ·simp[h1]
   ·simp
  simp[zlH]
  have key:∀(L4:Lg) (E0:Env),yk M2 L4 c→aY c S2 L4→dw S.σ L L4→(∀r,L4 r=none→L r=none)→cL L L4 (.sl (some (bo,0)) 1 1 0) (.sl none 0 0 0) [(⟨i,err,cause,ws⟩,v4)] [] →
    (ks=[]∨∃kb ex,v7=.sl (some (kb,0)) ks.length ks.length ex∧L4 kb=some (.raw (.cells (eB ks)))∧L kb=none∧kb≠bo)→E0 0=.p (some (c,0))→E0 2=.i .i64 err→E0 3=.i .i64 cause→E0 10=.p (some (b,i * 9))→E0 8=.sl (some (bo,0)) 1 1 0→E0 9=.sl none 0 0 0→E0 68=v7→E0 69=.i .i64 ks.length→E0 70=.i .i64 0→gp F Q E0 (M2.ak L4):=by
   intro L4 E0 ap6 ho4 Jw hL4 zlr dR e0 e2 e3 FZ e8 e9 e68 e69 e70
   unfold gp
   obtain⟨I,hI⟩:∃I:Nat→Env→Lg→Prop,I=fun m E K=>∃(j:Nat) (acc:Za) (M' L':Lg) (ps:List (cx×AV)),m+j=ks.length∧K=M'.ak L'∧CL L c t mb aW aZ S.σ err cause (.p (some (b,i * 9))) ks acc E M' L' ps∧E 70=.i .i64 j∧(ks.drop j).foldlM (U0 (CX.az n) err cause) acc=some (S3,aN,aJ):=⟨_,rfl⟩
   refine zN I ks.length ?_ ?_
   ·rw[hI]
    refine⟨0,(S2,[⟨i,err,cause,ws⟩],[]),M2,L4,[(⟨i,err,cause,ws⟩,v4)],by omega,rfl,⟨d2,ap6,ho4,zo8,Jw,hL4,by rw[e8,e9];exact zlr,rfl,e0,e2,e3,FZ,e69,?_⟩,by simpa using e70,by simpa using A4⟩
    rcases dR with h | ⟨kb,ex,h1,h2,h3,h4⟩
    ·exact .inl h
    ·exact .inr ⟨kb,ex,by rw[e68,h1],h2,h3,by rw[e8];simp[au];exact Ne.symm h4,by rw[e9];simp[au]⟩
   ·intro m E t' K hi
    rw[hI]at hi
    obtain⟨j,acc,M',L',ps,hm,rfl,cQ,RX,hfj⟩:=hi
    unfold mB
    rw[RX,cQ.l69]
    simp only[zf,yP]
    unfold mA
    rw[zM]
    refine⟨fun hlt=>?_,fun Bu=>?_⟩
    ·have hj:j<ks.length:=by omega
     obtain⟨acc',h1,h2⟩:=zbq _ ks hj acc _ hfj
     refine zgJ hf.f140 ih cQ hc hj RX hkk.2 h1 ?_
     intro E' M1 L1' ps' FO h70
     rw[hI]
     exact⟨m-1,by omega,j+1,acc',M1,L1',ps',by omega,rfl,FO,h70,h2⟩
    ·have hj:j=ks.length:=by omega
     subst hj
     rw[List.drop_length]at hfj
     simp at hfj
     subst hfj
     obtain⟨x3,hx3,_,LY⟩:=cQ.same.get' hx
     obtain⟨b',c1,c2,c3,c4,c5⟩:=cQ.d.fo (F:=F) hx3
     rw[a1]at c1
     cases c1
     unfold tN
     rw[cQ.l0,cQ.N0]
     have q0:aq (M'.ak L') (b,i * 9) none=some (.i .i64 x.node):=by have:=c4 L' 0 (by omega);rw[←LY];simpa[One.cells]using this
     simp[cQ.d.f1,q0]
     refine (Wq hf.f139 (z8 cQ.d.tree) M7).mono ?_
     rintro _ K' bU
     rw[xt]at bU
     rw[bU]
     have M8:=cQ.d.aD ns
     have ap7:=cQ.ap.own (b:=t) (by rw[cQ.d.tree];simp) (.abs (xG t ns))
     simp
     exact⟨_,zx.refl _,hQ _ _ ⟨_,L',_,_,rfl,rfl,M8,ap7,cQ.out.same ⟨rfl,rfl⟩ rfl rfl,cQ.same.trans ⟨rfl,rfl⟩,cQ.fr,ps,cQ.pm,cQ.res⟩⟩
  rcases oV with⟨h1,rfl,bU⟩ | ⟨kb,ex,h1,h2,bU⟩
  ·rw[bU]
   refine key L3 _ ap5 u9 TO TE oT (.inl h1) ?_ ?_ ?_ ?_ ?_ ?_ ?_ ?_ ?_<;>simp
  ·have hk':=yI.1 h1
   rw[bU,yH hk'.1]
   have hkL:L kb=none:=TE kb hk'.2
   refine key (L3.put kb (.raw (.cells (eB ks)))) _ (ap5.dx hk'.1 _) (u9.put hk'.2 _) (TO.put hkL _) ?_ (oT.mono fun q _ hq=>zb _ _ _ (by rintro rfl;exact hq hk'.2)) (.inr ⟨kb,ex,h2,ze _ _ _,hkL,?_⟩) ?_ ?_ ?_ ?_ ?_ ?_ ?_ ?_ ?_<;>try simp
   ·intro r hr
    by_cases e:r=kb
    ·subst e;exact hkL
    ·rw[zb _ _ _ e]at hr;exact TE r hr
   ·rintro rfl
    have:=oT.o1.block (b:=kb) rfl
    rw[hk'.2]at this;cases this
end
end
section
variable {F:Nat→Option aT}
structure m8 (σ σ':Cs):Prop where
 t:σ'.t=σ.t
 names:∃l,σ'.names=σ.names++l
theorem aR.sub {σ σ':Cs}(h:aR σ σ'):m8 σ σ':=⟨h.t,[],by simp[h.names]⟩
theorem m8.trans {a b d:Cs}(h:m8 a b)(k:m8 b d):m8 a d:=by
 obtain⟨l,hl⟩:=h.names
 obtain⟨m,hm⟩:=k.names
 exact⟨k.t.trans h.t,l++m,by rw[hm,hl,List.append_assoc]⟩
structure CO (c t mb:Nat)(S S':CX)(L:Lg)(aW aZ:AV)(M' L':Lg):Prop where
 d:aU c S'.σ t mb aW aZ M'
 ap:yk M' L' c
 out:aY c S' L'
 sub:m8 S.σ S'.σ
 fr:dw S.σ L L'
 has:∀r,L' r=none→L r=none
structure eZ (c:Nat)(S S':CX)(L L2:Lg):Prop where
 own:L2 c=some (.abs (YG c S'.σ))
 out:aY c S' L2
 sub:m8 S.σ S'.σ
 fr:∀r,L r≠none→r≠c→S.σ.t≠some r→(∀o∈S.σ.af,o.c≠some r)→L2 r=L r
 has:∀r,L2 r=none→L r=none
section
variable {M L L0:Lg} {c t mb:Nat} {aW aZ:AV} {S S':CX} {Q:AV→Lg→Prop}
theorem aY.zoz (o:aY c S L)(d:LC):aY c S (L.put c d):=by
 refine⟨fun s hs=>⟨(o.bQ s hs).1,?_⟩,fun o1 h1 a h2=>⟨(o.bB o1 h1 a h2).1,(o.bB o1 h1 a h2).2.1,?_⟩⟩
 ·rw[zb _ _ _ (o.bQ s hs).1];exact (o.bQ s hs).2
 ·rw[zb _ _ _ (o.bB o1 h1 a h2).1];exact (o.bB o1 h1 a h2).2.2
theorem CO.shut {M' L':Lg}(h:CO c t mb S S' L aW aZ M' L')(hc:L c≠none):zx (M'.ak L') (L'.put c (.abs (YG c S'.σ)))∧eZ c S S' L (L'.put c (.abs (YG c S'.σ))):=by
 refine⟨h.d.shut h.ap,ze _ _ _,h.out.zoz _,h.sub,?_,?_⟩
 ·intro r hr h1 h2 h3
  rw[zb _ _ _ h1];exact h.fr r hr h2 h3
 ·intro r hr
  by_cases e:r=c
  ·subst e;rw[ze]at hr;cases hr
  ·rw[zb _ _ _ e]at hr;exact h.has r hr
theorem UH.shut {v1 v2:AV}{aN:List cx}{aJ:List (Int×Int)}{L':Lg}(h:UH L L' v1 v2 aN aJ)(hc:L c≠none)(d:LC):UH L (L'.put c d) v1 v2 aN aJ:=by
 obtain⟨ps,h1,h2⟩:=h
 exact⟨ps,h1,h2.mono fun b hb hK=>zb _ _ _ (by rintro rfl;exact hc hb)⟩
def CX.bw (S:CX)(id parent:Int):Option (CX×List cx) :=
 if 0≤parent then match S.σ.af[parent.toNat]? with
  | none=>none
  | some up=>if up.err=0 then some (S,[])else match S.az 200 id up.err up.cause with
   | none=>none
   | some r=>some (r.1,r.2.1)
 else none
theorem VN (hf:BQ F){id parent:Int}{aN:List cx}(h:S.bw id parent=some (S',aN))(hd:aU c S.σ t mb aW aZ M)(ha:yk M L c)(ho:aY c S L)(hc:L c≠none) :
  zd F gZ [.p (some (c,0)),.i .i64 id,.i .i64 parent] (M.ak L) fun v K'=>∃M' L' v2 aJ,K'=M'.ak L'∧CO c t mb S S' L aW aZ M' L'∧aR S.σ S'.σ∧UH L L' v v2 aN aJ:=by
 refine zr ?_
 intro Q hQ
 unfold CX.bw at h
 split at h
 case isFalse=>cases h
 rename_i h0
 obtain⟨i,rfl⟩:=Int.eq_ofNat_of_zero_le h0
 simp only[Int.toNat_natCast]at h
 split at h
 case h_1=>cases h
 rename_i up aI
 apply Q4 hf.code
 unfold tL
 obtain⟨b,a1,a2,a3,a4,a5⟩:=hd.fo (F:=F) aI
 simp[hd.f2,a3,a5]
 intro b6 Jg
 have hb:=yI.1 Jg
 rw[zu (n:=9) (ze _ _ _) (One.one up) (One.len up) (by simp),zA]
 have hsp:zo [AV.i .i64 0,.b false,.p none,.i .i64 0,.i .i64 0,.i .i64 0,.b false,.b false,.i .i64 0] 0 up.cells=up.cells:=rfl
 rw[hsp,yH hb.1]
 have ER:=ha.dx hb.1 (.raw (.cells up.cells))
 have g:(M.ak (L.put b6 (.raw (.cells up.cells)))) b6=some (.raw (.cells up.cells)):=by rw[yG hb.1,ze]
 have r3:aq (M.ak (L.put b6 (.raw (.cells up.cells)))) (b6,3) none=some (.i .i64 up.err):=by rw[zj g];rfl
 have r4:aq (M.ak (L.put b6 (.raw (.cells up.cells)))) (b6,4) none=some (.i .i64 up.cause):=by rw[zj g];rfl
 have dN:=ho.put hb.2 (.raw (.cells up.cells))
 have fR:∀r,(L.put b6 (.raw (.cells up.cells))) r=none→L r=none:=fun r hr=>by
  by_cases e:r=b6
  ·subst e;exact hb.2
  ·rwa [zb _ _ _ e]at hr
 have A6:dw S.σ L (L.put b6 (.raw (.cells up.cells))):=(dw.refl _ _).put hb.2 _
 split at h
 ·rename_i he
  cases h
  simp[r3,he]
  exact⟨_,zx.refl _,hQ _ _ ⟨M,_,.sl none 0 0 0,[],rfl,⟨hd,ER,dN,(aR.refl _).sub,A6,fR⟩,aR.refl _,[],rfl,cL.nil _ _⟩⟩
 ·rename_i he
  split at h
  case h_1=>cases h
  rename_i r hr
  cases h
  simp[r3,r4,he]
  have Ep:(L.put b6 (.raw (.cells up.cells))) c≠none:=fun h9=>hc (fR c h9)
  refine (YD hf.f141 200 _ r.1 _ _ _ r.2.1 r.2.2 hr c t mb aW aZ M _ hd ER dN Ep).mono ?_
  rintro _ K' ⟨M',L',w1,w2,rfl,rfl,Sv,Bw,mS,j4,EH,ps,hps,hres⟩
  have GX:∀r,L' r=none→L r=none:=fun q hq=>by
   rcases Classical.em ((L.put b6 (.raw (.cells up.cells))) q=none)with e | e
   ·exact fR q e
   ·exact absurd hq (EH.has j4 mS e)
  simp
  exact⟨_,zx.refl _,hQ _ _ ⟨M',L',w2,r.2.2,rfl,⟨Sv,Bw,mS,j4.sub,A6.trans (aR.refl _) EH,GX⟩,j4,ps,hps,hres.low fun q hq _=>fR q hq⟩⟩
def CX.fH (S:CX)(o:One)(parent:Int):CX:={ S with σ:=S.σ.add o parent }
theorem zgS (o:One)(parent:Int):m8 S.σ (S.fH o parent).σ:=⟨rfl,[(o.c,(zP S.σ.tree parent (!o.free)).2.1)],by simp[CX.fH,Cs.add,Cs.names]⟩
theorem aY.BE (ho:aY c S L){o:One}(h:o.c=none)(parent:Int):aY c (S.fH o parent) L:=by
 refine⟨ho.bQ,fun o1 h1 a h2=>?_⟩
 have dy:o1∈S.σ.af++[{ o with node:=(zP S.σ.tree parent (!o.free)).2.1,timer:=-1 }]:=h1
 rcases List.mem_append.1 dy with dy | dy
 ·exact ho.bB o1 dy a h2
 ·simp at dy;subst dy;rw[h]at h2;cases h2
def CX.aG (S:CX)(o:One)(parent:Int)(a:Nat):CX:={ S with σ:=S.σ.add { o with c:=some a } parent,χ:=xd S.χ a .sg }
theorem aY.aG (ho:aY c S L){o:One}{a:Nat}(ha:L a=none)(hac:a≠c)(parent:Int):aY c (S.aG o parent a) (L.put a (.abs (yy a .sg))):=by
 have hn:∀r P,L r=some P→r≠a:=by rintro r P h rfl;rw[ha]at h;cases h
 refine⟨fun s hs=>?_,fun o1 h1 a1 h2=>?_⟩
 ·have:=ho.bQ s hs
  exact⟨this.1,by rw[zb _ _ _ (hn _ _ this.2)];exact this.2⟩
 have dy:o1∈S.σ.af++[{ ({ o with c:=some a }:One)with node:=(zP S.σ.tree parent (!o.free)).2.1,timer:=-1 }]:=h1
 rcases List.mem_append.1 dy with dy | dy
 ·have:=ho.bB o1 dy a1 h2
  have e:a1≠a:=hn _ _ this.2.2
  exact⟨this.1,this.2.1,by rw[zb _ _ _ e];simp[CX.aG,xd,e,this.2.2]⟩
 ·simp at dy;subst dy
  simp at h2;subst h2
  refine⟨hac,?_,by rw[ze];simp[CX.aG,xd]⟩
  intro h9
  exact hn _ _ (ho.bQ a h9).2 rfl
theorem zcV (o:One)(parent:Int)(a:Nat):m8 S.σ (S.aG o parent a).σ:=⟨rfl,[(some a,(zP S.σ.tree parent (!o.free)).2.1)],by simp[CX.aG,Cs.add,Cs.names]⟩
abbrev Fa:=CX×Int×List cx×Int
def CX.bM (S:CX):Bool:=Em S.σ.tree&&decide (S.σ.af.length≤1000)
def One.zero:One:=⟨0,false,none,0,0,0,false,false,0⟩
def CX.aL (S:CX)(parent:Int)(a:Nat):Option Fa :=
 if S.σ.room parent≠0 then some (S,0,[],S.σ.room parent)
 else if S.bM=true then match S.σ.af[parent.toNat]? with
  | none=>none
  | some up=>match (S.aG { One.zero with when:=up.when,has:=up.has } up.node a).bw S.σ.af.length parent with
   | none=>none
   | some r=>some (r.1,S.σ.af.length,r.2,0)
 else none
theorem Yi {σ:Cs}{parent:Int}(h:σ.room parent=0):∃i:Nat,parent=(i:Int)∧i<σ.af.length:=by
 unfold Cs.room at h
 split at h
 ·simp at h
 ·rename_i h1
  simp[Cs.has]at h1
  obtain⟨i,rfl⟩:=Int.eq_ofNat_of_zero_le h1.1
  exact⟨i,rfl,by omega⟩
theorem Xb (hf:kB F){parent:Int}(hp:∀a,L a=none→∃r,S.aL parent a=some r)(hd:aU c S.σ t mb aW aZ M)(ha:yk M L c)(ho:aY c S L)(hc:L c≠none) :
  zd F eM [.p (some (c,0)),.i .i64 parent] (M.ak L) fun v K'=>∃(a:Nat) (r:Fa) (M' L':Lg) (mW v1 v2:AV) (aJ:List (Int×Int)),(S.σ.room parent=0→L a=none)∧S.aL parent a=some r∧v=.ay [.i .i64 r.2.1,v1,.i .i64 r.2.2.2]∧K'=M'.ak L'∧CO c t mb S r.1 L mW aZ M' L'∧UH L L' v1 v2 r.2.2.1 aJ:=by
 refine zr ?_
 intro Q hQ
 apply Q3 hf.code
 unfold tK tJ
 refine (Zu hf.f128 hd L parent).mono ?_
 rintro _ K' ⟨rfl,bU⟩
 rw[bU]
 clear bU K'
 by_cases ju:S.σ.room parent=0
 case neg =>
  simp[ju]
  exact⟨_,zx.refl _,hQ _ _ ⟨0,_,M,L,aW,.sl none 0 0 0,.sl none 0 0 0,[],fun h=>absurd h ju,by simp only[CX.aL,ne_eq,ju,not_false_eq_true,if_true];rfl,rfl,rfl,⟨hd,ha,ho,(aR.refl _).sub,dw.refl _ _,fun _ h=>h⟩,[],rfl,cL.nil _ _⟩⟩
 obtain⟨i,rfl,hi⟩:=Yi ju
 have aI:S.σ.af[i]?=some S.σ.af[i]:=List.getElem?_eq_getElem hi
 generalize S.σ.af[i]=up at aI
 obtain⟨b,a1,a2,a3,a4,a5⟩:=hd.fo (F:=F) aI
 simp[ju,hd.f2,a3,a5]
 intro b8 hb8
 have hb:=yI.1 hb8
 rw[zu (n:=9) (ze _ _ _) (One.one up) (One.len up) (by simp),zA]
 have hsp:zo [AV.i .i64 0,.b false,.p none,.i .i64 0,.i .i64 0,.i .i64 0,.b false,.b false,.i .i64 0] 0 up.cells=up.cells:=rfl
 rw[hsp,yH hb.1]
 have ER:=ha.dx hb.1 (.raw (.cells up.cells))
 have g:((L.put b8 (.raw (.cells up.cells)))) b8=some (.raw (.cells up.cells)):=ze _ _ _
 have dN:=ho.put hb.2 (.raw (.cells up.cells))
 have fR:∀r,(L.put b8 (.raw (.cells up.cells))) r=none→L r=none:=fun r hr=>by
  by_cases e:r=b8
  ·subst e;exact hb.2
  ·rwa [zb _ _ _ e]at hr
 have A6:dw S.σ L (L.put b8 (.raw (.cells up.cells))):=(dw.refl _ _).put hb.2 _
 generalize BC:L.put b8 (.raw (.cells up.cells))=L1 at ER g dN fR A6
 refine (XH hf.f129).mono ?_
 rintro _ K' ⟨a,haK,rfl,bU⟩
 have kg:=yI.1 haK
 have EN:L a=none:=fR a kg.2
 have hac:a≠c:=by rintro rfl;exact hc EN
 rw[bU,yH kg.1]
 clear bU K'
 obtain⟨r,hr⟩:=hp a EN
 have hr':=hr
 unfold CX.aL at hr
 rw[if_neg (by simp[ju])]at hr
 split at hr
 case isFalse=>cases hr
 rename_i hok
 simp only[CX.bM,Bool.and_eq_true,decide_eq_true_eq]at hok
 simp only[Int.toNat_natCast,aI]at hr
 split at hr
 case h_1=>cases hr
 rename_i r1 iC
 cases hr
 have Mg:=ER.dx kg.1 (.abs (yy a .sg))
 have hn8:b8≠a:=by rintro rfl;rw[g]at kg;cases kg.2
 have g2:(L1.put a (.abs (yy a .sg))) b8=some (.raw (.cells up.cells)):=by rw[zb _ _ _ hn8];exact g
 have Jf:∀X:Lg,M b8=none→aq (M.ak X) (b8,0) none=aq X (b8,0) none∧aq (M.ak X) (b8,5) none=aq X (b8,5) none∧aq (M.ak X) (b8,6) none=aq X (b8,6) none:=fun X h=>by simp[aq,yG h]
 have rd:∀X:Lg,X b8=some (.raw (.cells up.cells))→aq X (b8,0) none=some (.i .i64 up.node)∧aq X (b8,5) none=some (.i .i64 up.when)∧aq X (b8,6) none=some (.b up.has):=fun X h=>⟨by rw[zj h];rfl,by rw[zj h];rfl,by rw[zj h];rfl⟩
 have q1:=Jf L1 hb.1
 have q2:=Jf (L1.put a (.abs (yy a .sg))) hb.1
 rw[(rd _ g).1,(rd _ g).2.1,(rd _ g).2.2]at q1
 rw[(rd _ g2).1,(rd _ g2).2.1,(rd _ g2).2.2]at q2
 simp[q2,zF,zo,zp,zq,AV.cellsOf,yb,yC,XT,q1]
 have hoS:aY c (S.aG { One.zero with when:=up.when,has:=up.has } up.node a) (L1.put a (.abs (yy a .sg))):=dN.aG kg.2 hac _
 have hcell:AV.agg [.i .i64 0,.b false,.p (some (a,0)),.i .i64 0,.i .i64 0,.i .i64 up.when,.b up.has,.b false,.i .i64 0]=AV.agg ({ ({ One.zero with when:=up.when,has:=up.has }:One)with c:=some a }:One).cells:=rfl
 rw[hcell]
 refine (vK hf.f121 hd Mg ({ ({ One.zero with when:=up.when,has:=up.has }:One)with c:=some a }:One) up.node hok.1 hok.2).mono ?_
 rintro _ K' ⟨rfl,M3,Ac,rfl,M8,HY⟩
 have Sy:(L1.put a (.abs (yy a .sg))) c≠none:=by rw[zb _ _ _ (Ne.symm hac)];exact fun h9=>hc (fR c h9)
 have GX:∀q,(L1.put a (.abs (yy a .sg))) q=none→L q=none:=fun q hq=>by
  by_cases e:q=a
  ·subst e;exact EN
  ·rw[zb _ _ _ e]at hq;exact fR q hq
 have Su:aU c (S.aG { One.zero with when:=up.when,has:=up.has } up.node a).σ t mb Ac aZ M3:=M8
 refine⟨by simp[yb,yC,XT,q1,q2],?_⟩
 refine (VN hf.f142 iC Su HY hoS Sy).mono ?_
 rintro v K' ⟨M4,L4,v2,aJ,rfl,co,_,hres⟩
 have hsub:m8 S.σ (S.aG { One.zero with when:=up.when,has:=up.has } up.node a).σ:=zcV _ _ _
 have frS:dw S.σ L L4:=by
  intro q hq h1 h2
  have e1:(L1.put a (.abs (yy a .sg))) q=L q:=by rw[zb _ _ _ (by rintro rfl;exact hq EN)];exact A6 q hq h1 h2
  rw[←e1]
  refine co.fr q (by rw[e1];exact hq) h1 ?_
  intro o1 dN h9
  have dy:o1∈S.σ.af++[{ ({ ({ One.zero with when:=up.when,has:=up.has }:One)with c:=some a }:One)with node:=(zP S.σ.tree up.node (!One.zero.free)).2.1,timer:=-1 }]:=dN
  rcases List.mem_append.1 dy with dy | dy
  ·exact h2 o1 dy h9
  ·simp at dy;subst dy;simp at h9;subst h9;exact hq EN
 simp
 exact⟨_,zx.refl _,hQ _ _ ⟨a,_,M4,L4,Ac,v,v2,aJ,fun _=>EN,hr',rfl,rfl,⟨co.d,co.ap,co.out,hsub.trans co.sub,frS,fun q hq=>GX q (co.has q hq)⟩,by obtain⟨ps,h1,h2⟩:=hres;exact⟨ps,h1,h2.low fun q hq _=>GX q hq⟩⟩⟩
def CX.bF (S:CX)(parent:Int):Option (CX×Int×Int) :=
 if S.σ.room parent≠0 then some (S,0,S.σ.room parent)
 else if S.bM=true then match S.σ.af[parent.toNat]? with
  | none=>none
  | some up=>some (S.fH { One.zero with free:=true } up.node,S.σ.af.length,0)
 else none
theorem UN (hf:pM F){parent:Int}{r:CX×Int×Int}(hp:S.bF parent=some r)(hd:aU c S.σ t mb aW aZ M)(ha:yk M L c)(ho:aY c S L)(hc:L c≠none) :
  zd F gX [.p (some (c,0)),.i .i64 parent] (M.ak L) fun v K'=>∃(M' L':Lg) (mW:AV),v=.ay [.i .i64 r.2.1,.i .i64 r.2.2]∧K'=M'.ak L'∧CO c t mb S r.1 L mW aZ M' L':=by
 refine zr ?_
 intro Q hQ
 apply Q1 hf.code
 unfold tC
 refine (Zu hf.f128 hd L parent).mono ?_
 rintro _ K' ⟨rfl,bU⟩
 rw[bU]
 clear bU K'
 unfold CX.bF at hp
 by_cases ju:S.σ.room parent=0
 case neg =>
  rw[if_pos ju]at hp
  cases hp
  simp[ju]
  exact⟨_,zx.refl _,hQ _ _ ⟨M,L,aW,rfl,rfl,hd,ha,ho,(aR.refl _).sub,dw.refl _ _,fun _ h=>h⟩⟩
 rw[if_neg (by simp[ju])]at hp
 obtain⟨i,rfl,hi⟩:=Yi ju
 have aI:S.σ.af[i]?=some S.σ.af[i]:=List.getElem?_eq_getElem hi
 generalize S.σ.af[i]=up at aI
 split at hp
 case isFalse=>cases hp
 rename_i hok
 simp only[CX.bM,Bool.and_eq_true,decide_eq_true_eq]at hok
 simp only[Int.toNat_natCast,aI]at hp
 cases hp
 obtain⟨b,a1,a2,a3,a4,a5⟩:=hd.fo (F:=F) aI
 have r0:aq (M.ak L) (b,i * 9) none=some (.i .i64 up.node):=by have:=a4 L 0 (by omega);simpa[One.cells]using this
 simp[ju,hd.f2,a3,r0,zF,zo,zp,zq,AV.cellsOf]
 have hcell:AV.agg [.i .i64 0,.b true,.p none,.i .i64 0,.i .i64 0,.i .i64 0,.b false,.b false,.i .i64 0]=AV.agg ({ One.zero with free:=true }:One).cells:=rfl
 rw[hcell]
 refine (vK hf.f121 hd ha { One.zero with free:=true } up.node hok.1 hok.2).mono ?_
 rintro _ K' ⟨rfl,M3,Ac,rfl,M8,HY⟩
 simp
 exact⟨_,zx.refl _,hQ _ _ ⟨M3,L,Ac,rfl,rfl,M8,HY,ho.BE rfl _,zgS _ _,dw.refl _ _,fun _ h=>h⟩⟩
def CX.bC (S:CX)(id cause:Int):Option (CX×List cx×List (Int×Int)×Int) :=
 if S.σ.has id=false then some (S,[],[],4)else match S.σ.af[id.toNat]? with
  | none=>none
  | some x=>if x.free=true then some (S,[],[],1)else match S.az 200 id 1 (if cause<1 then 1 else cause)with
   | none=>none
   | some r=>some (r.1,r.2.1,r.2.2,0)
theorem dU {σ:Cs}{id:Int}(h:σ.has id=true):∃i:Nat,id=(i:Int)∧i<σ.af.length:=by
 simp[Cs.has]at h
 obtain⟨i,rfl⟩:=Int.eq_ofNat_of_zero_le h.1
 exact⟨i,rfl,by omega⟩
theorem CO.refl (hd:aU c S.σ t mb aW aZ M)(ha:yk M L c)(ho:aY c S L):CO c t mb S S L aW aZ M L:=⟨hd,ha,ho,(aR.refl _).sub,dw.refl _ _,fun _ h=>h⟩
theorem zaJ (hf:pK F){id cause:Int}{r:CX×List cx×List (Int×Int)×Int}(hp:S.bC id cause=some r)(hd:aU c S.σ t mb aW aZ M)(ha:yk M L c)(ho:aY c S L)(hc:L c≠none) :
  zd F gU [.p (some (c,0)),.i .i64 id,.i .i64 cause] (M.ak L) fun v K'=>∃(M' L':Lg) (v1 v2:AV),v=.ay [v1,v2,.i .i64 r.2.2.2]∧K'=M'.ak L'∧CO c t mb S r.1 L aW aZ M' L'∧UH L L' v1 v2 r.2.1 r.2.2.1:=by
 refine zr ?_
 intro Q hQ
 apply QX hf.code
 unfold th td
 refine (xF hf.f127 hd L id).mono ?_
 rintro _ K' ⟨rfl,bU⟩
 rw[bU]
 clear bU K'
 unfold CX.bC at hp
 cases hh:S.σ.has id
 ·rw[if_pos hh]at hp
  cases hp
  simp
  exact⟨_,zx.refl _,hQ _ _ ⟨M,L,_,_,rfl,rfl,CO.refl hd ha ho,[],rfl,cL.nil _ _⟩⟩
 rw[if_neg (by simp[hh])]at hp
 obtain⟨i,rfl,hi⟩:=dU hh
 simp only[Int.toNat_natCast]at hp
 split at hp
 case h_1=>cases hp
 rename_i x hx
 obtain⟨b,a1,a2,a3,a4,a5⟩:=hd.fo (F:=F) hx
 have r1:aq (M.ak L) (b,i * 9+1) none=some (.b x.free):=a4 L 1 (by omega)
 simp[hd.f2,a3,r1]
 split at hp
 ·rename_i hfree
  cases hp
  simp[hfree]
  exact⟨_,zx.refl _,hQ _ _ ⟨M,L,_,_,rfl,rfl,CO.refl hd ha ho,[],rfl,cL.nil _ _⟩⟩
 ·rename_i hfree
  split at hp
  case h_1=>cases hp
  rename_i rr hrr
  cases hp
  have key:fK F Q (.p (some (c,0))) (.i .i64 i) (.i .i64 (if cause<1 then 1 else cause)) (M.ak L):=by
   unfold fK
   refine (YD hf.f141 200 _ rr.1 _ _ _ rr.2.1 rr.2.2 hrr c t mb aW aZ M L hd ha ho hc).mono ?_
   rintro _ K' ⟨M',L',w1,w2,rfl,rfl,Sv,Bw,mS,j4,EH,hres⟩
   simp
   refine⟨_,zx.refl _,hQ _ _ ⟨M',L',w1,w2,rfl,rfl,⟨Sv,Bw,mS,j4.sub,EH,fun q hq=>?_⟩,hres⟩⟩
   rcases Classical.em (L q=none)with e | e
   ·exact e
   ·exact absurd hq (EH.has j4 mS e)
  simp[hfree]
  refine⟨fun h9=>?_,fun h9=>?_⟩
  ·rwa [if_pos h9]at key
  ·rwa [if_neg (by omega)]at key
end
end
section
variable {F:Nat→Option aT}
section
variable {M L L0:Lg} {c t mb:Nat} {aW aZ:AV} {S S':CX} {Q:AV→Lg→Prop}
def CX.bO (S:CX)(id:Int):Option (CX×List cx×List (Int×Int)×Int) :=
 if S.σ.has id=false then some (S,[],[],4)else match S.σ.af[id.toNat]? with
  | none=>none
  | some x=>if x.own=false then some (S,[],[],1)else match S.az 200 id 2 2 with
   | none=>none
   | some r=>some (r.1,r.2.1,r.2.2,0)
theorem zaH (hf:iA F){id err cause:Int}{r:CX×List cx×List (Int×Int)}(hp:S.az 200 id err cause=some r)(hd:aU c S.σ t mb aW aZ M)(ha:yk M L c)(ho:aY c S L)(hc:L c≠none) :
  zd F dL [.p (some (c,0)),.i .i64 id,.i .i64 err,.i .i64 cause] (M.ak L) fun v K'=>∃M' L' v1 v2,v=.ay [v1,v2]∧K'=M'.ak L'∧CO c t mb S r.1 L aW aZ M' L'∧aR S.σ r.1.σ∧UH L L' v1 v2 r.2.1 r.2.2:=by
 refine (YD hf 200 _ r.1 _ _ _ r.2.1 r.2.2 hp c t mb aW aZ M L hd ha ho hc).mono ?_
 rintro _ K' ⟨M',L',w1,w2,rfl,rfl,Sv,Bw,mS,j4,EH,hres⟩
 refine⟨M',L',w1,w2,rfl,rfl,⟨Sv,Bw,mS,j4.sub,EH,fun q hq=>?_⟩,j4,hres⟩
 rcases Classical.em (L q=none)with e | e
 ·exact e
 ·exact absurd hq (EH.has j4 mS e)
theorem zbh (hf:pH F){id:Int}{r:CX×List cx×List (Int×Int)×Int}(hp:S.bO id=some r)(hd:aU c S.σ t mb aW aZ M)(ha:yk M L c)(ho:aY c S L)(hc:L c≠none) :
  zd F fm [.p (some (c,0)),.i .i64 id] (M.ak L) fun v K'=>∃(M' L':Lg) (v1 v2:AV),v=.ay [v1,v2,.i .i64 r.2.2.2]∧K'=M'.ak L'∧CO c t mb S r.1 L aW aZ M' L'∧UH L L' v1 v2 r.2.1 r.2.2.1:=by
 refine zr ?_
 intro Q hQ
 apply QO hf.code
 unfold sQ
 refine (xF hf.f127 hd L id).mono ?_
 rintro _ K' ⟨rfl,bU⟩
 rw[bU]
 clear bU K'
 unfold CX.bO at hp
 cases hh:S.σ.has id
 ·rw[if_pos hh]at hp
  cases hp
  simp
  exact⟨_,zx.refl _,hQ _ _ ⟨M,L,_,_,rfl,rfl,CO.refl hd ha ho,[],rfl,cL.nil _ _⟩⟩
 rw[if_neg (by simp[hh])]at hp
 obtain⟨i,rfl,hi⟩:=dU hh
 simp only[Int.toNat_natCast]at hp
 split at hp
 case h_1=>cases hp
 rename_i x hx
 obtain⟨b,a1,a2,a3,a4,a5⟩:=hd.fo (F:=F) hx
 have r1:aq (M.ak L) (b,i * 9+7) none=some (.b x.own):=a4 L 7 (by omega)
 simp[hd.f2,a3,r1]
 split at hp
 ·rename_i hfree
  cases hp
  simp[hfree]
  exact⟨_,zx.refl _,hQ _ _ ⟨M,L,_,_,rfl,rfl,CO.refl hd ha ho,[],rfl,cL.nil _ _⟩⟩
 ·rename_i hfree
  split at hp
  case h_1=>cases hp
  rename_i rr hrr
  cases hp
  simp at hfree
  simp[hfree]
  refine (zaH hf.f141 hrr hd ha ho hc).mono ?_
  rintro _ K' ⟨M',L',w1,w2,rfl,rfl,co,_,hres⟩
  simp
  exact⟨_,zx.refl _,hQ _ _ ⟨M',L',w1,w2,rfl,rfl,co,hres⟩⟩
def CX.bg (S:CX)(k:Int):Option (CX×Bool×Int) :=
 if 0≤k∧k<S.σ.ai.length then match S.σ.ai[k.toNat]? with
  | none=>none
  | some x=>match Ir S.σ.tree x.node with
   | none=>none
   | some ns=>some ({ S with σ:={ S.σ with ai:=S.σ.ai.set k.toNat { x with ak:=true },tree:=ns } },!x.ak,0)
 else some (S,false,4)
theorem VW (hf:pJ F){k:Int}{r:CX×Bool×Int}(hp:S.bg k=some r)(hd:aU c S.σ t mb aW aZ M)(ha:yk M L c)(ho:aY c S L) :
  zd F gR [.p (some (c,0)),.i .i64 k] (M.ak L) fun v K'=>∃(M':Lg),v=.ay [.b r.2.1,.i .i64 r.2.2]∧K'=M'.ak L∧CO c t mb S r.1 L aW aZ M' L:=by
 refine zr ?_
 intro Q hQ
 apply QU hf.code
 unfold s6 sZ
 unfold CX.bg at hp
 split at hp
 case isFalse hn =>
  cases hp
  have fin:zm (some (.ay [.b false,.i .i64 4])) Q (M.ak L):=⟨_,zx.refl _,hQ _ _ ⟨M,rfl,rfl,CO.refl hd ha ho⟩⟩
  by_cases h1:k<0
  ·simpa[h1]using fin
  ·have h2:(S.σ.ai.length:Int)≤k:=by omega
   simpa[h1,hd.f3,hd.ai.len,h2]using fin
 rename_i hk
 obtain⟨i,rfl⟩:=Int.eq_ofNat_of_zero_le hk.1
 simp only[Int.toNat_natCast]at hp
 split at hp
 case h_1=>cases hp
 rename_i x hx
 split at hp
 case h_1=>cases hp
 rename_i ns hns
 cases hp
 have h1:¬((i:Int)<0):=by omega
 have h2:¬((S.σ.ai.length:Int)≤(i:Int)):=by omega
 simp[h1,hd.f3,hd.ai.len,h2]
 unfold sW
 obtain⟨b,a1,a2,a3,a4⟩:=hd.fa (F:=F) hx
 have r2:aq (M.ak L) (b,i * 3+2) none=some (.b x.ak):=a4 L 2 (by omega)
 have hlt:i * 3+2<(zl cK.cells S.σ.ai).length:=by have:=xT cK.len S.σ.ai i x hx;omega
 simp[hd.f3,a3,r2]
 rw[zD (z8 a2) hlt rfl,xt]
 have h2:=hd.od (o':={ x with ak:=true }) hx a1 (j:=2) (v:=.b true) (by omega) rfl
 have By:=ha.own (b:=b) (by rw[a2];simp) (.raw (.cells ((zl cK.cells S.σ.ai).set (i * 3+2) (.b true))))
 generalize (M.put b (.raw (.cells ((zl cK.cells S.σ.ai).set (i * 3+2) (.b true)))))=M2 at h2 By
 have FF:({ S.σ with ai:=S.σ.ai.set i { x with ak:=true } }:Cs).ai[i]?=some { x with ak:=true }:=by
  have:i<S.σ.ai.length:=(List.getElem?_eq_some_iff.1 hx).1
  simp[this]
 obtain⟨b',c1,c2,c3,c4⟩:=h2.fa (F:=F) FF
 rw[a1]at c1
 cases c1
 have r0:aq (M2.ak L) (b,i * 3) none=some (.i .i64 x.node):=by have:=c4 L 0 (by omega);simpa[cK.cells]using this
 simp[h2.f1,r0]
 refine (Wq hf.f139 (z8 h2.tree) hns).mono ?_
 rintro _ K' bU
 rw[xt]at bU
 rw[bU]
 clear bU K'
 have h3:=h2.aD ns
 have ha3:=By.own (b:=t) (by rw[h2.tree];simp) (.abs (xG t ns))
 simp
 exact⟨_,zx.refl _,hQ _ _ ⟨_,rfl,rfl,h3,ha3,ho.same ⟨rfl,rfl⟩ rfl rfl,⟨rfl,[],by simp[Cs.names]⟩,dw.refl _ _,fun _ h=>h⟩⟩
theorem aU.zmV {σ:Cs}(h:aU c σ t mb aW aZ M){o:cK}{b:Nat}(hap:yk M L c){K1:Lg}(g:Grown (M.ak L) aZ b (zl cK.cells σ.ai++o.cells) K1):∃M1,aU c { σ with ai:=σ.ai++[o] } t mb aW (.sl (some (b,0)) (σ.ai.length+1) (σ.ai.length+1) 3) M1∧yk M1 L c∧zx (K1.put c (.raw (.cells [ptr σ.t,.p (some (t,0)),aW,.sl (some (b,0)) (σ.ai.length+1) (σ.ai.length+1) 3,.m (some mb)]))) (M1.ak L):=by
 have SB:=yI.1 g.fresh
 have fr:=h.fresh SB.1
 let M0:Lg:=fun r=>if au aZ=some r then none else M r
 have hM0:∀r,au aZ≠some r→M0 r=M r:=fun r hr=>by simp[M0,hr]
 have FX:∀r,au aZ=some r→M0 r=none:=fun r hr=>by simp[M0,hr]
 let M1:Lg:=(M0.put b (.raw (.cells (zl cK.cells σ.ai++o.cells)))).put c (.raw (.cells [ptr σ.t,.p (some (t,0)),aW,.sl (some (b,0)) (σ.ai.length+1) (σ.ai.length+1) 3,.m (some mb)]))
 have e1:∀r,r≠b→r≠c→au aZ≠some r→M1 r=M r:=fun r h1 h2 h3=>by
  show (Lg.put _ _ _) r=_
  rw[zb _ _ _ h2,zb _ _ _ h1,hM0 r h3]
 have eb:M1 b=some (.raw (.cells (zl cK.cells σ.ai++o.cells))):=by
  show (Lg.put _ _ _) b=_
  rw[zb _ _ _ fr.1,ze]
 have hfl:zl cK.cells (σ.ai++[o])=zl cK.cells σ.ai++o.cells:=by rw[zU];simp[zl]
 have hlen:(zl cK.cells σ.ai++o.cells).length=(σ.ai.length+1) * 3:=by rw[List.length_append,zY cK.len,cK.len];omega
 have nt:au aZ≠some t:=fun h9=>(h.na t h9).2.1 rfl
 have nm:au aZ≠some mb:=fun h9=>(h.na mb h9).2.2.1 rfl
 refine⟨M1,⟨ze _ _ _,by rw[e1 t (Ne.symm fr.2.1) (Ne.symm h.n1) nt];exact h.tree,?_,?_,?_,h.n1,h.n2,h.n3,?_,?_,?_⟩,?_,?_⟩
 ·obtain⟨es,h1,h2⟩:=h.map
  exact⟨es,by rw[e1 mb (Ne.symm fr.2.2.1) (Ne.symm h.n2) nm];exact h1,h2⟩
 ·refine h.af.mono fun b' hb'=>e1 b' ?_ (h.no b' hb').1 ?_
  ·rintro rfl;exact fr.2.2.2.1 hb'
  ·intro h9;exact (h.na b' h9).2.2.2 hb'
 ·exact .inr ⟨b,3,by simp,by simp,.inr rfl,by rw[eb,hfl],by rw[hfl];simpa using hlen⟩
 ·exact h.no
 ·intro b' hb'
  simp[au]at hb';subst hb'
  exact⟨fr.1,fr.2.1,fr.2.2.1,fr.2.2.2.1⟩
 ·intro q hq
  by_cases q1:q=c
  ·exact .inl q1
  by_cases q2:q=b
  ·subst q2;exact .inr (.inr (.inr (.inr rfl)))
  by_cases q3:au aZ=some q
  ·exfalso;apply hq
   show (Lg.put _ _ _) q=_
   rw[zb _ _ _ q1,zb _ _ _ q2,FX q q3]
  rw[e1 q q2 q1 q3]at hq
  rcases h.dom q hq with h9 | h9 | h9 | h9 | h9
  ·exact absurd h9 q1
  ·exact .inr (.inl h9)
  ·exact .inr (.inr (.inl h9))
  ·exact .inr (.inr (.inr (.inl h9)))
  ·exact absurd h9 q3
 ·intro q hq hM
  by_cases q2:q=b
  ·subst q2;exact SB.2
  by_cases q3:au aZ=some q
  ·exfalso;apply hM
   show (Lg.put _ _ _) q=_
   rw[zb _ _ _ hq,zb _ _ _ q2,FX q q3]
  rw[e1 q q2 hq q3]at hM
  exact hap q hq hM
 ·apply zx.drop
  intro r d hr
  by_cases q1:r=c
  ·subst q1
   rw[z8 (d:=_) (ze _ _ _)]at hr
   rw[ze];exact hr
  rw[zb _ _ _ q1]
  by_cases q2:r=b
  ·subst q2;rw[z8 eb]at hr;rw[g.now];exact hr
  by_cases q3:au aZ=some r
  ·exfalso
   have hz:M1 r=none:=by
    show (Lg.put _ _ _) r=_
    rw[zb _ _ _ q1,zb _ _ _ q2,FX r q3]
   rw[yG hz]at hr
   have:=hap r q1 (by rw[h.ai.block q3];simp)
   rw[this]at hr;cases hr
  rw[g.same r q2 q3]
  unfold Lg.ak at hr ⊢
  rw[e1 r q2 q1 q3]at hr
  exact hr
def Cs.cm (σ:Cs)(up:One)(prog:Int):Cs :=
 let r:=zP σ.tree up.node true
 { σ with tree:=r.1,who:=yM σ.who r.2.1 (some (-(σ.ai.length:Int)-1)),ai:=σ.ai++[⟨r.2.1,prog,false⟩] }
def CX.bI (S:CX)(id prog:Int):Option (CX×Int×List (Int×Int)×Int) :=
 if S.σ.has id=false then some (S,0,[],4)else if prog<0 then some (S,0,[],1)else if 64≤S.σ.ai.length then some (S,0,[],3)
 else if Em S.σ.tree=true then match S.σ.af[id.toNat]? with
  | none=>none
  | some up=>if up.err≠0 then match (S.σ.cm up prog).dJ S.σ.ai.length with
    | none=>none
    | some r=>some ({ S with σ:=r.1 },S.σ.ai.length,[r.2],0)
   else some ({ S with σ:=S.σ.cm up prog },S.σ.ai.length,[],0)
 else none
theorem zbK (hf:pL F){id prog:Int}{r:CX×Int×List (Int×Int)×Int}(hp:S.bI id prog=some r)(hd:aU c S.σ t mb aW aZ M)(ha:yk M L c)(ho:aY c S L)(hc:L c≠none) :
  zd F gW [.p (some (c,0)),.i .i64 id,.i .i64 prog] (M.ak L) fun v K'=>∃(M' L':Lg) (znx v2:AV),v=.ay [.i .i64 r.2.1,v2,.i .i64 r.2.2.2]∧K'=M'.ak L'∧CO c t mb S r.1 L aW znx M' L'∧bu L' v2 (zl nZ r.2.2.1) r.2.2.1.length 2∧∀b,au v2=some b→L b=none:=by
 refine zr ?_
 intro Q hQ
 apply QZ hf.code
 unfold tB tA
 refine (xF hf.f127 hd L id).mono ?_
 rintro _ K' ⟨rfl,bU⟩
 rw[bU]
 clear bU K'
 unfold CX.bI at hp
 have HU:∀k,r=(S,0,[],k)→zm (some (.ay [.i .i64 0,.sl none 0 0 0,.i .i64 k])) Q (M.ak L):=by
  rintro k rfl
  exact⟨_,zx.refl _,hQ _ _ ⟨M,L,aZ,_,rfl,rfl,CO.refl hd ha ho,.inl ⟨rfl,rfl,rfl⟩,fun b h=>by cases h⟩⟩
 cases hh:S.σ.has id
 ·rw[if_pos hh]at hp
  cases hp
  simpa using HU 4 rfl
 rw[if_neg (by simp[hh])]at hp
 obtain⟨i,rfl,hi⟩:=dU hh
 by_cases ED:prog<0
 ·rw[if_pos ED]at hp
  cases hp
  simpa[ED]using HU 1 rfl
 rw[if_neg ED]at hp
 by_cases OC:64≤S.σ.ai.length
 ·rw[if_pos OC]at hp
  cases hp
  have:(64:Int)≤(S.σ.ai.length:Int):=by omega
  simpa[ED,hd.f3,hd.ai.len,this]using HU 3 rfl
 rw[if_neg OC]at hp
 have zp0:¬(64:Int)≤(S.σ.ai.length:Int):=by omega
 split at hp
 case isFalse=>cases hp
 rename_i hkk
 simp only[Int.toNat_natCast]at hp
 split at hp
 case h_1=>cases hp
 rename_i up aI
 simp[ED,hd.f3,hd.ai.len,zp0]
 unfold tw
 obtain⟨b,a1,a2,a3,a4,a5⟩:=hd.fo (F:=F) aI
 have r0:aq (M.ak L) (b,i * 9) none=some (.i .i64 up.node):=by have:=a4 L 0 (by omega);simpa[One.cells]using this
 simp[hd.f1,hd.f2,a3,r0]
 refine (Y0 hf.f120 (z8 hd.tree) (zcE hkk) up.node true).mono ?_
 rintro _ K' ⟨rfl,bU⟩
 rw[xt]at bU
 rw[bU]
 clear bU K'
 have h2:=hd.aD (zP S.σ.tree up.node true).1
 have Mg:=ha.own (b:=t) (by rw[hd.tree];simp) (.abs (xG t (zP S.σ.tree up.node true).1))
 simp
 unfold tu
 simp[h2.f3,h2.ai.len]
 unfold tq
 obtain⟨es,m1,m2⟩:=h2.map
 obtain⟨es',s1,s2⟩:=m2.set (zP S.σ.tree up.node true).2.1 (-(S.σ.ai.length:Int)-1)
 have w1:wr .i64 (0-(S.σ.ai.length:Int))=-(S.σ.ai.length:Int):=by rw[zT (by omega) (by omega)];omega
 have w1':wr .i64 (-(S.σ.ai.length:Int))=-(S.σ.ai.length:Int):=zT (by omega) (by omega)
 have w2:wr .i64 (-(S.σ.ai.length:Int)-1)=-(S.σ.ai.length:Int)-1:=zT (by omega) (by omega)
 simp[h2.f4,w1,w1',w2,Ug,z8 m1,s1]
 rw[xt]
 have h3:=h2.IE s2
 have HY:=Mg.own (b:=mb) (by rw[m1];simp) (.raw (.map es'))
 generalize hr:zP S.σ.tree up.node true=rr at h3 HY
 generalize ((M.put t (.abs (xG t rr.1))).put mb (.raw (.map es')))=M3 at h3 HY
 unfold tn
 simp[h3.f3,zF,zo,zp,zq,AV.cellsOf]
 rw[yg (c:=[.i .i64 rr.2.1,.i .i64 prog,.b false]) _ _ (by simp[y7,zF,zo,zp,zq,AV.cellsOf]) (by simp)]
 intro b5 hb5
 have m7:=yI.1 hb5
 rw[yH m7.1]
 have ap4:=HY.dx m7.1 (.raw (.cells [.i .i64 rr.2.1,.i .i64 prog,.b false]))
 have g5:(M3.ak (L.put b5 (.raw (.cells [.i .i64 rr.2.1,.i .i64 prog,.b false])))) b5=some (.raw (.cells [.i .i64 rr.2.1,.i .i64 prog,.b false])):=by rw[yG m7.1,ze]
 have dN:=ho.put m7.2 (.raw (.cells [.i .i64 rr.2.1,.i .i64 prog,.b false]))
 have fR:∀r,(L.put b5 (.raw (.cells [.i .i64 rr.2.1,.i .i64 prog,.b false]))) r=none→L r=none:=fun r hr=>by
  by_cases e:r=b5
  ·subst e;exact m7.2
  ·rwa [zb _ _ _ e]at hr
 have A6:dw S.σ L (L.put b5 (.raw (.cells [.i .i64 rr.2.1,.i .i64 prog,.b false]))):=(dw.refl _ _).put m7.2 _
 generalize L.put b5 (.raw (.cells [.i .i64 rr.2.1,.i .i64 prog,.b false]))=L1 at ap4 g5 dN fR A6
 have bP:bu (M3.ak L1) aZ (zl cK.cells S.σ.ai) S.σ.ai.length 3:=h3.ai.mono fun b hb=>by
  have:=h3.ai.block hb
  rw[this];exact z8 this
 simp
 refine bP.app (m:=1) (by omega) rfl (by omega) (new:=[.i .i64 rr.2.1,.i .i64 prog,.b false]) (by simp[zH,g5,AB.read,cut,zp]) rfl (by simp) (by omega) ?_
 intro b6 K1 gr _
 have frb:=h3.fresh (yI.1 gr.fresh).1
 obtain⟨M4,h7,ap7,hs7⟩:=h3.zmV (o:=⟨rr.2.1,prog,false⟩) ap4 gr
 have hKc:K1 c=some (.raw (.cells [ptr S.σ.t,.p (some (t,0)),aW,aZ,.m (some mb)])):=by
  rw[gr.same c (Ne.symm frb.1) (fun h9=>(h3.na c h9).1 rfl)]
  exact z8 h3.root
 have hσ:S.σ.cm up prog={ ({ ({ S.σ with tree:=rr.1 }:Cs)with who:=yM S.σ.who rr.2.1 (some (-(S.σ.ai.length:Int)-1)) }:Cs)with ai:=S.σ.ai++[⟨rr.2.1,prog,false⟩] }:=by simp[Cs.cm,hr]
 have h8:aU c (S.σ.cm up prog) t mb aW (.sl (some (b6,0)) (S.σ.ai.length+1) (S.σ.ai.length+1) 3) M4:=by rw[hσ];exact h7
 have hob:K1 b=some (.raw (.cells (zl One.cells S.σ.af))):=by
  have hbo:=h3.af.block a1
  rw[gr.same b (by rintro rfl;exact frb.2.2.2.1 a1) (fun h9=>(h3.na b h9).2.2.2 a1)]
  exact z8 hbo
 have re:∀X,(K1.put c X) b=some (.raw (.cells (zl One.cells S.σ.af))):=fun X=>by rw[zb _ _ _ (h3.no b a1).1];exact hob
 have rce:∀X,X=K1.put c (.raw (.cells ([ptr S.σ.t,.p (some (t,0)),aW,aZ,.m (some mb)].set 3 (.sl (some (b6,0)) (S.σ.ai.length+1) (S.σ.ai.length+1) 3))))→aq X (c,2) none=some aW∧aq X (b,i * 9+3) none=some (.i .i64 up.err):=by
  rintro X rfl
  refine⟨by rw[zj (ze _ _ _)];rfl,?_⟩
  rw[zj (re _),vw One.len _ i 3 up aI (by omega)];rfl
 simp only[zf,zh,zk,Nat.zero_add,yj]
 rw[zD hKc (by simp) rfl]
 obtain⟨rc2,rc3⟩:=rce _ rfl
 simp only[List.set_cons_succ,List.set_cons_zero]at rc2 rc3 ⊢
 simp[rc2,a3,rc3]
 have N6:m8 S.σ (S.σ.cm up prog):=⟨rfl,[],by simp[Cs.cm,Cs.names]⟩
 have hoA:aY c { S with σ:=S.σ.cm up prog } L1:=dN.same ⟨rfl,rfl⟩ rfl rfl
 split at hp
 ·rename_i dS
  split at hp
  case h_1=>cases hp
  rename_i rs GN
  cases hp
  refine⟨fun _=>?_,fun h9=>absurd h9 dS⟩
  refine zd.pre hs7 ?_
  refine (Yz hf.f140 h8 ap7 GN).mono ?_
  rintro _ K' ⟨rfl,M5,rfl,hd5,ap5⟩
  have j4:=XF GN
  simp
  rw[yg (c:=[.i .i64 rs.2.1,.i .i64 rs.2.2]) _ _ (by simp[y7,zF,zo,zp,zq,AV.cellsOf]) (by simp)]
  intro b9 hb9
  have Nb:=yI.1 hb9
  rw[yH Nb.1]
  have SC:=fR _ Nb.2
  simp
  refine⟨_,zx.refl _,hQ _ _ ⟨M5,_,_,_,rfl,rfl,⟨hd5,ap5.dx Nb.1 _,?_,N6.trans j4.1.sub,A6.put SC _,?_⟩,.inr ⟨b9,0,by simp,by simp,.inl rfl,by rw[ze];rfl,rfl⟩,?_⟩⟩
  ·exact aY.put (aY.same (S2:={ S with σ:=rs.1 }) hoA j4.1 rfl rfl) Nb.2 _
  ·intro q hq
   by_cases e:q=b9
   ·subst e;exact SC
   ·rw[zb _ _ _ e]at hq;exact fR q hq
  ·intro q hq;simp[au]at hq;subst hq;exact SC
 ·rename_i dS
  cases hp
  refine⟨fun h9=>absurd h9 dS,fun _=>?_⟩
  refine⟨_,hs7,hQ _ _ ⟨M4,L1,_,_,rfl,rfl,⟨h8,ap7,hoA,N6,A6,fR⟩,.inl ⟨rfl,rfl,rfl⟩,fun b h=>by cases h⟩⟩
end
end
section
variable {F:Nat→Option aT}
def bk.fF (σ:bk):Bool:=decide (σ.x.l.length<1000000)&&decide (0≤σ.x.seq)&&decide (σ.x.seq<4611686018427387904)&&decide (0≤σ.named)&&decide (σ.named≤64)&&decide (σ.af.length<1000000)
theorem W4 {σ:bk}(h:σ.fF=true):σ.Ni 1000000 4611686018427387904:=by
 simp[bk.fF]at h
 obtain⟨⟨⟨⟨⟨h1,h2⟩,h3⟩,h4⟩,h5⟩,h6⟩:=h
 exact⟨h1,h2,h3,⟨h4,h5⟩,h6⟩
theorem zeZ (hf:EV F)(when:Int)(i:Nat)(L:Lg):zd F oF [.p none,.i .i64 when,.i .i64 i] L fun v L'=>v=.ay [.i .i64 0,.i .i64 3]∧L'=L:=by
 refine zr ?_
 intro Q hQ
 apply NS hf.code
 unfold nG
 simp[zF,zo,zp,zq,AV.cellsOf]
 have:zd F mN [.p none,.agg [.i .i64 4,.i .i64 i,.p none,.i .i64 0],.i .i64 0,.i .i64 when] L fun v L'=>v=.ay [.i .i64 0,.i .i64 3]∧L'=L:=by
  refine zr ?_
  intro Q hQ
  apply NX hf.f38.code
  unfold nP
  simp
  rw[zL _ _ _ (by simp)]
  intro b hb
  unfold nO
  refine (zcS hf.f38.f24 0).mono ?_
  rintro _ K ⟨rfl,rfl⟩
  have r0:aq (L.put b (.raw (.cells [.i .i64 4,.i .i64 i,.p none,.i .i64 0]))) (b,0) none=some (.i .i64 4):=by rw[zj (ze _ _ _)];rfl
  have r1:aq (L.put b (.raw (.cells [.i .i64 4,.i .i64 i,.p none,.i .i64 0]))) (b,1) none=some (.i .i64 i):=by rw[zj (ze _ _ _)];rfl
  have hn:¬((i:Int)<0):=by omega
  simp[r0,r1,hn]
  exact⟨_,((yu.refl L).put hb _).cj,hQ _ _ ⟨rfl,rfl⟩⟩
 refine this.mono ?_
 rintro _ K ⟨rfl,rfl⟩
 simp
 exact⟨_,zx.refl _,hQ _ _ ⟨rfl,rfl⟩⟩
section
variable {M L L0:Lg} {c t mb:Nat} {aW aZ:AV} {S S':CX} {Q:AV→Lg→Prop}
def CX.fe (S:CX)(id:Nat)(when:Int):Option CX:=match S.σ.t with
 | none=>some S
 | some _=>if S.τ.fF=true then
   if (S.τ.make ⟨4,id,none,0⟩ 0 when).2.2=0 then match S.σ.af[id]? with
    | none=>none
    | some o=>some { ({ S with τ:=(S.τ.make ⟨4,id,none,0⟩ 0 when).1 }:CX).aB id { o with timer:=(S.τ.make ⟨4,id,none,0⟩ 0 when).2.1 }with τ:=(S.τ.make ⟨4,id,none,0⟩ 0 when).1 }
   else some { S with τ:=(S.τ.make ⟨4,id,none,0⟩ 0 when).1 }
  else none
def CX.aH (S:CX)(parent when now:Int)(a:Nat):Option Fa :=
 if S.σ.room parent≠0 then some (S,0,[],S.σ.room parent)
 else match S.σ.af[parent.toNat]? with
  | none=>none
  | some up=>if up.has=true∧up.when≤max (zB when 0) 0 then S.aL parent a
   else if S.bM=true then match (S.aG { One.zero with when:=max (zB when 0) 0,has:=true,own:=true } up.node a).bw S.σ.af.length parent with
    | none=>none
    | some r=>if 0<r.2.length then some (r.1,S.σ.af.length,r.2,0)
     else if max (zB when 0) 0≤now then match r.1.az 200 S.σ.af.length 2 2 with
      | none=>none
      | some r2=>some (r2.1,S.σ.af.length,r2.2.1,0)
     else match r.1.fe S.σ.af.length (max (zB when 0) 0)with
      | none=>none
      | some S2=>some (S2,S.σ.af.length,[],0)
   else none
theorem UH.zoP {v1 v2:AV}{aN:List cx}{aJ:List (Int×Int)}{K:Lg}(h:UH L K v1 v2 aN aJ)(X:Lg)(k:AV→Lg→Prop):za F .ax [v1] X k=k (.i .i64 aN.length) X:=by
 obtain⟨ps,h1,h2⟩:=h
 rw[h2.o1.len,←h1];simp
theorem ziv (hl:EV F){i:Nat}{when:Int}(hp:S.fe i when=some S')(hd:aU c S.σ t mb aW aZ M)(ha:yk M L c)(ho:aY c S L)(hi:i<S.σ.af.length)
  (hQ:∀M' L',CO c t mb S S' L aW aZ M' L'→zm (some (.ay [.i .i64 i,.sl none 0 0 0,.i .i64 0])) Q (M'.ak L')):jh F Q (.p (some (c,0))) (.i .i64 when) (.i .i64 i) (M.ak L):=by
 unfold jh
 unfold CX.fe at hp
 split at hp
 case h_1 =>
  rename_i hs
  cases hp
  simp[hd.f0,hs,ptr]
  refine (zeZ hl when i _).mono ?_
  rintro _ K' ⟨rfl,rfl⟩
  simp
  exact hQ _ _ (CO.refl hd ha ho)
 rename_i s hs
 split at hp
 case isFalse=>cases hp
 rename_i j9
 have hts:=ho.bQ s hs
 have Ox:=ha.low hts.1 hts.2
 simp[hd.f0,hs,ptr]
 refine (za3 hl (ha.get hts.1 hts.2) (W4 j9) when i).mono ?_
 rintro _ K' ⟨rfl,bU⟩
 rw[bU,yH Ox]
 clear bU K'
 generalize hmk:S.τ.make ⟨4,i,none,0⟩ 0 when=mk at hp
 have ER:=ha.dx Ox (.abs (Z2 s mk.1))
 have dN:∀(S2:CX),aR S.σ S2.σ→S2.τ=mk.1→S2.χ=S.χ→aY c S2 (L.put s (.abs (Z2 s mk.1))):=by
  intro S2 h1 h2 h3
  refine⟨fun s' hs'=>?_,fun o1 h4 a h5=>?_⟩
  ·have e:s'=s:=by rw[h1.t,hs]at hs';cases hs';rfl
   subst e
   exact⟨hts.1,by rw[ze,h2]⟩
  ·obtain⟨o',h6,h7⟩:=h1.cs ⟨o1,h4,h5⟩
   have:=ho.bB o' h6 a h7
   refine⟨this.1,by rw[h1.t];exact this.2.1,?_⟩
   rw[zb _ _ _ (by rintro rfl;exact this.2.1 hs),h3];exact this.2.2
 have A6:dw S.σ L (L.put s (.abs (Z2 s mk.1))):=fun r hr h1 h2=>zb _ _ _ (by rintro rfl;exact h1 hs)
 have fR:∀r,(L.put s (.abs (Z2 s mk.1))) r=none→L r=none:=fun r hr=>by
  by_cases e:r=s
  ·subst e;rw[ze]at hr;cases hr
  ·rwa [zb _ _ _ e]at hr
 simp
 split at hp
 ·rename_i hz
  split at hp
  case h_1=>cases hp
  rename_i o hoi
  cases hp
  refine⟨fun _=>?_,fun h9=>absurd hz h9⟩
  obtain⟨b,a1,a2,a3,a4,a5⟩:=hd.fo (F:=F) hoi
  have hlt:i * 9+9≤(zl One.cells S.σ.af).length:=(xT One.len S.σ.af i o hoi).2
  simp[hd.f2,a3]
  rw[zD (z8 a2) (by omega) rfl,xt]
  have d1:=hd.aB (o':={ o with timer:=mk.2.1 }) hoi a1 (j:=8) (v:=.i .i64 mk.2.1) (by omega) rfl
  have Mg:=ER.own (b:=b) (by rw[a2];simp) (.raw (.cells ((zl One.cells S.σ.af).set (i * 9+8) (.i .i64 mk.2.1))))
  have j4:aR S.σ (S.aB i { o with timer:=mk.2.1 }).σ:=XK hoi rfl rfl
  exact hQ _ _ ⟨d1,Mg,dN _ j4 rfl rfl,j4.sub,A6,fR⟩
 ·rename_i hz
  cases hp
  refine⟨fun h9=>absurd h9 hz,fun _=>?_⟩
  exact hQ _ _ ⟨hd,ER,dN _ (aR.refl _) rfl rfl,(aR.refl _).sub,A6,fR⟩
theorem Uu (hf:pN F){parent when now:Int}(hp:∀a,L a=none→∃r,S.aH parent when now a=some r)(hd:aU c S.σ t mb aW aZ M)(ha:yk M L c)(ho:aY c S L)(hc:L c≠none) :
  zd F gY [.p (some (c,0)),.i .i64 parent,.i .i64 when,.i .i64 now] (M.ak L) fun v K'=>∃(a:Nat) (r:Fa) (M' L':Lg) (mW v1 v2:AV) (aJ:List (Int×Int)),(S.σ.room parent=0→L a=none)∧S.aH parent when now a=some r∧v=.ay [.i .i64 r.2.1,v1,.i .i64 r.2.2.2]∧K'=M'.ak L'∧CO c t mb S r.1 L mW aZ M' L'∧UH L L' v1 v2 r.2.2.1 aJ:=by
 refine zr ?_
 intro Q hQ
 apply Q2 hf.code
 unfold tI tH
 refine (Zu hf.f128 hd L parent).mono ?_
 rintro _ K' ⟨rfl,bU⟩
 rw[bU]
 clear bU K'
 by_cases ju:S.σ.room parent=0
 case neg =>
  simp[ju]
  exact⟨_,zx.refl _,hQ _ _ ⟨0,_,M,L,aW,.sl none 0 0 0,.sl none 0 0 0,[],fun h=>absurd h ju,by simp only[CX.aH,ne_eq,ju,not_false_eq_true,if_true];rfl,rfl,rfl,⟨hd,ha,ho,(aR.refl _).sub,dw.refl _ _,fun _ h=>h⟩,[],rfl,cL.nil _ _⟩⟩
 obtain⟨i,rfl,hi⟩:=Yi ju
 have aI:S.σ.af[i]?=some S.σ.af[i]:=List.getElem?_eq_getElem hi
 generalize S.σ.af[i]=up at aI
 simp[ju]
 unfold tG
 refine (vL hf.f2 when 0 _).mono ?_
 rintro _ K' ⟨rfl,bU⟩
 rw[bU]
 clear bU K'
 simp
 have hPd:∀a,S.aH i when now a=if up.has=true∧up.when≤max (zB when 0) 0 then S.aL i a
   else if S.bM=true then match (S.aG { One.zero with when:=max (zB when 0) 0,has:=true,own:=true } up.node a).bw S.σ.af.length i with
    | none=>none
    | some r=>if 0<r.2.length then some (r.1,(S.σ.af.length:Int),r.2,0)
     else if max (zB when 0) 0≤now then match r.1.az 200 S.σ.af.length 2 2 with
      | none=>none
      | some r2=>some (r2.1,(S.σ.af.length:Int),r2.2.1,0)
     else match r.1.fe S.σ.af.length (max (zB when 0) 0)with
      | none=>none
      | some S2=>some (S2,(S.σ.af.length:Int),[],0)
   else none:=by
  intro a
  unfold CX.aH
  rw[if_neg (by simp[ju])]
  simp only[Int.toNat_natCast,aI]
 generalize hwh:max (zB when 0) 0=wh at hPd
 unfold tF
 obtain⟨b,a1,a2,a3,a4,a5⟩:=hd.fo (F:=F) aI
 simp[hd.f2,a3,a5]
 intro b8 hb8
 have hb:=yI.1 hb8
 rw[zu (n:=9) (ze _ _ _) (One.one up) (One.len up) (by simp),zA]
 have hsp:zo [AV.i .i64 0,.b false,.p none,.i .i64 0,.i .i64 0,.i .i64 0,.b false,.b false,.i .i64 0] 0 up.cells=up.cells:=rfl
 rw[hsp,yH hb.1]
 have ER:=ha.dx hb.1 (.raw (.cells up.cells))
 have g:((L.put b8 (.raw (.cells up.cells)))) b8=some (.raw (.cells up.cells)):=ze _ _ _
 have dN:=ho.put hb.2 (.raw (.cells up.cells))
 have fR:∀r,(L.put b8 (.raw (.cells up.cells))) r=none→L r=none:=fun r hr=>by
  by_cases e:r=b8
  ·subst e;exact hb.2
  ·rwa [zb _ _ _ e]at hr
 have A6:dw S.σ L (L.put b8 (.raw (.cells up.cells))):=(dw.refl _ _).put hb.2 _
 generalize BC:L.put b8 (.raw (.cells up.cells))=L1 at ER g dN fR A6
 have zlQ:L1 c≠none:=fun h9=>hc (fR c h9)
 have Jf:∀X:Lg,aq (M.ak X) (b8,0) none=aq X (b8,0) none∧aq (M.ak X) (b8,5) none=aq X (b8,5) none∧aq (M.ak X) (b8,6) none=aq X (b8,6) none:=fun X=>by simp[aq,yG hb.1]
 have rd:∀X:Lg,X b8=some (.raw (.cells up.cells))→aq X (b8,0) none=some (.i .i64 up.node)∧aq X (b8,5) none=some (.i .i64 up.when)∧aq X (b8,6) none=some (.b up.has):=fun X h=>⟨by rw[zj h];rfl,by rw[zj h];rfl,by rw[zj h];rfl⟩
 have q1:=Jf L1
 rw[(rd _ g).1,(rd _ g).2.1,(rd _ g).2.2]at q1
 unfold tE
 have hcan:up.has=true∧up.when≤wh→zd F eM [.p (some (c,0)),.i .i64 i] (M.ak L1) fun v8 L8=>za F (.ext 0) [v8] L8 fun v9 L9=>za F (.ext 1) [v8] L9 fun v10 dG=>za F (.ext 2) [v8] dG fun v11 gz=>zm (some (.ay [v9,v10,v11])) Q gz:=by
  intro iQ
  refine (Xb hf.f143 (parent:=i) ?_ hd ER dN zlQ).mono ?_
  ·intro a h
   obtain⟨r,hr⟩:=hp a (fR a h)
   rw[hPd,if_pos iQ]at hr
   exact⟨r,hr⟩
  ·rintro _ K' ⟨a,r,M',L',mW,v1,v2,aJ,EN,hr,rfl,rfl,co,ps,hps,hres⟩
   simp
   exact⟨_,zx.refl _,hQ _ _ ⟨a,r,M',L',mW,v1,v2,aJ,fun h=>fR a (EN h),by rw[hPd,if_pos iQ];exact hr,rfl,rfl,⟨co.d,co.ap,co.out,co.sub,A6.trans (aR.refl _) co.fr,fun q hq=>fR q (co.has q hq)⟩,ps,hps,hres.low fun q hq _=>fR q hq⟩⟩
 have hown:¬(up.has=true∧up.when≤wh)→ji F Q (.p (some (c,0))) (.i .i64 i) (.i .i64 wh) (.i .i64 now) (.p (some (b8,0))) (M.ak L1):=by
  intro iQ
  unfold ji
  refine (XH hf.f129).mono ?_
  rintro _ K' ⟨a,haK,rfl,bU⟩
  have kg:=yI.1 haK
  have EN:L a=none:=fR a kg.2
  have hac:a≠c:=by rintro rfl;exact hc EN
  rw[bU,yH kg.1]
  clear bU K'
  obtain⟨r,hr⟩:=hp a EN
  have hr':=hr
  rw[hPd,if_neg iQ]at hr
  split at hr
  case isFalse=>cases hr
  rename_i hok
  simp only[CX.bM,Bool.and_eq_true,decide_eq_true_eq]at hok
  split at hr
  case h_1=>cases hr
  rename_i r1 iC
  have Mg:=ER.dx kg.1 (.abs (yy a .sg))
  have hn8:b8≠a:=by rintro rfl;rw[g]at kg;cases kg.2
  have g2:(L1.put a (.abs (yy a .sg))) b8=some (.raw (.cells up.cells)):=by rw[zb _ _ _ hn8];exact g
  have q2:=Jf (L1.put a (.abs (yy a .sg)))
  rw[(rd _ g2).1,(rd _ g2).2.1,(rd _ g2).2.2]at q2
  simp[q2,zF,zo,zp,zq,AV.cellsOf]
  have hoS:aY c (S.aG { One.zero with when:=wh,has:=true,own:=true } up.node a) (L1.put a (.abs (yy a .sg))):=dN.aG kg.2 hac _
  have hcell:AV.agg [.i .i64 0,.b false,.p (some (a,0)),.i .i64 0,.i .i64 0,.i .i64 wh,.b true,.b true,.i .i64 0]=AV.agg ({ ({ One.zero with when:=wh,has:=true,own:=true }:One)with c:=some a }:One).cells:=rfl
  rw[hcell]
  refine (vK hf.f121 hd Mg ({ ({ One.zero with when:=wh,has:=true,own:=true }:One)with c:=some a }:One) up.node hok.1 hok.2).mono ?_
  rintro _ K' ⟨rfl,M3,Ac,rfl,M8,HY⟩
  have Sy:(L1.put a (.abs (yy a .sg))) c≠none:=by rw[zb _ _ _ (Ne.symm hac)];exact zlQ
  have GX:∀q,(L1.put a (.abs (yy a .sg))) q=none→L q=none:=fun q hq=>by
   by_cases e:q=a
   ·subst e;exact EN
   ·rw[zb _ _ _ e]at hq;exact fR q hq
  have Su:aU c (S.aG { One.zero with when:=wh,has:=true,own:=true } up.node a).σ t mb Ac aZ M3:=M8
  refine⟨by simp[yb,yC,XT,q1,q2],?_⟩
  unfold tD
  refine (VN hf.f142 iC Su HY hoS Sy).mono ?_
  rintro v K' ⟨M4,L4,v2,aJ,rfl,co,Sc,hres⟩
  have hsub:m8 S.σ (S.aG { One.zero with when:=wh,has:=true,own:=true } up.node a).σ:=zcV _ _ _
  have frN:∀{S2:CX} {L5:Lg},dw (S.aG { One.zero with when:=wh,has:=true,own:=true } up.node a).σ (L1.put a (.abs (yy a .sg))) L5→dw S.σ L L5:=by
   intro S2 L5 hfr q hq h1 h2
   have e1:(L1.put a (.abs (yy a .sg))) q=L q:=by rw[zb _ _ _ (by rintro rfl;exact hq EN)];exact A6 q hq h1 h2
   rw[←e1]
   refine hfr q (by rw[e1];exact hq) h1 ?_
   intro o1 dN h9
   have dy:o1∈S.σ.af++[{ ({ ({ One.zero with when:=wh,has:=true,own:=true }:One)with c:=some a }:One)with node:=(zP S.σ.tree up.node (!One.zero.free)).2.1,timer:=-1 }]:=dN
   rcases List.mem_append.1 dy with dy | dy
   ·exact h2 o1 dy h9
   ·simp at dy;subst dy;simp at h9;subst h9;exact hq EN
  have zpM:L4 c≠none:=fun h9=>hc (GX c (co.has c h9))
  simp[hres.zoP]
  split at hr
  ·rename_i hpos
   cases hr
   refine⟨fun _=>?_,fun h9=>absurd h9 (by first | omega | (intro h8;rw[h8]at hpos;simp at hpos))⟩
   exact⟨_,zx.refl _,hQ _ _ ⟨a,_,M4,L4,Ac,v,v2,aJ,fun _=>EN,hr',rfl,rfl,⟨co.d,co.ap,co.out,hsub.trans co.sub,frN (S2:=S) co.fr,fun q hq=>GX q (co.has q hq)⟩,by obtain⟨ps,h1,h2⟩:=hres;exact⟨ps,h1,h2.low fun q hq _=>GX q hq⟩⟩⟩
  ·rename_i hpos
   have hz:r1.2.length=0:=by omega
   have LW:r1.2=[]:=List.length_eq_zero_iff.1 hz
   refine⟨fun h9=>absurd h9 (by omega),fun _=>?_⟩
   split at hr
   ·rename_i MV
    split at hr
    case h_1=>cases hr
    rename_i r2 A1
    cases hr
    refine⟨fun _=>?_,fun h9=>absurd MV (by omega)⟩
    refine (zaH hf.f141 A1 co.d co.ap co.out zpM).mono ?_
    rintro _ K' ⟨M5,L5,w1,w2,rfl,rfl,HV,_,zlq⟩
    simp
    refine⟨_,zx.refl _,hQ _ _ ⟨a,_,M5,L5,Ac,w1,w2,r2.2.2,fun _=>EN,hr',rfl,rfl,⟨HV.d,HV.ap,HV.out,(hsub.trans co.sub).trans HV.sub,frN (S2:=S) (dw.trans Sc co.fr HV.fr),fun q hq=>GX q (co.has q (HV.has q hq))⟩,by obtain⟨ps,h1,h2⟩:=zlq;exact⟨ps,h1,h2.low fun q hq _=>GX q (co.has q hq)⟩⟩⟩
   ·rename_i MV
    split at hr
    case h_1=>cases hr
    rename_i S2 Ik
    cases hr
    refine⟨fun h9=>absurd h9 (by omega),fun _=>?_⟩
    have hlen:S.σ.af.length<r1.1.σ.af.length:=by
     have:=congrArg List.length Sc.names
     simp[Cs.names,CX.aG,Cs.add]at this
     omega
    refine ziv hf.f55 Ik co.d co.ap co.out hlen ?_
    intro M5 L5 HV
    refine⟨_,zx.refl _,hQ _ _ ⟨a,_,M5,L5,Ac,.sl none 0 0 0,.sl none 0 0 0,[],fun _=>EN,hr',rfl,rfl,⟨HV.d,HV.ap,HV.out,(hsub.trans co.sub).trans HV.sub,frN (S2:=S) (dw.trans Sc co.fr HV.fr),fun q hq=>GX q (co.has q (HV.has q hq))⟩,[],rfl,cL.nil _ _⟩⟩
 cases Jb:up.has
 ·have:=hown (by simp[Jb])
  simpa[q1,Jb]using this
 ·simp[q1,Jb]
  refine⟨fun h9=>hcan ⟨Jb,h9⟩,fun h9=>hown (by rintro⟨_,h8⟩;omega)⟩
end
end
section
variable {F:Nat→Option aT}
section
variable {M L L0:Lg} {c t mb:Nat} {aW aZ:AV} {S S':CX} {σ:Cs} {Q:AV→Lg→Prop}
def Cs.one (σ:Cs)(id:Int):Option One:=if σ.has id=true then σ.af[id.toNat]? else none
theorem Xv {σ:Cs}{id:Int}(h:σ.has id=true):∃i:Nat,∃o,id=(i:Int)∧σ.af[i]?=some o∧σ.one id=some o:=by
 obtain⟨i,rfl,hi⟩:=dU h
 exact⟨i,σ.af[i],rfl,List.getElem?_eq_getElem hi,by simp[Cs.one,h,hi]⟩
theorem Ym {σ:Cs}{id:Int}(h:σ.has id=false):σ.one id=none:=by simp[Cs.one,h]
theorem zbB (hf:BO F)(e:L c=some (.abs (YG c σ)))(id:Int):zd F gT [.p (some (c,0)),.i .i64 id] L fun v L'=>v=.ay [.i .i64 (match σ.one id with | some o=>o.err | none=>0),.i .i64 (if σ.has id=true then 0 else 4)]∧L'=L:=by
 refine zr ?_
 intro Q hQ
 refine yB e fun M t mb aW aZ hd ha=>?_
 apply QW hf.code
 unfold tc
 refine (xF hf.f127 hd L id).mono ?_
 rintro _ K' ⟨rfl,bU⟩
 rw[bU]
 cases hh:σ.has id
 ·simp
  exact⟨_,hd.back ha e,hQ _ _ ⟨by simp[Ym hh,hh],rfl⟩⟩
 ·obtain⟨i,o,rfl,hi,ho⟩:=Xv hh
  obtain⟨b,a1,a2,a3,a4,a5⟩:=hd.fo (F:=F) hi
  have r3:aq (M.ak L) (b,i * 9+3) none=some (.i .i64 o.err):=a4 L 3 (by omega)
  simp[hd.f2,a3,r3]
  exact⟨_,hd.back ha e,hQ _ _ ⟨by simp[ho,hh],rfl⟩⟩
theorem Ux (hf:BN F)(e:L c=some (.abs (YG c σ)))(id:Int):zd F gS [.p (some (c,0)),.i .i64 id] L fun v L'=>v=.ay [.i .i64 (match σ.one id with | some o=>o.cause | none=>0),.i .i64 (if σ.has id=true then 0 else 4)]∧L'=L:=by
 refine zr ?_
 intro Q hQ
 refine yB e fun M t mb aW aZ hd ha=>?_
 apply QV hf.code
 unfold s9
 refine (xF hf.f127 hd L id).mono ?_
 rintro _ K' ⟨rfl,bU⟩
 rw[bU]
 cases hh:σ.has id
 ·simp
  exact⟨_,hd.back ha e,hQ _ _ ⟨by simp[Ym hh,hh],rfl⟩⟩
 ·obtain⟨i,o,rfl,hi,ho⟩:=Xv hh
  obtain⟨b,a1,a2,a3,a4,a5⟩:=hd.fo (F:=F) hi
  have r3:aq (M.ak L) (b,i * 9+4) none=some (.i .i64 o.cause):=a4 L 4 (by omega)
  simp[hd.f2,a3,r3]
  exact⟨_,hd.back ha e,hQ _ _ ⟨by simp[ho,hh],rfl⟩⟩
theorem zaE (hf:pI F)(e:L c=some (.abs (YG c σ)))(id:Int):zd F gQ [.p (some (c,0)),.i .i64 id] L fun v L'=>v=.ay [ptr (match σ.one id with | some o=>o.c | none=>none),.i .i64 (if σ.has id=true then 0 else 4)]∧L'=L:=by
 refine zr ?_
 intro Q hQ
 refine yB e fun M t mb aW aZ hd ha=>?_
 apply QS hf.code
 unfold sU
 refine (xF hf.f127 hd L id).mono ?_
 rintro _ K' ⟨rfl,bU⟩
 rw[bU]
 cases hh:σ.has id
 ·simp
  exact⟨_,hd.back ha e,hQ _ _ ⟨by simp[Ym hh,hh,ptr],rfl⟩⟩
 ·obtain⟨i,o,rfl,hi,ho⟩:=Xv hh
  obtain⟨b,a1,a2,a3,a4,a5⟩:=hd.fo (F:=F) hi
  have r3:aq (M.ak L) (b,i * 9+2) none=some (ptr o.c):=a4 L 2 (by omega)
  simp[hd.f2,a3,r3]
  exact⟨_,hd.back ha e,hQ _ _ ⟨by simp[ho,hh],rfl⟩⟩
theorem Uw (hf:BP F)(e:L c=some (.abs (YG c σ)))(id:Int):zd F gV [.p (some (c,0)),.i .i64 id] L fun v L'=>v=.ay [.i .i64 (match σ.one id with | some o=>o.when | none=>0),.b (match σ.one id with | some o=>o.has | none=>false),.i .i64 (if σ.has id=true then 0 else 4)]∧L'=L:=by
 refine zr ?_
 intro Q hQ
 refine yB e fun M t mb aW aZ hd ha=>?_
 apply QY hf.code
 unfold tj
 refine (xF hf.f127 hd L id).mono ?_
 rintro _ K' ⟨rfl,bU⟩
 rw[bU]
 cases hh:σ.has id
 ·simp
  exact⟨_,hd.back ha e,hQ _ _ ⟨by simp[Ym hh,hh],rfl⟩⟩
 ·obtain⟨i,o,rfl,hi,ho⟩:=Xv hh
  obtain⟨b,a1,a2,a3,a4,a5⟩:=hd.fo (F:=F) hi
  have r3:aq (M.ak L) (b,i * 9+5) none=some (.i .i64 o.when):=a4 L 5 (by omega)
  have r4:aq (M.ak L) (b,i * 9+6) none=some (.b o.has):=a4 L 6 (by omega)
  simp[hd.f2,a3,r3,r4]
  exact⟨_,hd.back ha e,hQ _ _ ⟨by simp[ho,hh],rfl⟩⟩
theorem zbA (hf:Gd F)(e:L c=some (.abs (YG c σ))):zd F jN [.p (some (c,0))] L fun v L'=>v=.i .i64 σ.af.length∧L'=L:=by
 refine zr ?_
 intro Q hQ
 refine yB e fun M t mb aW aZ hd ha=>?_
 apply QT hf.code
 unfold sV
 simp[hd.f2,hd.af.len]
 exact⟨_,hd.back ha e,hQ _ _ ⟨rfl,rfl⟩⟩
def Cs.new (t:Option Nat):Cs:=(⟨t,[],[],[],fun _=>none⟩:Cs).add { One.zero with free:=true } (-1)
theorem zbz (hf:Gj F)(L:Lg)(t:Option Nat):zd F jX [ptr t] L fun v L'=>∃c,L c=none∧v=.p (some (c,0))∧L'=L.put c (.abs (YG c (.new t))):=by
 refine zr ?_
 intro Q hQ
 apply Rm hf.code
 unfold uL
 refine (UT hf.f117).mono ?_
 rintro _ L1 ⟨tr,htr,rfl,rfl⟩
 simp
 intro mb hmb
 have hfl:zF [.p none,.p none,.sl none 0 0 0,.sl none 0 0 0,.m none] [(0,1),(1,1),(4,1)] [ptr t,.p (some (tr,0)),.m (some mb)]=some [ptr t,.p (some (tr,0)),.sl none 0 0 0,.sl none 0 0 0,.m (some mb)]:=rfl
 rw[hfl]
 simp only[Option.map_some,zg,vu]
 rw[zL _ _ _ (by simp[ptr])]
 intro c hc
 simp[zF,zo,zp,zq,AV.cellsOf]
 have n1:mb≠tr:=by rintro rfl;rw[ze]at hmb;cases hmb
 have n2:c≠mb:=by rintro rfl;rw[ze]at hc;cases hc
 have Ep:=hc
 rw[zb _ _ _ n2]at Ep
 have n3:c≠tr:=by rintro rfl;rw[ze]at Ep;cases Ep
 rw[zb _ _ _ n3]at Ep
 rw[zb _ _ _ n1]at hmb
 let M:Lg:=((Lg.nil.put tr (.abs (xG tr []))).put mb (.raw (.map []))).put c (.raw (.cells [ptr t,.p (some (tr,0)),.sl none 0 0 0,.sl none 0 0 0,.m (some mb)]))
 have hK:((L.put tr (.abs (xG tr []))).put mb (.raw (.map []))).put c (.raw (.cells [ptr t,.p (some (tr,0)),.sl none 0 0 0,.sl none 0 0 0,.m (some mb)]))=M.ak L:=by
  show _=Lg.ak (Lg.put _ _ _) L
  rw[←xt,←xt,←xt];rfl
 have hd:aU c ⟨t,[],[],[],fun _=>none⟩ tr mb (.sl none 0 0 0) (.sl none 0 0 0) M:=by
  refine⟨ze _ _ _,?_,⟨[],?_,Uk⟩,.inl ⟨rfl,rfl,rfl⟩,.inl ⟨rfl,rfl,rfl⟩,n3,n2,Ne.symm n1,fun b h=>(by cases h),fun b h=>(by cases h),?_⟩
  ·show (Lg.put _ _ _) tr=_
   rw[zb _ _ _ (Ne.symm n3),zb _ _ _ (Ne.symm n1),ze]
  ·show (Lg.put _ _ _) mb=_
   rw[zb _ _ _ (Ne.symm n2),ze]
  ·intro b hb
   by_cases e1:b=c
   ·exact .inl e1
   by_cases e2:b=mb
   ·exact .inr (.inr (.inl e2))
   by_cases e3:b=tr
   ·exact .inr (.inl e3)
   exfalso;apply hb
   show (Lg.put _ _ _) b=_
   rw[zb _ _ _ e1,zb _ _ _ e2,zb _ _ _ e3];rfl
 have ap:yk M L c:=by
  intro b hb hM
  rcases hd.dom b hM with h | h | h | h | h
  ·exact absurd h hb
  ·rw[h];exact htr
  ·rw[h];exact hmb
  ·cases h
  ·cases h
 rw[hK]
 have hcell:AV.agg [.i .i64 0,.b true,.p none,.i .i64 0,.i .i64 0,.i .i64 0,.b false,.b false,.i .i64 0]=AV.agg ({ One.zero with free:=true }:One).cells:=rfl
 rw[hcell]
 refine (vK hf.f121 hd ap { One.zero with free:=true } (-1) rfl (by simp)).mono ?_
 rintro _ K' ⟨rfl,M3,Ac,rfl,M8,HY⟩
 simp
 exact⟨_,M8.shut HY,hQ _ _ ⟨c,Ep,rfl,rfl⟩⟩
theorem zaG (hf:kB F){parent:Int}(hp:∀a,L a=none→∃r,S.aL parent a=some r)(e:L c=some (.abs (YG c S.σ)))(ho:aY c S L) :
  zd F eM [.p (some (c,0)),.i .i64 parent] L fun v L2=>∃(a:Nat) (r:Fa) (v1 v2:AV) (aJ:List (Int×Int)),(S.σ.room parent=0→L a=none)∧S.aL parent a=some r∧v=.ay [.i .i64 r.2.1,v1,.i .i64 r.2.2.2]∧eZ c S r.1 L L2∧UH L L2 v1 v2 r.2.2.1 aJ:=by
 have hc:L c≠none:=by rw[e];simp
 refine yB e fun M t mb aW aZ hd ha=>?_
 refine (Xb hf hp hd ha ho hc).cj ?_
 rintro _ K' ⟨a,r,M',L',mW,v1,v2,aJ,h1,h2,rfl,rfl,co,hres⟩
 have:=co.shut hc
 exact⟨_,this.1,a,r,v1,v2,aJ,h1,h2,rfl,this.2,hres.shut hc _⟩
theorem Ut (hf:pN F){parent when now:Int}(hp:∀a,L a=none→∃r,S.aH parent when now a=some r)(e:L c=some (.abs (YG c S.σ)))(ho:aY c S L) :
  zd F gY [.p (some (c,0)),.i .i64 parent,.i .i64 when,.i .i64 now] L fun v L2=>∃(a:Nat) (r:Fa) (v1 v2:AV) (aJ:List (Int×Int)),(S.σ.room parent=0→L a=none)∧S.aH parent when now a=some r∧v=.ay [.i .i64 r.2.1,v1,.i .i64 r.2.2.2]∧eZ c S r.1 L L2∧UH L L2 v1 v2 r.2.2.1 aJ:=by
 have hc:L c≠none:=by rw[e];simp
 refine yB e fun M t mb aW aZ hd ha=>?_
 refine (Uu hf hp hd ha ho hc).cj ?_
 rintro _ K' ⟨a,r,M',L',mW,v1,v2,aJ,h1,h2,rfl,rfl,co,hres⟩
 have:=co.shut hc
 exact⟨_,this.1,a,r,v1,v2,aJ,h1,h2,rfl,this.2,hres.shut hc _⟩
theorem UM (hf:pM F){parent:Int}{r:CX×Int×Int}(hp:S.bF parent=some r)(e:L c=some (.abs (YG c S.σ)))(ho:aY c S L) :
  zd F gX [.p (some (c,0)),.i .i64 parent] L fun v L2=>v=.ay [.i .i64 r.2.1,.i .i64 r.2.2]∧eZ c S r.1 L L2:=by
 have hc:L c≠none:=by rw[e];simp
 refine yB e fun M t mb aW aZ hd ha=>?_
 refine (UN hf hp hd ha ho hc).cj ?_
 rintro _ K' ⟨M',L',mW,rfl,rfl,co⟩
 have:=co.shut hc
 exact⟨_,this.1,rfl,this.2⟩
theorem zaI (hf:pK F){id cause:Int}{r:CX×List cx×List (Int×Int)×Int}(hp:S.bC id cause=some r)(e:L c=some (.abs (YG c S.σ)))(ho:aY c S L) :
  zd F gU [.p (some (c,0)),.i .i64 id,.i .i64 cause] L fun v L2=>∃v1 v2,v=.ay [v1,v2,.i .i64 r.2.2.2]∧eZ c S r.1 L L2∧UH L L2 v1 v2 r.2.1 r.2.2.1:=by
 have hc:L c≠none:=by rw[e];simp
 refine yB e fun M t mb aW aZ hd ha=>?_
 refine (zaJ hf hp hd ha ho hc).cj ?_
 rintro _ K' ⟨M',L',v1,v2,rfl,rfl,co,hres⟩
 have:=co.shut hc
 exact⟨_,this.1,v1,v2,rfl,this.2,hres.shut hc _⟩
theorem zbg (hf:pH F){id:Int}{r:CX×List cx×List (Int×Int)×Int}(hp:S.bO id=some r)(e:L c=some (.abs (YG c S.σ)))(ho:aY c S L) :
  zd F fm [.p (some (c,0)),.i .i64 id] L fun v L2=>∃v1 v2,v=.ay [v1,v2,.i .i64 r.2.2.2]∧eZ c S r.1 L L2∧UH L L2 v1 v2 r.2.1 r.2.2.1:=by
 have hc:L c≠none:=by rw[e];simp
 refine yB e fun M t mb aW aZ hd ha=>?_
 refine (zbh hf hp hd ha ho hc).cj ?_
 rintro _ K' ⟨M',L',v1,v2,rfl,rfl,co,hres⟩
 have:=co.shut hc
 exact⟨_,this.1,v1,v2,rfl,this.2,hres.shut hc _⟩
theorem VV (hf:pJ F){k:Int}{r:CX×Bool×Int}(hp:S.bg k=some r)(e:L c=some (.abs (YG c S.σ)))(ho:aY c S L) :
  zd F gR [.p (some (c,0)),.i .i64 k] L fun v L2=>v=.ay [.b r.2.1,.i .i64 r.2.2]∧eZ c S r.1 L L2:=by
 have hc:L c≠none:=by rw[e];simp
 refine yB e fun M t mb aW aZ hd ha=>?_
 refine (VW hf hp hd ha ho).cj ?_
 rintro _ K' ⟨M',rfl,rfl,co⟩
 have:=co.shut hc
 exact⟨_,this.1,rfl,this.2⟩
theorem zbJ (hf:pL F){id prog:Int}{r:CX×Int×List (Int×Int)×Int}(hp:S.bI id prog=some r)(e:L c=some (.abs (YG c S.σ)))(ho:aY c S L) :
  zd F gW [.p (some (c,0)),.i .i64 id,.i .i64 prog] L fun v L2=>∃v2,v=.ay [.i .i64 r.2.1,v2,.i .i64 r.2.2.2]∧eZ c S r.1 L L2∧bu L2 v2 (zl nZ r.2.2.1) r.2.2.1.length 2∧∀b,au v2=some b→L b=none:=by
 have hc:L c≠none:=by rw[e];simp
 refine yB e fun M t mb aW aZ hd ha=>?_
 refine (zbK hf hp hd ha ho hc).cj ?_
 rintro _ K' ⟨M',L',znx,v2,rfl,rfl,co,hs,hfr⟩
 have:=co.shut hc
 exact⟨_,this.1,v2,rfl,this.2,hs.mono fun b hb=>zb _ _ _ (by rintro rfl;exact hc (hfr _ hb)),hfr⟩
end
end
section
def bN (ns:List Nd)(k:Int)(i:Nat):Bool:=match ns[i]? with | some n=>n.linked&&decide (n.parent=k) | none=>false
def zK (ns:List Nd)(k:Int):List Nat:=(List.range ns.length).filter (bN ns k)
structure bL (ns:List Nd):Prop where
 len:ns.length≤1000
 kids:∀(k:Nat) (n:Nd),ns[k]?=some n→n.kids=(zK ns (k:Int)).map fun (i:Nat)=>(i:Int)
 par:∀(k:Nat) (n:Nd),ns[k]?=some n→n.linked=true→0≤n.parent∧n.parent<k
theorem xK {ns:List Nd}{k:Int}{i:Nat}:i∈zK ns k↔∃n,ns[i]?=some n∧n.linked=true∧n.parent=k:=by
 simp only[zK,List.mem_filter,List.mem_range,bN]
 constructor
 ·rintro⟨h1,h2⟩
  rw[List.getElem?_eq_getElem h1]at h2 ⊢
  simp at h2
  exact⟨_,rfl,h2.1,h2.2⟩
 ·rintro⟨n,h1,h2,h3⟩
  exact⟨(List.getElem?_eq_some_iff.1 h1).1,by simp[h1,h2,h3]⟩
theorem Y7 (ns:List Nd)(k:Int):(zK ns k).Nodup:=List.nodup_range.sublist List.filter_sublist
theorem yY {ns:List Nd}(h:bL ns){k i:Nat}(hi:i∈zK ns (k:Int)):k<i∧i<ns.length:=by
 obtain⟨n,h1,h2,h3⟩:=xK.1 hi
 have:=h.par i n h1 h2
 exact⟨by omega,(List.getElem?_eq_some_iff.1 h1).1⟩
theorem vG (ns:List Nd)(k:Int):(zK ns k).length≤ns.length:=by
 have:=(List.filter_sublist (p:=bN ns k) (l:=List.range ns.length)).length_le
 simpa[zK]using this
theorem bL.Em {ns:List Nd}(h:bL ns):Em ns=true:=by
 refine List.all_eq_true.2 fun n hn=>?_
 obtain⟨k,hk⟩:=List.mem_iff_getElem?.1 hn
 rw[h.kids k n hk]
 have:=vG ns k
 have:=h.len
 simp;omega
theorem bL.dK {ns:List Nd}(h:bL ns){k:Nat}(hk:k<ns.length):dK ns k=(zK ns (k:Int)).map fun (i:Nat)=>(i:Int):=by
 have:YQ ns k=true:=by simp[YQ];omega
 simp only[Go.AM.dK,this,if_true,Int.toNat_natCast,List.getD_eq_getElem?_getD]
 rw[List.getElem?_eq_getElem hk]
 exact h.kids k _ (List.getElem?_eq_getElem hk)
theorem UD (ns:List Nd)(i:Nat)(x:Int):(vy ns i x).length=ns.length:=by
 unfold vy;split<;>simp
theorem zdR (ns:List Nd)(i:Nat)(x:Int)(j:Nat):(vy ns i x)[j]?=(ns[j]?).map fun n=>if j=i then { n with kids:=n.kids++[x] }else n:=by
 unfold vy
 split
 ·rename_i n hn
  by_cases e:i=j
  ·subst e
   have hi:i<ns.length:=(List.getElem?_eq_some_iff.1 hn).1
   rw[List.getElem?_set_self hi,hn];simp
  ·rw[List.getElem?_set_ne e]
   cases ns[j]? with
   | none=>rfl
   | some m=>simp[Ne.symm e]
 ·rename_i hn
  cases e:ns[j]? with
  | none=>rfl
  | some m =>
   have:j≠i:=by rintro rfl;rw[hn]at e;cases e
   simp[this]
structure gH (ns:List Nd)(parent:Int)(lk:Bool)(ms:List Nd):Prop where
 len:ms.length=ns.length+1
 old:∀(j:Nat) (n:Nd),ns[j]?=some n→∃m:Nd,ms[j]?=some m∧m.parent=n.parent∧m.linked=n.linked
 new:∃m:Nd,ms[ns.length]?=some m∧m.parent=parent∧m.linked=lk
 ok:bL ms
theorem Vf {ns:List Nd}(h:bL ns)(hl:ns.length<1000){parent:Int}{linked:Bool}(hp:parent=-1∨YQ ns parent=true) :
  ∃ms,zP ns parent linked=(ms,(ns.length:Int),0)∧gH ns parent (linked&&decide (parent≠-1)) ms:=by
 unfold zP
 have c1:¬(parent≠-1∧YQ ns parent=false):=by
  rintro⟨h1,h2⟩
  rcases hp with h3 | h3
  ·exact h1 h3
  ·rw[h2]at h3;cases h3
 rw[if_neg c1,if_neg (by omega)]
 refine⟨_,rfl,?_⟩
 generalize hlk:(linked&&decide (parent≠-1))=lk
 have hpar:lk=true→∃p:Nat,parent=(p:Int)∧p<ns.length:=by
  intro h1
  rw[←hlk]at h1
  simp at h1
  rcases hp with h3 | h3
  ·exact absurd h3 h1.2
  ·exact Un h3
 generalize hbase:(if lk=true then vy ns parent.toNat ns.length else ns)=base
 have A5:base.length=ns.length:=by rw[←hbase];split<;>simp[UD]
 have G0:∀(j:Nat) (n:Nd),ns[j]?=some n→∃m:Nd,base[j]?=some m∧m.parent=n.parent∧m.linked=n.linked∧m.kids=n.kids++(if lk=true∧parent=(j:Int)then [(ns.length:Int)]else []):=by
  intro j n hn
  rw[←hbase]
  by_cases h1:lk=true
  ·obtain⟨p,oU,GS⟩:=hpar h1
   rw[if_pos h1,zdR,hn,oU]
   by_cases e:j=p
   ·subst e;simp[h1]
   ·have:¬((p:Int)=(j:Int)):=by omega
    simp[e,this]
  ·rw[if_neg h1]
   exact⟨n,hn,rfl,rfl,by simp[h1]⟩
 have ig:∀j,j<ns.length→(base++[(⟨parent,lk,[]⟩:Nd)])[j]?=base[j]?:=fun j hj=>List.getElem?_append_left (by omega)
 have GZ:(base++[(⟨parent,lk,[]⟩:Nd)])[ns.length]?=some ⟨parent,lk,[]⟩:=by
  rw[List.getElem?_append_right (by omega),A5];simp
 have Oc:∀(k:Int) (i:Nat),bN (base++[(⟨parent,lk,[]⟩:Nd)]) k i=if i=ns.length then (lk&&decide (parent=k))else bN ns k i:=by
  intro k i
  unfold bN
  by_cases e:i=ns.length
  ·subst e;rw[GZ];simp
  ·rw[if_neg e]
   by_cases hi:i<ns.length
   ·rw[ig i hi]
    obtain⟨m,h1,h2,h3,_⟩:=G0 i _ (List.getElem?_eq_getElem hi)
    rw[h1,List.getElem?_eq_getElem hi];simp[h2,h3]
   ·rw[List.getElem?_eq_none (by simp;omega),List.getElem?_eq_none (by omega)]
 have oV:∀k:Int,zK (base++[(⟨parent,lk,[]⟩:Nd)]) k=zK ns k++(if lk=true∧parent=k then [ns.length]else []):=by
  intro k
  unfold zK
  rw[List.length_append,A5,List.length_singleton,List.range_succ,List.filter_append]
  congr 1
  ·apply List.filter_congr
   intro i hi
   have:i≠ns.length:=by have:=List.mem_range.1 hi;omega
   rw[Oc,if_neg this]
  ·simp only[List.filter_cons,List.filter_nil,Oc,if_true]
   by_cases h1:lk=true<;>by_cases h2:parent=k<;>simp[h1,h2]
 refine⟨by simp[A5],?_,⟨_,GZ,rfl,rfl⟩,⟨by simp[A5];omega,?_,?_⟩⟩
 ·intro j n hn
  have hj:j<ns.length:=(List.getElem?_eq_some_iff.1 hn).1
  obtain⟨m,h1,h2,h3,_⟩:=G0 j n hn
  exact⟨m,by rw[ig j hj];exact h1,h2,h3⟩
 ·intro k n hn
  rw[oV]
  by_cases hk:k<ns.length
  ·rw[ig k hk]at hn
   obtain⟨m,h1,h2,h3,h4⟩:=G0 k _ (List.getElem?_eq_getElem hk)
   rw[hn]at h1;cases h1
   rw[h4,h.kids k _ (List.getElem?_eq_getElem hk),List.map_append]
   congr 1
   split<;>simp
  ·have hk2:k=ns.length:=by
    have:=(List.getElem?_eq_some_iff.1 hn).1
    simp[A5]at this;omega
   subst hk2
   rw[GZ]at hn;cases hn
   have e1:zK ns (ns.length:Int)=[]:=by
    rw[List.eq_nil_iff_forall_not_mem]
    intro i hi
    have:=yY h hi
    omega
   have e2:¬(lk=true∧parent=(ns.length:Int)):=by
    rintro⟨h1,h2⟩
    obtain⟨p,h3,h4⟩:=hpar h1
    omega
   simp[e1,e2]
 ·intro k n hn FM
  by_cases hk:k<ns.length
  ·rw[ig k hk]at hn
   obtain⟨m,h1,h2,h3,h4⟩:=G0 k _ (List.getElem?_eq_getElem hk)
   rw[hn]at h1;cases h1
   rw[h2]
   exact h.par k _ (List.getElem?_eq_getElem hk) (by rw[←h3];exact FM)
  ·have hk2:k=ns.length:=by
    have:=(List.getElem?_eq_some_iff.1 hn).1
    simp[A5]at this;omega
   subst hk2
   rw[GZ]at hn;cases hn
   obtain⟨p,h3,h4⟩:=hpar FM
   simp only
   omega
def yd (ns:List Nd)(A:Nat→Bool):List Nd:=(List.range ns.length).map fun k=>match ns[k]? with
 | some n=>{ n with linked:=n.linked&&!A k,kids:=n.kids.filter fun x=>!A x.toNat }
 | none=>⟨0,false,[]⟩
theorem yD (ns:List Nd)(A:Nat→Bool):(yd ns A).length=ns.length:=by simp[yd]
theorem yU (ns:List Nd)(A:Nat→Bool)(k:Nat):(yd ns A)[k]?=(ns[k]?).map fun n=>{ n with linked:=n.linked&&!A k,kids:=n.kids.filter fun x=>!A x.toNat }:=by
 unfold yd
 rw[List.getElem?_map]
 cases e:ns[k]? with
 | some n =>
  have hk:k<ns.length:=(List.getElem?_eq_some_iff.1 e).1
  rw[List.getElem?_range hk]
  simp[e]
 | none =>
  have hk:¬k<ns.length:=fun h9=>by rw[List.getElem?_eq_getElem h9]at e;cases e
  rw[List.getElem?_eq_none (by simpa using hk)];rfl
theorem zhZ (m:Nd){b:Bool}{l:List Int}(h1:b=m.linked)(h2:l=m.kids):({ m with linked:=b,kids:=l }:Nd)=m:=by
 subst h1;subst h2;rfl
theorem ZX (ns:List Nd)(A B:Nat→Bool):yd (yd ns A) B=yd ns fun k=>A k||B k:=by
 apply List.ext_getElem?
 intro k
 rw[yU,yU,yU]
 cases ns[k]? with
 | none=>rfl
 | some n=>simp[List.filter_filter,Bool.and_assoc,Bool.and_comm]
theorem ZD (ns:List Nd){A:Nat→Bool}(h:∀k,A k=false):yd ns A=ns:=by
 apply List.ext_getElem?
 intro k
 rw[yU]
 cases ns[k]? with
 | none=>rfl
 | some n=>simp only[Option.map_some];rw[zhZ n (by simp[h]) (List.filter_eq_self.2 (by simp[h]))]
theorem zdz (ns:List Nd)(A:Nat→Bool)(k:Int)(i:Nat):bN (yd ns A) k i=(bN ns k i&&!A i):=by
 unfold bN
 rw[yU]
 cases ns[i]? with
 | none=>rfl
 | some n=>simp;cases n.linked<;>cases A i<;>simp
theorem wY (ns:List Nd)(A:Nat→Bool)(k:Int):zK (yd ns A) k=(zK ns k).filter fun i=>!A i:=by
 unfold zK
 rw[yD,List.filter_filter]
 apply List.filter_congr
 intro i _
 rw[zdz,Bool.and_comm]
theorem bL.kill {ns:List Nd}(h:bL ns)(A:Nat→Bool):bL (yd ns A):=by
 refine⟨by rw[yD];exact h.len,?_,?_⟩
 ·intro k n hn
  rw[yU]at hn
  cases e:ns[k]? with
  | none=>rw[e]at hn;cases hn
  | some m =>
   rw[e]at hn;simp at hn;subst hn
   simp only
   rw[wY,h.kids k m e,List.filter_map]
   rfl
 ·intro k n hn hl
  rw[yU]at hn
  cases e:ns[k]? with
  | none=>rw[e]at hn;cases hn
  | some m =>
   rw[e]at hn;simp at hn;subst hn
   simp at hl
   exact h.par k m e hl.1
theorem X8 (x:Int):∀(l:List Int) (k:Nat),l.Nodup→x∈l→∃j:Nat,Fj l x k=(j:Int)∧k≤j∧l.eraseIdx (j-k)=l.filter fun y=>decide (y≠x)
 | [],k,_,h=>by simp at h
 | y::r,k,hn,h=>by
  unfold Fj
  by_cases e:x=y
  ·subst e
   rw[if_pos rfl]
   refine⟨k,rfl,Nat.le_refl _,?_⟩
   have hx:x∉r:=(List.nodup_cons.1 hn).1
   simp only[Nat.sub_self,List.eraseIdx_cons_zero]
   rw[List.filter_cons]
   simp
   exact (List.filter_eq_self.2 fun a ha=>by simp;rintro rfl;exact hx ha).symm
  ·rw[if_neg e]
   have ie:x∈r:=by simpa[e]using h
   obtain⟨j,h1,h2,h3⟩:=X8 x r (k+1) (List.nodup_cons.1 hn).2 ie
   refine⟨j,h1,by omega,?_⟩
   have:j-k=(j-(k+1))+1:=by omega
   rw[this,List.eraseIdx_cons_succ,h3]
   rw[List.filter_cons]
   simp[Ne.symm e]
theorem Us {ns:List Nd}(h:bL ns){i:Nat}(hi:i<ns.length):Ir ns i=some (yd ns fun k=>decide (k=i)):=by
 have hn:ns[i]?=some ns[i]:=List.getElem?_eq_getElem hi
 unfold Ir
 simp only[Int.toNat_natCast]
 cases hl:ns[i].linked
 ·have h1:RN ns i=true:=by simp[RN,hn,hl]
  rw[if_pos ⟨by omega,h1,h.Em⟩]
  simp only[vA,hn,hl]
  congr 1
  apply List.ext_getElem?
  intro k
  rw[yU]
  cases e:ns[k]? with
  | none=>simp[e]
  | some m =>
   have hk2:m.kids.filter (fun x=>!decide (x.toNat=i))=m.kids:=by
    apply List.filter_eq_self.2
    intro a ha
    rw[h.kids k m e]at ha
    obtain⟨j,hj,rfl⟩:=List.mem_map.1 ha
    simp
    rintro rfl
    obtain⟨n,h2,h3,_⟩:=xK.1 hj
    rw[hn]at h2;cases h2
    rw[hl]at h3;cases h3
   simp only[Option.map_some]
   rw[zhZ m ?_ hk2]
   ·exact e
   ·by_cases hki:k=i
    ·subst hki;rw[hn]at e;cases e;simp[hl]
    ·simp[hki]
 ·have hp:=h.par i _ hn hl
  obtain⟨p,oU⟩:=Int.eq_ofNat_of_zero_le hp.1
  rw[oU]at hp
  have hpi:p<i:=by omega
  have j5:p<ns.length:=by omega
  have u0:ns[p]?=some ns[p]:=List.getElem?_eq_getElem j5
  have hki:(i:Int)∈ns[p].kids:=by
   rw[h.kids p _ u0]
   exact List.mem_map.2 ⟨i,xK.2 ⟨_,hn,hl,oU⟩,rfl⟩
  have fQ:ns[p].kids.Nodup:=by
   rw[h.kids p _ u0]
   exact List.Pairwise.map _ (fun a b (hab:a≠b)=>by show (a:Int)≠(b:Int);omega) (Y7 ns p)
  obtain⟨j,h1,_,h3⟩:=X8 (i:Int) _ 0 fQ hki
  simp at h3
  have hok:RN ns i=true:=by
   have h4:¬p=i:=by omega
   simp[RN,hn,hl,oU,h4,u0,h1]
  rw[if_pos ⟨by omega,hok,h.Em⟩]
  simp only[vA,hn,hl,if_true,oU,Int.toNat_natCast]
  congr 1
  have hun:US ns i=ns.set i { ns[i]with linked:=false }:=by simp[US,hn]
  rw[hun]
  have zpm:(ns.set i { ns[i]with linked:=false })[p]?=some ns[p]:=by rw[List.getElem?_set_ne (by omega)];exact u0
  unfold zaD
  rw[zpm]
  simp only[h1,Int.toNat_natCast]
  apply List.ext_getElem?
  intro k
  rw[yU]
  have hkf:∀m,ns[k]?=some m→k≠p→m.kids.filter (fun x=>!decide (x.toNat=i))=m.kids:=by
   intro m hm hkp
   apply List.filter_eq_self.2
   intro a ha
   rw[h.kids k m hm]at ha
   obtain⟨q,hq,rfl⟩:=List.mem_map.1 ha
   simp
   rintro rfl
   obtain⟨n,h5,h6,h7⟩:=xK.1 hq
   rw[hn]at h5;cases h5
   rw[oU]at h7;omega
  by_cases hkp:k=p
  ·subst hkp
   rw[List.getElem?_set_self (by simpa using j5),u0]
   have I9:¬k=i:=by omega
   simp only[Option.map_some,I9,decide_false,Bool.not_false,Bool.and_true]
   congr 1
   congr 1
   rw[h3]
   apply List.filter_congr
   intro x hx
   rw[h.kids k _ u0]at hx
   obtain⟨q,hq,rfl⟩:=List.mem_map.1 hx
   simp
   by_cases Ih:q=i<;>simp[Ih]<;>omega
  ·rw[List.getElem?_set_ne (Ne.symm hkp)]
   by_cases I9:k=i
   ·subst I9
    rw[List.getElem?_set_self hi,hn]
    simp only[Option.map_some,decide_true,Bool.not_true,Bool.and_false]
    rw[hkf _ hn hkp]
   ·rw[List.getElem?_set_ne (Ne.symm I9)]
    cases e:ns[k]? with
    | none=>rfl
    | some m =>
     simp only[Option.map_some]
     rw[zhZ m (by simp[I9]) (hkf _ e hkp)]
def pre (ns:List Nd):Nat→Nat→List Nat
 | 0,_=>[]
 | f+1,k=>k::(zK ns (k:Int)).flatMap (pre ns f)
theorem Zg {ns:List Nd}(h:bL ns):∀(f k i:Nat),i∈pre ns f k→k≤i∧(k<ns.length→i<ns.length)
 | 0,k,i,hi=>by simp[pre]at hi
 | f+1,k,i,hi=>by
  simp only[pre,List.mem_cons,List.mem_flatMap]at hi
  rcases hi with rfl | ⟨j,hj,hi⟩
  ·exact⟨Nat.le_refl _,id⟩
  ·have h1:=yY h hj
   have h2:=Zg h f j i hi
   exact⟨by omega,fun _=>h2.2 h1.2⟩
end
section
theorem Vs {ns:List Nd}:∀(f k i:Nat),i∈pre ns f k→i≠k→∃n,ns[i]?=some n∧n.linked=true∧n.parent.toNat∈pre ns f k∧0≤n.parent∨False
 | 0,k,i,h,_=>by simp[pre]at h
 | f+1,k,i,h,hik=>by
  have h':=h
  simp only[pre,List.mem_cons,List.mem_flatMap]at h
  rcases h with h | ⟨j,hj,hi⟩
  ·exact absurd h hik
  ·by_cases e:i=j
   ·subst e
    obtain⟨n,h1,h2,h3⟩:=xK.1 hj
    exact⟨n,.inl ⟨h1,h2,by rw[h3];simp[pre],by omega⟩⟩
   ·obtain⟨n,h1⟩:=Vs f j i hi e
    rcases h1 with⟨h1,h2,h3,h4⟩ | h1
    ·refine⟨n,.inl ⟨h1,h2,?_,h4⟩⟩
     simp only[pre,List.mem_cons,List.mem_flatMap]
     exact .inr ⟨j,hj,h3⟩
    ·exact h1.elim
theorem XU {ns:List Nd}(ht:bL ns){k j1 j2:Nat}(h1:j1∈zK ns (k:Int))(h2:j2∈zK ns (k:Int))(hlt:j1<j2)(f g:Nat):∀i,i∈pre ns f j1→i∈pre ns g j2→False:=by
 intro i
 induction i using Nat.strongRecOn with
 | ind i ih =>
  intro hi1 hi2
  have hg:=(Zg ht _ _ _ hi2).1
  obtain⟨n,hn⟩:=Vs f j1 i hi1 (by omega)
  rcases hn with⟨n1,n2,n3,n4⟩ | hn
  case inr=>exact hn
  by_cases e:i=j2
  ·subst e
   obtain⟨m,m1,m2,m3⟩:=xK.1 h2
   rw[n1]at m1;cases m1
   rw[m3]at n3
   have:=(Zg ht _ _ _ n3).1
   have:=yY ht h1
   simp at *
   omega
  ·obtain⟨m,hm⟩:=Vs g j2 i hi2 e
   rcases hm with⟨m1,m2,m3,m4⟩ | hm
   case inr=>exact hm
   rw[n1]at m1;cases m1
   have:=ht.par i n n1 n2
   exact ih n.parent.toNat (by omega) n3 m3
theorem wg {ns:List Nd}(ht:bL ns):∀(f k:Nat),(pre ns f k).Nodup
 | 0,_=>by simp[pre]
 | f+1,k=>by
  simp only[pre,List.nodup_cons]
  refine⟨?_,?_⟩
  ·intro h
   obtain⟨j,hj,hk⟩:=List.mem_flatMap.1 h
   have h1:=yY ht hj
   have h2:=(Zg ht _ _ _ hk).1
   omega
  ·unfold List.Nodup
   rw[List.pairwise_flatMap]
   refine⟨fun j hj=>wg ht f j,?_⟩
   have hs:(zK ns (k:Int)).Pairwise (fun a b=>a<b):=List.Pairwise.sublist List.filter_sublist List.pairwise_lt_range
   refine hs.imp_of_mem ?_
   intro a b ha hb hab x hx y hy e
   subst e
   exact XU ht ha hb hab _ _ x hx hy
theorem XY:∀(n:Nat) (l:List Nat),l.Nodup→(∀x∈l,x<n)→l.length≤n
 | 0,l,_,h=>by
  cases l with
  | nil=>simp
  | cons a r=>have:=h a (by simp);omega
 | n+1,l,hn,h=>by
  have h1:(l.filter fun x=>decide (x≠n)).length≤n:=by
   refine XY n _ (hn.sublist List.filter_sublist) ?_
   intro x hx
   simp at hx
   have:=h x hx.1
   omega
  have h2:l.length≤(l.filter fun x=>decide (x≠n)).length+1:=by
   by_cases hm:n∈l
   ·have:=List.nodup_iff_count.1 hn n
    have h3:(l.filter fun x=>decide (x≠n)).length+l.count n=l.length:=by
     rw[←List.countP_eq_length_filter,List.count_eq_countP]
     have:=List.length_eq_countP_add_countP (fun x=>decide (x≠n)) (l:=l)
     rw[this]
     congr 1
     apply List.countP_congr
     intro x _
     simp
    omega
   ·have:(l.filter fun x=>decide (x≠n))=l:=List.filter_eq_self.2 fun x hx=>by simp;rintro rfl;exact hm hx
    rw[this];omega
  omega
theorem zhS {ns:List Nd}(ht:bL ns)(f:Nat){k:Nat}(hk:k<ns.length):(pre ns f k).length≤ns.length :=
 XY _ _ (wg ht f k) fun x hx=>(Zg ht _ _ _ hx).2 hk
def CX.cG (S:CX):Option Nat→CX×List Wk
 | none=>(S,[])
 | some a=>({ S with χ:=xd S.χ a (S.χ a).cB.1 },(S.χ a).cB.2)
def CX.bp (S:CX)(id:Int):CX:=match S.σ.t with
 | none=>S
 | some _=>match S.τ.one id with
  | none=>S
  | some _=>{ S with τ:={ S.τ with x:=S.τ.x.stop id } }
def ya (err cause:Int)(acc:Za)(node:Nat):Za :=
 let w:=(acc.1.σ.who node).getD 0
 if w<0 then match acc.1.σ.ai[(-w-1).toNat]? with
  | some x=>({ acc.1 with σ:={ acc.1.σ with ai:=acc.1.σ.ai.set (-w-1).toNat { x with ak:=true } } },acc.2.1,acc.2.2++[(-w-1,x.prog)])
  | none=>acc
 else match acc.1.σ.af[w.toNat]? with
  | some x =>
   let r:=(acc.1.aB w.toNat { x with err:=err,cause:=cause }).cG x.c
   (r.1.bp x.timer,acc.2.1++[⟨w,err,cause,r.2⟩],acc.2.2)
  | none=>acc
theorem zfs (S:CX)(a:Option Nat)(ns:List Nd):(S.aD ns).cG a=((S.cG a).1.aD ns,(S.cG a).2):=by cases a<;>rfl
theorem zc9 (S:CX)(id:Int)(ns:List Nd):(S.aD ns).bp id=(S.bp id).aD ns:=by
 have e1:(S.aD ns).σ.t=S.σ.t:=rfl
 have e2:(S.aD ns).τ=S.τ:=rfl
 unfold CX.bp
 rw[e1,e2]
 cases S.σ.t with
 | none=>rfl
 | some s=>simp only[];cases S.τ.one id<;>rfl
theorem ze9 (err cause:Int)(S:CX)(out:List cx)(aJ:List (Int×Int))(node:Nat)(ns:List Nd) :
  ya err cause (S.aD ns,out,aJ) node=((ya err cause (S,out,aJ) node).1.aD ns,(ya err cause (S,out,aJ) node).2):=by
 have e1:(S.aD ns).σ.who=S.σ.who:=rfl
 have e2:(S.aD ns).σ.ai=S.σ.ai:=rfl
 have e3:(S.aD ns).σ.af=S.σ.af:=rfl
 unfold ya
 simp only[e1,e2,e3]
 split
 ·split<;>rfl
 ·split
  ·rename_i x hx
   have e4:∀i o,(S.aD ns).aB i o=(S.aB i o).aD ns:=fun _ _=>rfl
   rw[e4,zfs]
   simp only[zc9]
  ·rfl
theorem Wa (err cause:Int)(ns:List Nd):∀(l:List Nat) (S:CX) (out:List cx) (aJ:List (Int×Int)),l.foldl (ya err cause) (S.aD ns,out,aJ)=((l.foldl (ya err cause) (S,out,aJ)).1.aD ns,(l.foldl (ya err cause) (S,out,aJ)).2)
 | [],_,_,_=>rfl
 | a::r,S,out,aJ=>by
  simp only[List.foldl_cons]
  rw[ze9]
  generalize ya err cause (S,out,aJ) a=x
  obtain⟨x1,x2,x3⟩:=x
  exact Wa err cause ns r x1 x2 x3
theorem zgC (err cause:Int)(S:CX)(out:List cx)(aJ:List (Int×Int))(node:Nat) :
  ya err cause (S,out,aJ) node=((ya err cause (S,[],[]) node).1,out++(ya err cause (S,[],[]) node).2.1,aJ++(ya err cause (S,[],[]) node).2.2):=by
 unfold ya
 simp only
 split
 ·split<;>simp
 ·split<;>simp
theorem Um (err cause:Int):∀(l:List Nat) (S:CX) (out:List cx) (aJ:List (Int×Int)),l.foldl (ya err cause) (S,out,aJ)=((l.foldl (ya err cause) (S,[],[])).1,out++(l.foldl (ya err cause) (S,[],[])).2.1,aJ++(l.foldl (ya err cause) (S,[],[])).2.2)
 | [],_,_,_=>by simp
 | a::r,S,out,aJ=>by
  simp only[List.foldl_cons]
  rw[zgC]
  generalize ya err cause (S,[],[]) a=x
  obtain⟨x1,x2,x3⟩:=x
  simp only
  rw[Um err cause r x1 (out++x2),Um err cause r x1 x2]
  simp
def xh (T:List Nd)(S:CX)(i:Nat):Prop :=
 (∃(w:Nat) (x:One),S.σ.who i=some (w:Int)∧S.σ.af[w]?=some x∧x.node=i∧x.free=false∧x.err=0∧(∀a,x.c=some a→(S.χ a).recvs.length+(S.χ a).aF.length≤1000000)∧(∀s o,S.σ.t=some s→S.τ.one x.timer=some o→o.c=none)) ∨
 (∃(k:Nat) (x:cK),S.σ.who i=some (-(k:Int)-1)∧k≤1000∧S.σ.ai[k]?=some x∧x.node=i∧zK T (i:Int)=[])
theorem zgj (id:Int)(l:List It):(yS id l).length≤l.length:=List.length_filter_le _ _
theorem zep (S:CX)(id:Int):(S.bp id).τ.x.l.length≤S.τ.x.l.length:=by
 unfold CX.bp
 cases S.σ.t with
 | none=>exact Nat.le_refl _
 | some s =>
  simp only[]
  cases S.τ.one id with
  | none=>exact Nat.le_refl _
  | some o=>exact zgj _ _
theorem xV (S:CX)(id:Int):(S.bp id).σ=S.σ∧(S.bp id).χ=S.χ∧(S.bp id).τ.af=S.τ.af:=by
 unfold CX.bp
 cases S.σ.t with
 | none=>exact⟨rfl,rfl,rfl⟩
 | some s =>
  simp only[]
  cases S.τ.one id<;>exact⟨rfl,rfl,rfl⟩
theorem wo (S:CX)(a:Option Nat):(S.cG a).1.σ=S.σ∧(S.cG a).1.τ=S.τ∧∀b n,(S.χ b).recvs.length+(S.χ b).aF.length≤n→((S.cG a).1.χ b).recvs.length+((S.cG a).1.χ b).aF.length≤n:=by
 cases a with
 | none=>exact⟨rfl,rfl,fun _ _ h=>h⟩
 | some a =>
  refine⟨rfl,rfl,fun b n h=>?_⟩
  simp only[CX.cG,xd]
  split
  ·rename_i e;subst e
   unfold Ch.cB
   split
   ·simp[Ch.ended]
   ·exact h
  ·exact h
theorem wn (err cause:Int)(acc:Za)(i:Nat):(ya err cause acc i).1.σ.who=acc.1.σ.who∧(ya err cause acc i).1.σ.tree=acc.1.σ.tree∧(ya err cause acc i).1.σ.t=acc.1.σ.t∧(ya err cause acc i).1.τ.af=acc.1.τ.af∧(ya err cause acc i).1.τ.x.l.length≤acc.1.τ.x.l.length ∧
  (∀b n,(acc.1.χ b).recvs.length+(acc.1.χ b).aF.length≤n→((ya err cause acc i).1.χ b).recvs.length+((ya err cause acc i).1.χ b).aF.length≤n)∧(ya err cause acc i).2.1.length≤acc.2.1.length+1∧(ya err cause acc i).2.2.length≤acc.2.2.length+1:=by
 unfold ya
 simp only
 split
 ·split<;>simp
 ·split
  ·rename_i x hx
   have h1:=xV ((acc.1.aB ((acc.1.σ.who i).getD 0).toNat { x with err:=err,cause:=cause }).cG x.c).1 x.timer
   have h2:=wo (acc.1.aB ((acc.1.σ.who i).getD 0).toNat { x with err:=err,cause:=cause }) x.c
   have h3:=zep ((acc.1.aB ((acc.1.σ.who i).getD 0).toNat { x with err:=err,cause:=cause }).cG x.c).1 x.timer
   simp only
   rw[h1.1,h1.2.1,h1.2.2,h2.1]
   rw[h2.2.1]at h3
   refine⟨rfl,rfl,rfl,by rw[h2.2.1];rfl,h3,?_,by simp,by simp⟩
   intro b n hb
   exact h2.2.2 b n hb
  ·simp
theorem zha {τ uY:bk}(h:uY.af=τ.af)(id:Int):uY.one id=τ.one id:=by
 unfold bk.one bk.has;rw[h]
theorem xh.hit {T:List Nd}{acc:Za}{i j:Nat}(err cause:Int)(h:xh T acc.1 i)(hj:xh T acc.1 j)(hij:i≠j):xh T (ya err cause acc j).1 i:=by
 have hk:=wn err cause acc j
 have zlx:∀(w:Nat) (x:One),acc.1.σ.af[w]?=some x→x.node=i→(ya err cause acc j).1.σ.af[w]?=some x:=by
  intro w x hx hn
  unfold ya
  simp only
  split
  ·split<;>exact hx
  ·rename_i hneg
   split
   ·rename_i y hy
    simp only
    rw[(xV _ _).1,(wo _ _).1]
    show (acc.1.σ.af.set _ _)[w]?=_
    rw[List.getElem?_set_ne]
    ·exact hx
    ·intro e
     rcases hj with⟨w2,y2,q1,q2,q3,_⟩ | ⟨k2,y2,q1,_⟩
     ·rw[q1]at e hy
      simp at e hy
      rw[q2]at hy;cases hy
      subst e
      rw[q2]at hx;cases hx
      omega
     ·rw[q1]at hneg;simp at hneg;omega
   ·exact hx
 have zlW:∀(k:Nat) (x:cK),acc.1.σ.ai[k]?=some x→x.node=i→(ya err cause acc j).1.σ.ai[k]?=some x:=by
  intro w x hx hn
  unfold ya
  simp only
  split
  ·rename_i hneg
   split
   ·rename_i y hy
    show (acc.1.σ.ai.set _ _)[w]?=_
    rw[List.getElem?_set_ne]
    ·exact hx
    ·intro e
     rcases hj with⟨w2,y2,q1,_⟩ | ⟨k2,y2,q1,q5,q2,q3,_⟩
     ·rw[q1]at hneg;simp at hneg;omega
     ·rw[q1]at e hy
      have e2:(-(-(k2:Int)-1)-1).toNat=k2:=by omega
      simp only[Option.getD_some,e2]at e hy
      rw[q2]at hy;cases hy
      subst e
      rw[q2]at hx;cases hx
      omega
   ·exact hx
  ·split
   ·simp only
    rw[(xV _ _).1,(wo _ _).1]
    exact hx
   ·exact hx
 rcases h with⟨w,x,h1,h2,h3,h4,h5,h6,h7⟩ | ⟨k,x,h1,h2,h3,h4,h5⟩
 ·exact .inl ⟨w,x,by rw[hk.1];exact h1,zlx w x h2 h3,h3,h4,h5,fun a ha=>hk.2.2.2.2.2.1 a _ (h6 a ha),fun s o hs ho=>h7 s o (by rw[←hk.2.2.1];exact hs) (by rw[←zha hk.2.2.2.1];exact ho)⟩
 ·exact .inr ⟨k,x,by rw[hk.1];exact h1,h2,zlW k x h3 h4,h4,h5⟩
theorem xh.tree {T:List Nd}{S:CX}{i:Nat}(h:xh T S i)(ns:List Nd):xh T (S.aD ns) i:=h
theorem Zm {T:List Nd}(err cause:Int):∀(l:List Nat) (acc:Za),(∀i∈l,xh T acc.1 i)→l.Nodup→let r:=l.foldl (ya err cause) acc
  r.1.σ.who=acc.1.σ.who∧r.1.σ.tree=acc.1.σ.tree∧r.1.τ.x.l.length≤acc.1.τ.x.l.length∧r.2.1.length≤acc.2.1.length+l.length∧r.2.2.length≤acc.2.2.length+l.length∧∀i,xh T acc.1 i→i∉l→xh T r.1 i
 | [],acc,_,_=>by simp
 | a::r,acc,h,hn=>by
  have hk:=wn err cause acc a
  have ha:=h a (by simp)
  have hn':=List.nodup_cons.1 hn
  obtain⟨i1,i2,i3,i4,i5,i6⟩:=Zm err cause r (ya err cause acc a) (fun i hi=>(h i (by simp[hi])).hit err cause ha (by rintro rfl;exact hn'.1 hi)) hn'.2
  simp only[List.foldl_cons,List.length_cons]
  refine⟨i1.trans hk.1,i2.trans hk.2.1,Nat.le_trans i3 hk.2.2.2.2.1,by have:=hk.2.2.2.2.2.2.1;omega,by have:=hk.2.2.2.2.2.2.2;omega,?_⟩
  intro i hi bK
  simp at bK
  exact i6 i (hi.hit err cause ha bK.1) bK.2
end
section
def walked (T:List Nd)(err cause:Int)(A:Nat→Bool)(l:List Nat)(acc:Za):Za :=
 ((l.foldl (ya err cause) acc).1.aD (yd T fun i=>A i||decide (i∈l)),(l.foldl (ya err cause) acc).2)
def VS (T:List Nd)(n:Nat):Prop:=∀(k:Nat) (A:Nat→Bool) (S:CX) (id:Nat) (err cause:Int),T.length<k+n→k<T.length→S.σ.tree=yd T A→(∀i∈pre T n k,A i=false)→(∀i∈pre T n k,xh T S i)→S.σ.who k=some (id:Int)→S.τ.x.l.length≤1000000 →
 S.az n id err cause=some (walked T err cause A (pre T n k) (S,[],[]))
theorem XE {T:List Nd}(ht:bL T){S:CX}{A:Nat→Bool}{j k:Nat}{x:cK}(hS:S.σ.tree=yd T A)(hj:j<T.length)(h1:S.σ.who j=some (-(k:Int)-1))(h3:S.σ.ai[k]?=some x)(h4:x.node=j)(err cause:Int)(out:List cx)(aJ:List (Int×Int)) :
  ∃σ',S.σ.dJ k=some (σ',((k:Int),x.prog))∧({ S with σ:=σ' }:CX)=(ya err cause (S,out,aJ) j).1.aD (yd T fun i=>A i||decide (i=j))∧(ya err cause (S,out,aJ) j).2=(out,aJ++[((k:Int),x.prog)]):=by
 have M7:=Us (ht.kill A) (i:=j) (by rw[yD];exact hj)
 rw[ZX]at M7
 have hneg:(-(k:Int)-1)<0:=by omega
 have hk:(-(-(k:Int)-1)-1)=(k:Int):=by omega
 refine⟨{ S.σ with ai:=S.σ.ai.set k { x with ak:=true },tree:=yd T fun i=>A i||decide (i=j) },?_,?_,?_⟩
 ·unfold Cs.dJ
  rw[if_pos (by omega)]
  simp only[Int.toNat_natCast,h3,h4,hS,M7]
 ·unfold ya
  simp only[h1,Option.getD_some,hneg,if_true,hk,Int.toNat_natCast,h3]
  rfl
 ·unfold ya
  simp only[h1,Option.getD_some,hneg,if_true,hk,Int.toNat_natCast,h3]
theorem zal {T:List Nd}(ht:bL T){n:Nat}(ih:VS T n)(err cause:Int)(k:Nat):∀(js:List Nat) (S:CX) (A:Nat→Bool) (out:List cx) (aJ:List (Int×Int)),js.Pairwise (fun a b=>a<b)→(∀j∈js,j∈zK T (k:Int))→T.length<k+n+1→S.σ.tree=yd T A→(∀j∈js,∀i∈pre T n j,A i=false)→(∀j∈js,∀i∈pre T n j,xh T S i)→S.τ.x.l.length≤1000000 →
  out.length+js.length * T.length≤1000000→aJ.length+js.length * T.length≤1000000 →
  (js.map fun (i:Nat)=>(i:Int)).foldlM (U0 (CX.az n) err cause) (S,out,aJ)=some (walked T err cause A (js.flatMap (pre T n)) (S,out,aJ))
 | [],S,A,out,aJ,_,_,_,hS,_,_,_,_,_=>by
  simp only[List.map_nil,List.foldlM_nil,List.flatMap_nil,walked,List.foldl_nil]
  have:(yd T fun i=>A i||decide (i∈([]:List Nat)))=S.σ.tree:=by rw[hS];congr 1;funext i;simp
  rw[this];rfl
 | j::r,S,A,out,aJ,hp,hk,hn,hS,hA,hL,IX,ho,hs=>by
  have j8:=yY ht (hk j (by simp))
  have hpw:=List.pairwise_cons.1 hp
  have zqI:(pre T n j).length≤T.length:=zhS ht n j8.2
  have hn0:n≠0:=by rintro rfl;omega
  have Oz:=hL j (by simp)
  have hAj:=hA j (by simp)
  have iN:j∈pre T n j:=by cases n with | zero=>exact absurd rfl hn0 | succ m=>simp[pre]
  simp only[List.length_cons,Nat.add_mul,Nat.one_mul]at ho hs
  simp only[List.map_cons,List.foldlM_cons]
  -- one step is Bh walk below j
  have key:U0 (CX.az n) err cause (S,out,aJ) j=some (walked T err cause A (pre T n j) (S,out,aJ)):=by
   rcases Oz j iN with⟨w,x,h1,h2,h3,h4,h5,h6,h7⟩ | ⟨q,x,h1,h2,h3,h4,h5⟩
   ·have hc:=ih j A S w err cause (by omega) j8.2 hS hAj Oz h1 IX
    have HO:¬((w:Int)<0):=by omega
    unfold U0
    simp only[h1,Option.getD_some,HO,if_false,hc,walked]
    have hkeep:=Zm err cause (pre T n j) (S,[],[]) Oz (wg ht n j)
    simp only[List.length_nil,Nat.zero_add]at hkeep
    obtain⟨_,_,_,b4,b5,_⟩:=hkeep
    rw[if_pos ⟨Nat.le_trans (Nat.add_le_add_left b4 _) (by omega),Nat.le_trans (Nat.add_le_add_left b5 _) (by omega)⟩]
    rw[Um err cause (pre T n j) S out aJ]
   ·obtain⟨σ',e1,e2,e3⟩:=XE ht (S:=S) (A:=A) hS j8.2 h1 h3 h4 err cause out aJ
    have hneg:(-(q:Int)-1)<0:=by omega
    have hkk:(-(-(q:Int)-1)-1)=(q:Int):=by omega
    have MS:pre T n j=[j]:=by
     cases n with
     | zero=>exact absurd rfl hn0
     | succ m=>simp[pre,h5]
    unfold U0
    simp only[h1,Option.getD_some,hneg,if_true,hkk,e1]
    rw[if_pos ⟨by omega,by omega⟩]
    simp only[walked,MS,List.foldl_cons,List.foldl_nil,List.mem_singleton]
    rw[e2,e3]
  rw[key]
  show List.foldlM _ _ _=_
  have hkeep:=Zm err cause (pre T n j) (S,out,aJ) Oz (wg ht n j)
  simp only at hkeep
  obtain⟨k1,k2,k3,k4,k5,k6⟩:=hkeep
  have hap:∀j'∈r,∀i∈pre T n j',i∉pre T n j:=fun j' hj' i hi h9=>XU ht (hk j (by simp)) (hk j' (by simp[hj'])) (hpw.1 j' hj') n n i h9 hi
  generalize hX:(pre T n j).foldl (ya err cause) (S,out,aJ)=X at k1 k2 k3 k4 k5 k6
  have hw:walked T err cause A (pre T n j) (S,out,aJ)=(X.1.aD (yd T fun i=>A i||decide (i∈pre T n j)),X.2.1,X.2.2):=by simp only[walked,hX]
  rw[hw]
  rw[zal ht ih err cause k r (X.1.aD (yd T fun i=>A i||decide (i∈pre T n j))) (fun i=>A i||decide (i∈pre T n j)) X.2.1 X.2.2 hpw.2 (fun j' hj'=>hk j' (by simp[hj'])) hn rfl ?_ ?_ ?_ ?_ ?_]
  ·simp only[walked,List.flatMap_cons,List.foldl_append,hX]
   rw[Wa]
   obtain⟨X1,X2,X3⟩:=X
   simp only
   have hA3:(fun i=>A i||decide (i∈pre T n j)||decide (i∈r.flatMap (pre T n)))=fun i=>A i||decide (i∈pre T n j++r.flatMap (pre T n)):=by
    funext i;simp[Bool.or_assoc]
   rw[hA3]
   rfl
  ·intro j' hj' i hi
   have h1:=hA j' (by simp[hj']) i hi
   have h2:=hap j' hj' i hi
   simp[h1,h2]
  ·intro j' hj' i hi
   exact (k6 i (hL j' (by simp[hj']) i hi) (hap j' hj' i hi)).tree _
  ·exact Nat.le_trans k3 IX
  ·omega
  ·omega
theorem Wv {T:List Nd}(ht:bL T):∀n,VS T n
 | 0=>by intro k A S id err cause h1 h2;omega
 | n+1=>by
  intro k A S id err cause h1 h2 hS hA hL hw IX
  have ih:=Wv ht n
  have iN:k∈pre T (n+1) k:=by simp[pre]
  have dR:∀j∈zK T (k:Int),∀i∈pre T n j,i∈pre T (n+1) k∧i≠k:=fun j hj i hi=>by
   have h3:=yY ht hj
   have h4:=(Zg ht _ _ _ hi).1
   refine⟨?_,by omega⟩
   simp only[pre,List.mem_cons,List.mem_flatMap]
   exact .inr ⟨j,hj,hi⟩
  rcases hL k iN with⟨w,x,q1,q2,q3,q4,q5,q6,q7⟩ | ⟨q,x,q1,_⟩
  case inr=>rw[hw]at q1;simp at q1;omega
  rw[hw]at q1
  have hwi:w=id:=by simp at q1;omega
  subst hwi
  unfold CX.az
  rw[if_pos (by omega)]
  simp only[Int.toNat_natCast,q2]
  rw[if_neg (by simp[q4,q5])]
  have hend:(S.aB w { x with err:=err,cause:=cause }).Jz x.c=some ((S.aB w { x with err:=err,cause:=cause }).cG x.c):=by
   unfold CX.Jz CX.cG
   cases hc:x.c with
   | none=>rfl
   | some a=>exact if_pos (q6 a hc)
  rw[hend]
  generalize iR:(S.aB w { x with err:=err,cause:=cause }).cG x.c=S1
  have hf1:=wo (S.aB w { x with err:=err,cause:=cause }) x.c
  rw[iR]at hf1
  obtain⟨S1,ws⟩:=S1
  simp only at hf1 ⊢
  have hstop:S1.Es x.timer=some (S1.bp x.timer):=by
   have e1:S1.σ.t=S.σ.t:=by rw[hf1.1];rfl
   have e2:S1.τ=S.τ:=by rw[hf1.2.1];rfl
   unfold CX.Es CX.bp
   rw[e1,e2]
   cases hs:S.σ.t with
   | none=>rfl
   | some s =>
    simp only[]
    cases ho:S.τ.one x.timer with
    | none=>rfl
    | some o=>exact if_pos ⟨q7 s o hs ho,IX⟩
  rw[hstop]
  have Bv:ya err cause (S,[],[]) k=(S1.bp x.timer,[⟨w,err,cause,ws⟩],[]):=by
   have HO:¬((w:Int)<0):=by omega
   unfold ya
   simp only[hw,Option.getD_some,HO,if_false,Int.toNat_natCast,q2,iR,List.nil_append]
  generalize Ik:S1.bp x.timer=S2 at Bv
  have FI:S2.σ.tree=yd T A:=by
   have:=wn err cause (S,[],[]) k
   rw[Bv]at this
   exact this.2.1.trans hS
  have EA:S2.τ.x.l.length≤1000000:=by
   have:=wn err cause (S,[],[]) k
   rw[Bv]at this
   exact Nat.le_trans this.2.2.2.2.1 IX
  have hkf:(zK T (k:Int)).filter (fun i=>!A i)=zK T (k:Int):=by
   apply List.filter_eq_self.2
   intro j hj
   have hn0:n≠0:=by rintro rfl;have:=yY ht hj;omega
   have:=hA j ((dR j hj j (by cases n with | zero=>exact absurd rfl hn0 | succ m=>simp[pre])).1)
   simp[this]
  have oV:dK S2.σ.tree x.node=(zK T (k:Int)).map fun (i:Nat)=>(i:Int):=by
   rw[FI,q3,(ht.kill A).dK (by rw[yD];exact h2),wY,hkf]
  have zqH:(zK T (k:Int)).length≤1000:=Nat.le_trans (vG _ _) ht.len
  have hTl:=ht.len
  simp only
  rw[oV,if_pos ⟨by rw[FI];exact (ht.kill A).Em,by simp;omega⟩]
  have hpw:(zK T (k:Int)).Pairwise (fun a b=>a<b):=List.Pairwise.sublist List.filter_sublist List.pairwise_lt_range
  have hmul:(zK T (k:Int)).length * T.length≤999000:=by
   rcases Nat.eq_zero_or_pos (zK T (k:Int)).length with h | h
   ·rw[h];omega
   ·have a1:(zK T (k:Int)).length≤999:=by
     have h5:∀i∈zK T (k:Int),i≠k∧i<T.length:=fun i hi=>by have:=yY ht hi;omega
     have h6:(k::zK T (k:Int)).length≤T.length:=XY _ _ (List.nodup_cons.2 ⟨fun h=>(h5 k h).1 rfl,Y7 _ _⟩) (fun i hi=>by
      rcases List.mem_cons.1 hi with rfl | hi
      ·exact h2
      ·exact (h5 i hi).2)
     simp at h6;omega
    exact Nat.le_trans (Nat.mul_le_mul a1 hTl) (by omega)
  rw[zal ht ih err cause k _ S2 A _ _ hpw (fun j hj=>hj) (by omega) FI (fun j hj i hi=>hA i (dR j hj i hi).1) ?_ EA (by simp;omega) (by simp;omega)]
  ·simp only[walked]
   have hX2:∀Z:CX,Ir (Z.aD (yd T fun i=>A i||decide (i∈(zK T (k:Int)).flatMap (pre T n)))).σ.tree x.node=some (yd T fun i=>A i||decide (i∈pre T (n+1) k)):=by
    intro Z
    show Ir (yd T _) x.node=_
    rw[q3,Us (ht.kill _) (by rw[yD];exact h2),ZX]
    congr 2
    funext i
    simp only[pre,List.mem_cons,List.mem_flatMap]
    by_cases hik:i=k<;>simp[hik]
   rw[hX2]
   simp only[pre,List.foldl_cons,Bv]
   rfl
  ·intro j hj i hi
   have h3:=dR j hj i hi
   have:=(hL i h3.1).hit err cause (hL k iN) h3.2 (acc:=(S,[],[]))
   rw[Bv]at this
   exact this
end
section
structure WF (S:CX):Prop where
 tr:bL S.σ.tree
 sz:S.σ.af.length≤64∧S.σ.ai.length≤64
 len:S.σ.tree.length=S.σ.af.length+S.σ.ai.length
 bS:∀(i:Nat) (x:One),S.σ.af[i]?=some x→∃k:Nat,x.node=(k:Int)∧k<S.σ.tree.length∧S.σ.who k=some (i:Int)
 eJ:∀(j:Nat) (x:cK),S.σ.ai[j]?=some x→∃k:Nat,x.node=(k:Int)∧k<S.σ.tree.length∧S.σ.who k=some (-(j:Int)-1)∧zK S.σ.tree (k:Int)=[]
 cover:∀k:Nat,k<S.σ.tree.length→(∃(i:Nat) (x:One),S.σ.who k=some (i:Int)∧S.σ.af[i]?=some x∧x.node=(k:Int))∨(∃(j:Nat) (x:cK),S.σ.who k=some (-(j:Int)-1)∧S.σ.ai[j]?=some x∧x.node=(k:Int))
 live:∀(i k:Nat) (x:One) (n:Nd),S.σ.af[i]?=some x→x.node=(k:Int)→S.σ.tree[k]?=some n→(n.linked=true↔x.free=false∧x.err=0)
 bB:∀x∈S.σ.af,∀a,x.c=some a→(S.χ a).recvs.length+(S.χ a).aF.length≤1000000
 bQ:∀x∈S.σ.af,∀s o,S.σ.t=some s→S.τ.one x.timer=some o→o.c=none
 Fq:S.τ.x.l.length≤1000000
theorem WF.Bn {S:CX}(h:WF S){i k:Nat}{x:One}(hx:S.σ.af[i]?=some x)(hk:x.node=(k:Int))(hf:x.free=false)(he:x.err=0)(n:Nat):∀j∈pre S.σ.tree n k,xh S.σ.tree S j:=by
 intro j hj
 have hk2:=h.bS i x hx
 obtain⟨k',e1,e2,e3⟩:=hk2
 have:k'=k:=by omega
 subst this
 have hjl:=(Zg h.tr _ _ _ hj).2 e2
 have hlk:j=k'∨∃m,S.σ.tree[j]?=some m∧m.linked=true:=by
  by_cases e:j=k'
  ·exact .inl e
  ·obtain⟨m,hm⟩:=Vs n k' j hj e
   rcases hm with⟨h1,h2,_⟩ | hm
   ·exact .inr ⟨m,h1,h2⟩
   ·exact hm.elim
 rcases h.cover j hjl with⟨i2,x2,c1,c2,c3⟩ | ⟨j2,x2,c1,c2,c3⟩
 ·have hfe:x2.free=false∧x2.err=0:=by
   rcases hlk with rfl | ⟨m,m1,m2⟩
   ·rw[e3]at c1
    have:i=i2:=by simp at c1;omega
    subst this
    rw[hx]at c2;cases c2
    exact⟨hf,he⟩
   ·exact (h.live i2 j x2 m c2 c3 m1).1 m2
  have hmem:=List.mem_of_getElem? c2
  exact .inl ⟨i2,x2,c1,c2,c3,hfe.1,hfe.2,h.bB x2 hmem,h.bQ x2 hmem⟩
 ·have hj2:j2<S.σ.ai.length:=(List.getElem?_eq_some_iff.1 c2).1
  obtain⟨k3,d1,d2,d3,d4⟩:=h.eJ j2 x2 c2
  have:k3=j:=by omega
  subst this
  exact .inr ⟨j2,x2,c1,by have:=h.sz.2;omega,c2,c3,d4⟩
theorem WF.az {S:CX}(h:WF S){i k:Nat}{x:One}(hx:S.σ.af[i]?=some x)(hk:x.node=(k:Int))(hf:x.free=false)(he:x.err=0)(err cause:Int) :
  S.az 200 i err cause=some (walked S.σ.tree err cause (fun _=>false) (pre S.σ.tree 200 k) (S,[],[])):=by
 obtain⟨k',e1,e2,e3⟩:=h.bS i x hx
 have:k'=k:=by omega
 subst this
 have:=h.len
 have:=h.sz
 exact Wv h.tr 200 k' _ S i err cause (by omega) e2 (ZD _ (fun _=>rfl)).symm (fun _ _=>rfl) (h.Bn hx hk hf he 200) e3 h.Fq
theorem yA {S:CX}{i:Nat}{x:One}(hx:S.σ.af[i]?=some x)(he:x.free=true∨x.err≠0)(n:Nat)(err cause:Int):S.az (n+1) i err cause=some (S,[],[]):=by
 unfold CX.az
 rw[if_pos (by omega)]
 simp only[Int.toNat_natCast,hx]
 rw[if_pos he]
structure H6 (S:CX):Prop where
 w1:∀(i:Nat) (x:One),S.σ.af[i]?=some x→∃k:Nat,x.node=(k:Int)∧S.σ.who k=some (i:Int)
 w2:∀(j:Nat) (x:cK),S.σ.ai[j]?=some x→∃k:Nat,x.node=(k:Int)∧S.σ.who k=some (-(j:Int)-1)
theorem WF.zn9 {S:CX}(h:WF S):H6 S:=⟨fun i x hx=>by obtain⟨k,h1,_,h3⟩:=h.bS i x hx;exact⟨k,h1,h3⟩,fun i x hx=>by obtain⟨k,h1,_,h3,_⟩:=h.eJ i x hx;exact⟨k,h1,h3⟩⟩
def nc (l:List Nat)(n:Int):Bool:=l.any fun i=>decide (n=(i:Int))
theorem zaq (err cause:Int){acc:Za}{j:Nat}{T:List Nd}(hw:H6 acc.1)(hj:xh T acc.1 j) :
  (∀w:Nat,(ya err cause acc j).1.σ.af[w]?=(acc.1.σ.af[w]?).map fun (x:One)=>if x.node=(j:Int)then { x with err:=err,cause:=cause }else x) ∧
  (∀w:Nat,(ya err cause acc j).1.σ.ai[w]?=(acc.1.σ.ai[w]?).map fun (x:cK)=>if x.node=(j:Int)then { x with ak:=true }else x):=by
 rcases hj with⟨w0,x0,q1,q2,q3,_⟩ | ⟨k0,x0,q1,q5,q2,q3,_⟩
 ·have HO:¬((w0:Int)<0):=by omega
  have e:ya err cause acc j=((((acc.1.aB w0 { x0 with err:=err,cause:=cause }).cG x0.c).1.bp x0.timer),acc.2.1++[⟨w0,err,cause,((acc.1.aB w0 { x0 with err:=err,cause:=cause }).cG x0.c).2⟩],acc.2.2):=by
   unfold ya
   simp only[q1,Option.getD_some,HO,if_false,Int.toNat_natCast,q2]
  rw[e]
  simp only
  rw[(xV _ _).1,(wo _ _).1]
  refine⟨fun w=>?_,fun w=>?_⟩
  ·show (acc.1.σ.af.set w0 _)[w]?=_
   by_cases hww:w0=w
   ·subst hww
    have hl:w0<acc.1.σ.af.length:=(List.getElem?_eq_some_iff.1 q2).1
    rw[List.getElem?_set_self hl,q2];simp[q3]
   ·rw[List.getElem?_set_ne hww]
    cases hx:acc.1.σ.af[w]? with
    | none=>rfl
    | some y =>
     have:y.node≠(j:Int):=by
      intro h9
      obtain⟨k,h1,h2⟩:=hw.w1 w y hx
      have:k=j:=by omega
      subst this
      rw[q1]at h2;simp at h2;omega
     simp[this]
  ·show acc.1.σ.ai[w]?=_
   cases hx:acc.1.σ.ai[w]? with
   | none=>rfl
   | some y =>
    have:y.node≠(j:Int):=by
     intro h9
     obtain⟨k,h1,h2⟩:=hw.w2 w y hx
     have:k=j:=by omega
     subst this
     rw[q1]at h2;simp at h2;omega
    simp[this]
 ·have hneg:(-(k0:Int)-1)<0:=by omega
  have hk:(-(-(k0:Int)-1)-1)=(k0:Int):=by omega
  have e:ya err cause acc j=({ acc.1 with σ:={ acc.1.σ with ai:=acc.1.σ.ai.set k0 { x0 with ak:=true } } },acc.2.1,acc.2.2++[((k0:Int),x0.prog)]):=by
   unfold ya
   simp only[q1,Option.getD_some,hneg,if_true,hk,Int.toNat_natCast,q2]
  rw[e]
  refine⟨fun w=>?_,fun w=>?_⟩
  ·show acc.1.σ.af[w]?=_
   cases hx:acc.1.σ.af[w]? with
   | none=>rfl
   | some y =>
    have:y.node≠(j:Int):=by
     intro h9
     obtain⟨k,h1,h2⟩:=hw.w1 w y hx
     have:k=j:=by omega
     subst this
     rw[q1]at h2;simp at h2;omega
    simp[this]
  ·show (acc.1.σ.ai.set k0 _)[w]?=_
   by_cases hww:k0=w
   ·subst hww
    have hl:k0<acc.1.σ.ai.length:=(List.getElem?_eq_some_iff.1 q2).1
    rw[List.getElem?_set_self hl,q2];simp[q3]
   ·rw[List.getElem?_set_ne hww]
    cases hx:acc.1.σ.ai[w]? with
    | none=>rfl
    | some y =>
     have:y.node≠(j:Int):=by
      intro h9
      obtain⟨k,h1,h2⟩:=hw.w2 w y hx
      have:k=j:=by omega
      subst this
      rw[q1]at h2;simp at h2;omega
     simp[this]
theorem H6.hit {T:List Nd}(err cause:Int){acc:Za}{j:Nat}(hw:H6 acc.1)(hj:xh T acc.1 j):H6 (ya err cause acc j).1:=by
 have hk:=wn err cause acc j
 obtain⟨h1,h2⟩:=zaq err cause hw hj
 refine⟨fun i x hx=>?_,fun i x hx=>?_⟩
 ·rw[h1]at hx
  cases e:acc.1.σ.af[i]? with
  | none=>rw[e]at hx;cases hx
  | some y =>
   rw[e]at hx
   obtain⟨k,k1,k2⟩:=hw.w1 i y e
   simp at hx;subst hx
   exact⟨k,by split<;>exact k1,by rw[hk.1];exact k2⟩
 ·rw[h2]at hx
  cases e:acc.1.σ.ai[i]? with
  | none=>rw[e]at hx;cases hx
  | some y =>
   rw[e]at hx
   obtain⟨k,k1,k2⟩:=hw.w2 i y e
   simp at hx;subst hx
   exact⟨k,by split<;>exact k1,by rw[hk.1];exact k2⟩
theorem zao {T:List Nd}(err cause:Int):∀(l:List Nat) (acc:Za),H6 acc.1→(∀i∈l,xh T acc.1 i)→l.Nodup →
  (∀w:Nat,(l.foldl (ya err cause) acc).1.σ.af[w]?=(acc.1.σ.af[w]?).map fun (x:One)=>if nc l x.node=true then { x with err:=err,cause:=cause }else x) ∧
  (∀w:Nat,(l.foldl (ya err cause) acc).1.σ.ai[w]?=(acc.1.σ.ai[w]?).map fun (x:cK)=>if nc l x.node=true then { x with ak:=true }else x) ∧
  (l.foldl (ya err cause) acc).1.σ.t=acc.1.σ.t∧(l.foldl (ya err cause) acc).1.τ.af=acc.1.τ.af ∧
  (∀b n,(acc.1.χ b).recvs.length+(acc.1.χ b).aF.length≤n→((l.foldl (ya err cause) acc).1.χ b).recvs.length+((l.foldl (ya err cause) acc).1.χ b).aF.length≤n)
 | [],acc,_,_,_=>by simp[nc]
 | a::r,acc,hw,h,hn=>by
  have ha:=h a (by simp)
  have hn':=List.nodup_cons.1 hn
  have hk:=wn err cause acc a
  obtain⟨o1,o2⟩:=zaq err cause hw ha
  obtain⟨i1,i2,i3,i4,i5⟩:=zao (T:=T) err cause r (ya err cause acc a) (hw.hit err cause ha) (fun i hi=>(h i (by simp[hi])).hit err cause ha (by rintro rfl;exact hn'.1 hi)) hn'.2
  simp only[List.foldl_cons]
  refine⟨fun w=>?_,fun w=>?_,i3.trans hk.2.2.1,i4.trans hk.2.2.2.1,fun b n hb=>i5 b n (hk.2.2.2.2.2.1 b n hb)⟩
  ·rw[i1,o1]
   cases acc.1.σ.af[w]? with
   | none=>rfl
   | some x =>
    simp only[Option.map_some,nc,List.any_cons]
    by_cases e:x.node=(a:Int)
    ·simp only[e,if_true,decide_true,Bool.true_or]
     split<;>rfl
    ·simp[e]
  ·rw[i2,o2]
   cases acc.1.σ.ai[w]? with
   | none=>rfl
   | some x =>
    simp only[Option.map_some,nc,List.any_cons]
    by_cases e:x.node=(a:Int)
    ·simp only[e,if_true,decide_true,Bool.true_or]
     split<;>rfl
    ·simp[e]
theorem zbn {l:List Nat}{n:Int}{k:Nat}(h:n=(k:Int)):nc l n=decide (k∈l):=by
 subst h
 unfold nc
 rw[Bool.eq_iff_iff]
 simp only[List.any_eq_true,decide_eq_true_eq]
 constructor
 ·rintro⟨x,h1,h2⟩
  have:k=x:=by omega
  rw[this];exact h1
 ·exact fun h1=>⟨k,h1,rfl⟩
theorem WF.walk {S:CX}(h:WF S){i k:Nat}{x:One}(hx:S.σ.af[i]?=some x)(hk:x.node=(k:Int))(hf:x.free=false)(he:x.err=0){err cause:Int}(dS:err≠0){r:Za}
  (hr:walked S.σ.tree err cause (fun _=>false) (pre S.σ.tree 200 k) (S,[],[])=r):WF r.1∧r.1.σ.who=S.σ.who∧r.1.σ.t=S.σ.t∧r.1.τ.af=S.τ.af ∧
  r.1.σ.tree=yd S.σ.tree (fun j=>decide (j∈pre S.σ.tree 200 k)) ∧
  (∀w:Nat,r.1.σ.af[w]?=(S.σ.af[w]?).map fun (x:One)=>if nc (pre S.σ.tree 200 k) x.node=true then { x with err:=err,cause:=cause }else x) ∧
  (∀w:Nat,r.1.σ.ai[w]?=(S.σ.ai[w]?).map fun (x:cK)=>if nc (pre S.σ.tree 200 k) x.node=true then { x with ak:=true }else x):=by
 have hl:=h.Bn hx hk hf he 200
 have fQ:=wg h.tr 200 k
 obtain⟨i1,i2,i3,i4,i5⟩:=zao (T:=S.σ.tree) err cause (pre S.σ.tree 200 k) (S,[],[]) h.zn9 hl fQ
 obtain⟨k1,k2,k3,k4,k5,k6⟩:=Zm (T:=S.σ.tree) err cause (pre S.σ.tree 200 k) (S,[],[]) hl fQ
 have hrt:r.1.σ.tree=yd S.σ.tree (fun j=>decide (j∈pre S.σ.tree 200 k)):=by rw[←hr];show yd _ _=_;simp
 have hro:r.1.σ.af=((pre S.σ.tree 200 k).foldl (ya err cause) (S,[],[])).1.σ.af:=by rw[←hr];rfl
 have hra:r.1.σ.ai=((pre S.σ.tree 200 k).foldl (ya err cause) (S,[],[])).1.σ.ai:=by rw[←hr];rfl
 have hrw:r.1.σ.who=S.σ.who:=by rw[←k1,←hr];rfl
 have zlp:r.1.σ.t=S.σ.t:=by rw[←i3,←hr];rfl
 have zpd:r.1.τ=((pre S.σ.tree 200 k).foldl (ya err cause) (S,[],[])).1.τ:=by rw[←hr];rfl
 have zpc:r.1.χ=((pre S.σ.tree 200 k).foldl (ya err cause) (S,[],[])).1.χ:=by rw[←hr];rfl
 rw[←hro]at i1
 rw[←hra]at i2
 rw[←zpd]at i4 k3
 rw[←zpc]at i5
 simp only at i1 i2 i4 k3 i5
 have hlo:r.1.σ.af.length=S.σ.af.length:=by
  rcases Nat.lt_trichotomy r.1.σ.af.length S.σ.af.length with h9 | h9 | h9
  ·have:=i1 r.1.σ.af.length
   rw[List.getElem?_eq_none (Nat.le_refl _),List.getElem?_eq_getElem h9]at this;cases this
  ·exact h9
  ·have:=i1 S.σ.af.length
   rw[List.getElem?_eq_getElem h9,List.getElem?_eq_none (Nat.le_refl _)]at this;cases this
 have hla:r.1.σ.ai.length=S.σ.ai.length:=by
  rcases Nat.lt_trichotomy r.1.σ.ai.length S.σ.ai.length with h9 | h9 | h9
  ·have:=i2 r.1.σ.ai.length
   rw[List.getElem?_eq_none (Nat.le_refl _),List.getElem?_eq_getElem h9]at this;cases this
  ·exact h9
  ·have:=i2 S.σ.ai.length
   rw[List.getElem?_eq_getElem h9,List.getElem?_eq_none (Nat.le_refl _)]at this;cases this
 have hlt:r.1.σ.tree.length=S.σ.tree.length:=by rw[hrt,yD]
 have back:∀(w:Nat) (y:One),r.1.σ.af[w]?=some y→∃x,S.σ.af[w]?=some x∧y=if nc (pre S.σ.tree 200 k) x.node=true then { x with err:=err,cause:=cause }else x:=by
  intro w y hy
  rw[i1]at hy
  cases e:S.σ.af[w]? with
  | none=>rw[e]at hy;cases hy
  | some x=>rw[e]at hy;simp at hy;exact⟨x,rfl,hy.symm⟩
 have znw:∀(w:Nat) (y:cK),r.1.σ.ai[w]?=some y→∃x,S.σ.ai[w]?=some x∧y=if nc (pre S.σ.tree 200 k) x.node=true then { x with ak:=true }else x:=by
  intro w y hy
  rw[i2]at hy
  cases e:S.σ.ai[w]? with
  | none=>rw[e]at hy;cases hy
  | some x=>rw[e]at hy;simp at hy;exact⟨x,rfl,hy.symm⟩
 refine⟨⟨by rw[hrt];exact h.tr.kill _,by rw[hlo,hla];exact h.sz,by rw[hlt,hlo,hla];exact h.len,?_,?_,?_,?_,?_,?_,Nat.le_trans k3 h.Fq⟩,hrw,zlp,i4,hrt,i1,i2⟩
 ·intro w y hy
  obtain⟨x,hx,rfl⟩:=back w y hy
  obtain⟨k,h1,h2,h3⟩:=h.bS w x hx
  exact⟨k,by split<;>exact h1,by rw[hlt];exact h2,by rw[hrw];exact h3⟩
 ·intro w y hy
  obtain⟨x,hx,rfl⟩:=znw w y hy
  obtain⟨k,h1,h2,h3,h4⟩:=h.eJ w x hx
  exact⟨k,by split<;>exact h1,by rw[hlt];exact h2,by rw[hrw];exact h3,by rw[hrt,wY,h4];rfl⟩
 ·intro j hj
  rw[hlt]at hj
  rcases h.cover j hj with⟨w,x,c1,c2,c3⟩ | ⟨w,x,c1,c2,c3⟩
  ·exact .inl ⟨w,_,by rw[hrw];exact c1,by rw[i1,c2,Option.map_some],by split<;>exact c3⟩
  ·exact .inr ⟨w,_,by rw[hrw];exact c1,by rw[i2,c2,Option.map_some],by split<;>exact c3⟩
 ·intro w j y n hy hn ht
  obtain⟨x,hx,rfl⟩:=back w y hy
  have hxj:x.node=(j:Int):=by split at hn<;>exact hn
  rw[hrt,yU]at ht
  cases e:S.σ.tree[j]? with
  | none=>rw[e]at ht;cases ht
  | some m =>
   rw[e]at ht;simp at ht;subst ht
   have:=h.live w j x m hx hxj e
   rw[zbn hxj]
   by_cases hm:j∈pre S.σ.tree 200 k
   ·simp[hm,dS]
   ·simp[hm,this]
 ·intro y hy a ha
  obtain⟨w,hw⟩:=List.mem_iff_getElem?.1 hy
  obtain⟨x,hx,rfl⟩:=back w y hw
  have:x.c=some a:=by split at ha<;>exact ha
  exact i5 a _ (h.bB x (List.mem_of_getElem? hx) a this)
 ·intro y hy s o hs ho
  obtain⟨w,hw⟩:=List.mem_iff_getElem?.1 hy
  obtain⟨x,hx,rfl⟩:=back w y hw
  refine h.bQ x (List.mem_of_getElem? hx) s o (by rw[←zlp];exact hs) ?_
  rw[←zha i4]
  split at ho<;>exact ho
end
end Go.AM
