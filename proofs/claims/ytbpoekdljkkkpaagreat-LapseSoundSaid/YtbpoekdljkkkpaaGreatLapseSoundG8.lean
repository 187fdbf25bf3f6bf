/- The texts LawCtxAftersP, LibSimC, LawTimerActsC, LawTimerActsD, LibSimD, LawCtxForest, LibSimE, LibSimF, LawLapseSoundP, LawCtxActsA, LawCtxActsB, LawCtxActsC, LawCtxActsD, LawCtxActsE, LawCtxActsF, LawCtxActsG, LawLapseSoundA, LibLapseB, LibLapseC, LibLapseE, LawLapseSoundB of a proof of LapseSound, merged. -/
import Derived.Test.YtbpoekdljkkkpaaGreatLapseSoundG7
set_option linter.unusedVariables false
set_option linter.unusedSimpArgs false
namespace Go.AM
section
def CX.ck (S:CX)(i:Nat)(x:cK):CX:={ S with σ:={ S.σ with ai:=S.σ.ai.set i { x with ak:=true },tree:=yd S.σ.tree fun k=>decide (k=x.node.toNat) } }
theorem WF.ck {S:CX}(h:WF S){i:Nat}{x:cK}(hx:S.σ.ai[i]?=some x):WF (S.ck i x)∧S.bg i=some (S.ck i x,!x.ak,0)∧S.σ.dJ i=some ((S.ck i x).σ,((i:Int),x.prog)):=by
 obtain⟨k,h1,h2,h3,h4⟩:=h.eJ i x hx
 have hd:Ir S.σ.tree x.node=some (yd S.σ.tree fun j=>decide (j=k)):=by rw[h1];exact Us h.tr h2
 have bK:=(List.getElem?_eq_some_iff.1 hx).1
 have hk:x.node.toNat=k:=by omega
 have ig:∀(j:Nat) (y:cK),(S.ck i x).σ.ai[j]?=some y→∃z,S.σ.ai[j]?=some z∧y.node=z.node:=by
  intro j y hy
  have hy:(S.σ.ai.set i { x with ak:=true })[j]?=some y:=hy
  by_cases e:i=j
  ·subst e
   rw[List.getElem?_set_self bK]at hy
   cases hy
   exact⟨x,hx,rfl⟩
  ·rw[List.getElem?_set_ne e]at hy
   exact⟨y,hy,rfl⟩
 have zpG:∀(j:Nat) (z:cK),S.σ.ai[j]?=some z→∃y,(S.ck i x).σ.ai[j]?=some y∧y.node=z.node:=by
  intro j z hz
  show ∃y,(S.σ.ai.set i { x with ak:=true })[j]?=some y∧_
  by_cases e:i=j
  ·subst e
   rw[List.getElem?_set_self bK]
   rw[hx]at hz;cases hz
   exact⟨_,rfl,rfl⟩
  ·rw[List.getElem?_set_ne e]
   exact⟨z,hz,rfl⟩
 have m6:(S.ck i x).σ.tree.length=S.σ.tree.length:=yD _ _
 refine⟨⟨h.tr.kill _,⟨h.sz.1,?_⟩,?_,?_,?_,?_,?_,h.bB,h.bQ,h.Fq⟩,?_,?_⟩
 ·show (S.σ.ai.set i _).length≤64
  rw[List.length_set];exact h.sz.2
 ·rw[m6]
  show _=S.σ.af.length+(S.σ.ai.set i _).length
  rw[List.length_set];exact h.len
 ·intro j y hy
  rw[m6]
  exact h.bS j y hy
 ·intro j y hy
  obtain⟨z,hz,hn⟩:=ig j y hy
  obtain⟨k',e1,e2,e3,e4⟩:=h.eJ j z hz
  refine⟨k',by rw[hn];exact e1,by rw[m6];exact e2,e3,?_⟩
  show zK (yd _ _) _=[]
  rw[wY,e4];rfl
 ·intro k' hk'
  rw[m6]at hk'
  rcases h.cover k' hk' with⟨w,y,c1,c2,c3⟩ | ⟨w,y,c1,c2,c3⟩
  ·exact .inl ⟨w,y,c1,c2,c3⟩
  ·obtain⟨z,hz,hn⟩:=zpG w y c2
   exact .inr ⟨w,z,c1,hz,by rw[hn];exact c3⟩
 ·intro w k' y n hy R1 hn
  have hn:(yd S.σ.tree fun k=>decide (k=x.node.toNat))[k']?=some n:=hn
  rw[yU]at hn
  cases e:S.σ.tree[k']? with
  | none=>rw[e]at hn;cases hn
  | some m =>
   rw[e]at hn;simp at hn;subst hn
   have hne:=h.Bm (p:=w) hy hx
   have:¬k'=x.node.toNat:=by omega
   simp only[this,decide_false,Bool.not_false,Bool.and_true]
   exact h.live w k' y m hy R1 e
 ·unfold CX.bg
  rw[if_pos ⟨by omega,by omega⟩]
  simp only[Int.toNat_natCast,hx]
  rw[hd]
  simp only[CX.ck,hk]
 ·unfold Cs.dJ
  rw[if_pos (by omega)]
  simp only[Int.toNat_natCast,hx]
  rw[hd]
  simp only[CX.ck,hk]
def stay (js:List Nat)(ov:Nat→Bool)(j:Nat):List Nat:=(List.range js.length).filter fun i=>decide (js[i]?=some j)&&!ov i
end
section
section
variable {ρ:Nat→Nat} {S S':CX} {k:Nat}
theorem YN (h:CI S k)(m:bx ρ S S')(id:Int){a a':Nat}(ha:S.σ.room id=0→¬xi S a)(gx:S.σ.room id=0→¬xi S' a'):∃r r' ρ',S.aL id a=some r∧S'.aL id a'=some r'∧bx ρ' r.1 r'.1∧r'.2=r.2∧CI r.1 k∧cO S.τ r.1.τ∧cg k r.2.2.1 []:=by
 unfold CX.aL
 rw[m.room]
 by_cases hr:S.σ.room id=0
 ·obtain⟨i,up,rfl,bK,aI,_,hlen⟩:=xr hr
  have h1:=h.aG (o:={ One.zero with when:=up.when,has:=up.has }) aI hlen rfl a
  have m1:=m.aG (ha hr) (gx hr) { One.zero with when:=up.when,has:=up.has } up.node
  obtain⟨_,e1,_⟩:=h.wf.aG (o:={ One.zero with when:=up.when,has:=up.has }) aI hlen rfl a
  have Br:(S.aG { One.zero with when:=up.when,has:=up.has } up.node a).σ.af[i]?=some up:=by rw[e1,List.getElem?_append_left bK];exact aI
  have hy:∃y,(S.aG { One.zero with when:=up.when,has:=up.has } up.node a).σ.af[S.σ.af.length]?=some y:=⟨_,by rw[e1,List.getElem?_append_right (Nat.le_refl _),Nat.sub_self];rfl⟩
  obtain⟨y,hy⟩:=hy
  obtain⟨r,r',b1,b2,b3,b4,b5,b6,_,b8⟩:=zcu h1 m1 Br hy
  simp only[hr,ne_eq,not_true_eq_false,if_false,h.wf.bM,(m.wf h.wf).bM,if_true,Int.toNat_natCast,m.get,aI,Option.map_some,m.len]
  have w1:(rn ρ up).when=up.when:=rfl
  have w2:(rn ρ up).has=up.has:=rfl
  have w3:(rn ρ up).node=up.node:=rfl
  rw[w1,w2,w3,b1,b2]
  exact⟨_,_,_,rfl,rfl,b3,by simp only[b4],b5,b6,b8⟩
 ·rw[if_pos hr,if_pos hr]
  exact⟨_,_,ρ,rfl,rfl,m,rfl,h,cO.refl _,cg.nil k⟩
theorem AO.ck (ao:AO S){i:Nat}{x:cK}(wf:WF S)(hx:S.σ.ai[i]?=some x):AO (S.ck i x):=by
 obtain⟨k0,q1,q2,_⟩:=wf.eJ i x hx
 have hk:x.node.toNat=k0:=by omega
 intro j k y n hy R1 hn hl
 have hn':(yd S.σ.tree fun k=>decide (k=x.node.toNat))[k]?=some n:=hn
 rw[yU]at hn'
 cases e:S.σ.tree[k]? with
 | none=>rw[e]at hn';cases hn'
 | some m =>
  rw[e]at hn';simp at hn';subst hn'
  simp at hl
  have hy':(S.σ.ai.set i { x with ak:=true })[j]?=some y:=hy
  rcases wd hy' with⟨rfl,rfl,_⟩ | ⟨_,hy'⟩
  ·have:x.node=(k:Int):=R1
   exfalso;apply hl.2;omega
  ·exact ao j k y m hy' R1 e hl.1
theorem CI.ck (h:CI S k){i:Nat}{x:cK}(hx:S.σ.ai[i]?=some x):CI (S.ck i x) k:=⟨(h.wf.ck hx).1,h.ao.ck h.wf hx,h.t,h.tg,h.on,h.ch⟩
theorem bx.ck (m:bx ρ S S')(i:Nat)(x:cK):bx ρ (S.ck i x) (S'.ck i x):=by
 have h1:=(m.aD (yd S.σ.tree fun k=>decide (k=x.node.toNat))).GI (S.σ.ai.set i { x with ak:=true })
 have e:S'.ck i x={ (S'.aD (yd S.σ.tree fun k=>decide (k=x.node.toNat)))with σ:={ (S'.aD (yd S.σ.tree fun k=>decide (k=x.node.toNat))).σ with ai:=S.σ.ai.set i { x with ak:=true } } }:=by
  simp only[CX.ck,CX.aD,m.tree,m.ai]
 rw[e]
 exact h1
theorem zdn (h:CI S k)(m:bx ρ S S')(j:Int):∃r r',S.bg j=some r∧S'.bg j=some r'∧bx ρ r.1 r'.1∧r'.2=r.2∧CI r.1 k∧cO S.τ r.1.τ:=by
 by_cases hj:0≤j∧j<(S.σ.ai.length:Int)
 ·obtain⟨i,rfl⟩:=Int.eq_ofNat_of_zero_le hj.1
  have hx:S.σ.ai[i]?=some S.σ.ai[i]:=List.getElem?_eq_getElem (by omega)
  generalize S.σ.ai[i]=x at hx
  have hx':S'.σ.ai[i]?=some x:=by rw[m.ai];exact hx
  obtain⟨_,e1,_⟩:=h.wf.ck hx
  obtain⟨_,e2,_⟩:=(m.wf h.wf).ck hx'
  exact⟨_,_,e1,e2,m.ck i x,rfl,h.ck hx,cO.refl _⟩
 ·refine⟨(S,false,4),(S',false,4),?_,?_,m,rfl,h,cO.refl _⟩
  ·unfold CX.bg;rw[if_neg hj]
  ·unfold CX.bg;rw[m.ai,if_neg hj]
theorem bx.cm (m:bx ρ S S')(up:One)(prog:Int):bx ρ { S with σ:=S.σ.cm up prog } { S' with σ:=S'.σ.cm (rn ρ up) prog }:=by
 have h1:=m.reset (zP S.σ.tree up.node true).1 (S.σ.ai++[⟨(zP S.σ.tree up.node true).2.1,prog,false⟩]) (yM S.σ.who (zP S.σ.tree up.node true).2.1 (some (-(S.σ.ai.length:Int)-1)))
 have e:({ S' with σ:=S'.σ.cm (rn ρ up) prog }:CX)={ S' with σ:={ S'.σ with tree:=(zP S.σ.tree up.node true).1,ai:=S.σ.ai++[⟨(zP S.σ.tree up.node true).2.1,prog,false⟩],who:=yM S.σ.who (zP S.σ.tree up.node true).2.1 (some (-(S.σ.ai.length:Int)-1)) } }:=by
  have w3:(rn ρ up).node=up.node:=rfl
  simp only[Cs.cm,m.tree,m.ai,m.who,w3]
 rw[e]
 exact h1
theorem zgq (h:CI S k)(m:bx ρ S S')(id prog:Int):∃r r',S.bI id prog=some r∧S'.bI id prog=some r'∧bx ρ r.1 r'.1∧r'.2=r.2∧CI r.1 k∧cO S.τ r.1.τ∧r.2.2.1.length≤1000:=by
 unfold CX.bI
 rw[m.has]
 cases hh:S.σ.has id with
 | false=>exact⟨_,_,if_pos rfl,if_pos rfl,m,rfl,h,cO.refl _,by simp⟩
 | true =>
  simp only[Bool.true_eq_false,if_false,m.ai,m.tree]
  by_cases hp:prog<0
  ·simp only[hp,if_true];exact⟨_,_,rfl,rfl,m,rfl,h,cO.refl _,by simp⟩
  by_cases hl:64≤S.σ.ai.length
  ·simp only[hp,hl,if_true,if_false];exact⟨_,_,rfl,rfl,m,rfl,h,cO.refl _,by simp⟩
  obtain⟨i,up,rfl,aI,_⟩:=xz hh
  simp only[hp,hl,if_false,h.wf.tr.Em,if_true,Int.toNat_natCast,m.get,aI,Option.map_some]
  have hlen:S.σ.ai.length<64:=by omega
  have he:(rn ρ up).err=up.err:=rfl
  rw[he]
  have m1:=m.cm up prog
  obtain⟨w1,a1,_,_⟩:=h.wf.cm aI hlen prog
  have c1:CI ({ S with σ:=S.σ.cm up prog }:CX) k:=⟨w1,h.ao.cm h.wf aI hlen prog,h.t,h.tg,h.on,h.ch⟩
  by_cases h0:up.err=0
  ·simp only[h0,ne_eq,not_true_eq_false,if_false]
   exact⟨_,_,rfl,rfl,m1,rfl,c1,cO.refl _,by simp⟩
  ·simp only[h0,ne_eq,not_false_eq_true,if_true]
   obtain⟨x,hx⟩:∃x,(S.σ.cm up prog).ai[S.σ.ai.length]?=some x:=⟨⟨(S.σ.tree.length:Int),prog,false⟩,by rw[a1];simp⟩
   have hx':(S'.σ.cm (rn ρ up) prog).ai[S.σ.ai.length]?=some x:=by have:=m1.ai;simp only at this;rw[this];exact hx
   obtain⟨_,_,e1⟩:=w1.ck (S:=({ S with σ:=S.σ.cm up prog }:CX)) hx
   obtain⟨_,_,e2⟩:=(m1.wf w1).ck (S:=({ S' with σ:=S'.σ.cm (rn ρ up) prog }:CX)) hx'
   rw[e1,e2]
   exact⟨_,_,rfl,rfl,m1.ck S.σ.ai.length x,rfl,c1.ck hx,cO.refl _,by simp⟩
end
end
section
variable {F:Nat→Option aT}
section
variable {L0 K:Lg} {b s u k:Nat} {now:Int} {σ ρ:bk} {χ ψ:Nat→Ch}
theorem zeX {σ:bk}{w:On}(hc:w.c=none){n d:Int}:∀(j:Nat) (w':On) (a:Nat),(σ.make w n d).1.af[j]?=some w'→w'.c=some a→∃w,σ.af[j]?=some w∧w.c=some a:=by
 intro j w' a h1 h2
 by_cases h0:(σ.make w n d).2.2=0
 ·rw[(zbb h0).2]at h1
  rcases zcl h1 with⟨_,rfl⟩ | ⟨_,dy⟩
  ·simp[hc]at h2
  ·exact⟨w',dy,h2⟩
 ·rw[(zcB h0).1]at h1;exact⟨w',h1,h2⟩
theorem zjb {l:List Wk}{v:AV}{X:Lg}(h:(l=[]∧v=.sl none 0 0 0)∨∃q ex,v=.sl (some (q,0)) l.length l.length ex∧X q=some (.raw (.cells (yr l)))):Ah Wk.cells 5 X v l:=by
 rcases h with⟨rfl,rfl⟩ | ⟨q,ex,rfl,h⟩
 ·exact⟨none,0,0,rfl,.inl rfl⟩
 ·rw[YY]at h
  refine⟨some (q,0),l.length,ex,rfl,.inr ⟨q,0,zl Wk.cells l,rfl,.inl h,by rw[zY vQ];omega,fun i x hi=>?_⟩⟩
  have:=xT (f:=Wk.cells) (k:=5) (fun _=>rfl) l i x hi
  simpa using this.1
end
end
section
variable {F:Nat→Option aT}
theorem zgv {σ:bk}{w:On}{n d:Int}{m:Nat}(h:σ.af.length≤m):(σ.make w n d).1.af.length≤m+1:=by
 by_cases h0:(σ.make w n d).2.2=0
 ·rw[(zbb h0).2];simp;exact h
 ·rw[(zcB h0).1];omega
section
variable {L0 K:Lg} {b s u k m x3:Nat} {now:Int} {σ ρ:bk} {χ:Nat→Ch} {Q:AV→Lg→Prop} {kd n d:Int}
end
end
section
section
variable {ρ:Nat→Nat} {S S':CX} {k:Nat}
theorem CI.fF (h:CI S k)(hk:k≤900000):S.τ.fF=true:=by
 have h1:=h.tg.g.len
 have h2:=h.tg.g.seq
 have h3:=h.tg.g.pos
 have h4:=h.tg.n
 have h5:=h.tg.o
 unfold bk.fF
 simp
 omega
theorem zjf (h:CI S k)(m:bx ρ S S')(hk:k≤900000){n:Nat}{y:One}(hy:S.σ.af[n]?=some y)(W:Int):∃S2 S2',S.fe n W=some S2∧S'.fe n W=some S2'∧bx ρ S2 S2'∧CI S2 (k+2)∧S2.τ.af.length≤S.τ.af.length+1:=by
 obtain⟨mk,hmk⟩:∃mk,mk=S.τ.make ⟨4,(n:Int),none,0⟩ 0 W:=⟨_,rfl⟩
 have h2:mk.2.2=0:=by rw[hmk];exact YO _ _ _
 have hf:=h.fF hk
 have ht:=h.t
 have ht':=m.t
 cases e1:S.σ.t with
 | none=>rw[e1]at ht;cases ht
 | some s =>
  cases e2:S'.σ.t with
  | none=>rw[e1,e2]at ht';cases ht'
  | some s' =>
   unfold CX.fe
   rw[e1,e2]
   simp only
   rw[m.x,hf,if_pos rfl,if_pos rfl,←hmk,if_pos h2,if_pos h2,m.get,hy]
   have e3:(rn ρ y).timer=y.timer:=rfl
   refine⟨_,_,rfl,rfl,?_,?_,by show mk.1.af.length≤_;rw[hmk];exact zgv (Nat.le_refl _)⟩
   ·have:=((m.Bi mk.1).aB (w:=n) (x:=y) (y:={ y with timer:=mk.2.1 }) hy rfl)
    exact this
   ·have tg:=h.tg.make (w:=⟨4,(n:Int),none,0⟩) rfl 0 W
    rw[←hmk]at tg
    have hc:(P4 (fun _=>Ch.tm) S.τ.af.length .tm)=fun _=>Ch.tm:=by funext i;unfold P4;split<;>rfl
    rw[hc]at tg
    have on:∀(j:Nat) (o:On),mk.1.af[j]?=some o→o.c=none:=by
     intro j o ho
     cases jw:o.c with
     | none=>rfl
     | some a =>
      rw[hmk]at ho
      obtain⟨w,hw,hwc⟩:=zeX (σ:=S.τ) (w:=⟨4,(n:Int),none,0⟩) rfl j o a ho jw
      rw[h.on j w hw]at hwc;cases hwc
    have hl:mk.1.x.l.length≤1000000:=by have:=tg.g.len;omega
    have w:=h.wf.zoj (k:=mk.2.1) hy hl on
    exact⟨w,h.ao,by show S.σ.t.isSome=true;exact h.t,tg,on,fun a=>(h.ch a).mono (by omega)⟩
theorem XW (h:CI S k)(m:bx ρ S S')(hk:k≤900000)(id when now:Int){a a':Nat}(ha:S.σ.room id=0→¬xi S a)(gx:S.σ.room id=0→¬xi S' a'):∃r r' ρ',S.aH id when now a=some r∧S'.aH id when now a'=some r'∧bx ρ' r.1 r'.1∧r'.2=r.2∧CI r.1 (k+2)∧cg k r.2.2.1 []∧r.1.τ.af.length≤S.τ.af.length+1:=by
 by_cases hr:S.σ.room id=0
 rotate_left
 ·refine⟨(S,0,[],S.σ.room id),(S',0,[],S.σ.room id),ρ,?_,?_,m,rfl,h.mono (by omega),cg.nil k,by simp⟩
  ·unfold CX.aH;rw[if_pos hr]
  ·unfold CX.aH;rw[m.room,if_pos hr]
 obtain⟨i,up,rfl,bK,aI,_,hlen⟩:=xr hr
 unfold CX.aH
 rw[m.room,if_neg (fun h9=>h9 hr),if_neg (fun h9=>h9 hr)]
 simp only[Int.toNat_natCast,m.get,aI,Option.map_some]
 have w1:(rn ρ up).when=up.when:=rfl
 have w2:(rn ρ up).has=up.has:=rfl
 have w3:(rn ρ up).node=up.node:=rfl
 rw[w1,w2,w3]
 obtain⟨W,hW⟩:∃W,W=max (zB when 0) 0:=⟨_,rfl⟩
 rw[←hW]
 by_cases hc:up.has=true∧up.when≤W
 ·rw[if_pos hc,if_pos hc]
  obtain⟨r,r',ρ',e1,e2,e3,e4,e5,e6,e7⟩:=YN h m i ha gx
  exact⟨r,r',ρ',e1,e2,e3,e4,e5.mono (by omega),e7,by rw[e6.af];omega⟩
 rw[if_neg hc,if_neg hc,if_pos h.wf.bM,if_pos (m.wf h.wf).bM,m.len]
 have h1:=h.aG (o:={ One.zero with when:=W,has:=true,own:=true }) aI hlen rfl a
 have m1:=m.aG (ha hr) (gx hr) { One.zero with when:=W,has:=true,own:=true } up.node
 obtain⟨_,e1,_⟩:=h.wf.aG (o:={ One.zero with when:=W,has:=true,own:=true }) aI hlen rfl a
 have Br:(S.aG { One.zero with when:=W,has:=true,own:=true } up.node a).σ.af[i]?=some up:=by rw[e1,List.getElem?_append_left bK];exact aI
 have hy:∃y,(S.aG { One.zero with when:=W,has:=true,own:=true } up.node a).σ.af[S.σ.af.length]?=some y:=⟨_,by rw[e1,List.getElem?_append_right (Nat.le_refl _),Nat.sub_self];rfl⟩
 obtain⟨y,hy⟩:=hy
 obtain⟨r,r',b1,b2,b3,b4,b5,b6,b7,b8⟩:=zcu h1 m1 Br hy
 have b9:r.1.τ.af=S.τ.af:=b6.af
 rw[b1,b2]
 simp only[b4]
 have gq:∃y2,r.1.σ.af[S.σ.af.length]?=some y2:=⟨_,List.getElem?_eq_getElem (by rw[b7,e1];simp)⟩
 obtain⟨y2,gq⟩:=gq
 by_cases hl:0<r.2.length
 ·rw[if_pos hl,if_pos hl]
  exact⟨_,_,_,rfl,rfl,b3,rfl,b5.mono (by omega),b8,by rw[b9];omega⟩
 rw[if_neg hl,if_neg hl]
 by_cases hn:W≤now
 ·rw[if_pos hn,if_pos hn]
  obtain⟨q,q',c1,c2,c3,c4⟩:=b3.az b5.wf gq 2 2
  obtain⟨d1,d2,_,_,d5⟩:=b5.cancel gq (by omega) c1
  rw[c1,c2]
  exact⟨_,_,_,rfl,rfl,c3,by simp only[c4],d1.mono (by omega),⟨d5.l,by simp,d5.w⟩,by rw[d2.af,b9];omega⟩
 rw[if_neg hn,if_neg hn]
 obtain⟨S2,S2',c1,c2,c3,c4,c5⟩:=zjf b5 b3 hk gq W
 rw[c1,c2]
 exact⟨_,_,_,rfl,rfl,c3,rfl,c4,cg.nil k,by rw[b9]at c5;exact c5⟩
theorem CI.take (h:CI S k)(hk:k≤900000){x':Xs}{y:It}(hy:y∈S.τ.x.l)(hx:XG x' (k+1))(hz:∀z∈x'.l,z∈S.τ.x.l∨z.id=y.id):CI ({ S with τ:={ S.τ with x:=x' } }:CX) (k+1):=by
 have tg:=h.tg.take (now:=0) hy hx hz
 have hwf:WF ({ S with τ:={ S.τ with x:=x' } }:CX):=⟨h.wf.tr,h.wf.sz,h.wf.len,h.wf.bS,h.wf.eJ,h.wf.cover,h.wf.live,h.wf.bB,h.wf.bQ,by
  have h1:=hx.len
  show x'.l.length≤1000000
  omega⟩
 exact⟨hwf,h.ao,h.t,tg,h.on,fun a=>(h.ch a).mono (by omega)⟩
theorem zhV (h:CI S k)(m:bx ρ S S'){a:Nat}(ha:xi S a){y:Ch}(hy:cE y (k+1))(hk:k≤900000):bx ρ ({ S with χ:=xd S.χ a y }:CX) ({ S' with χ:=xd S'.χ (ρ a) y }:CX)∧CI ({ S with χ:=xd S.χ a y }:CX) (k+1):=by
 refine⟨⟨m.s,m.t,m.x,fun b hb=>?_,m.i⟩,?_⟩
 ·have hb':xi S b:=hb
  simp only[xd]
  by_cases e:b=a
  ·subst e;simp
  ·have:ρ b≠ρ a:=fun h9=>e (m.i b a hb' ha h9)
   rw[if_neg this,if_neg e];exact m.c b hb'
 ·have hg:∀b,cE (xd S.χ a y b) (k+1):=fun b=>by
   unfold xd
   split
   ·exact hy
   ·exact (h.ch b).mono (by omega)
  have hwf:WF ({ S with χ:=xd S.χ a y }:CX):=⟨h.wf.tr,h.wf.sz,h.wf.len,h.wf.bS,h.wf.eJ,h.wf.cover,h.wf.live,fun x hx b hb=>by
   have:=hg b
   have h1:=this.recvs
   have h2:=this.aF
   show ((xd S.χ a y) b).recvs.length+((xd S.χ a y) b).aF.length≤1000000
   rw[h2];simp;omega,h.wf.bQ,h.wf.Fq⟩
  exact⟨hwf,h.ao,h.t,h.tg.mono (by omega),h.on,hg⟩
end
end
section
theorem zco {ns:List Nd}(ht:bL ns):∀(f k p i:Nat),ns.length<k+f→p∈pre ns f k→i∈zK ns (p:Int)→i∈pre ns f k
 | 0,k,p,i,_,h,_=>by simp[pre]at h
 | f+1,k,p,i,hf,h,hi=>by
  have hpi:=yY ht hi
  have h':=h
  simp only[pre,List.mem_cons,List.mem_flatMap]at h ⊢
  right
  rcases h with rfl | ⟨j,hj,hp⟩
  ·refine⟨i,hi,?_⟩
   cases f with
   | zero=>omega
   | succ f=>simp[pre]
  ·have:=yY ht hj
   exact⟨j,hj,zco ht f j p i (by omega) hp hi⟩
end
section
section
variable {S S':CX}
theorem xx {S S':CX}(h:S'.σ.names=S.σ.names){a:Nat}(u:xi S' a):xi S a:=by
 obtain⟨x,hx,hc⟩:=u
 have h1:(x.c,x.node)∈S'.σ.names:=List.mem_map.2 ⟨x,hx,rfl⟩
 rw[h]at h1
 obtain⟨y,hy,he⟩:=List.mem_map.1 h1
 simp only[Prod.mk.injEq]at he
 exact⟨y,hy,by rw[he.1];exact hc⟩
theorem vk (wf:WF S){i:Nat}{x:One}(hx:S.σ.af[i]?=some x){err cause:Int}(dS:err≠0){r:Za}(hr:S.az 200 i err cause=some r):r.1.σ.names=S.σ.names:=by
 obtain⟨k,hk,_,_⟩:=wf.bS i x hx
 by_cases he:x.free=true∨x.err≠0
 ·rw[yA hx he 199]at hr
  cases hr;rfl
 ·simp only[not_or,Bool.not_eq_true,ne_eq,Decidable.not_not]at he
  rw[wf.az hx hk he.1 he.2]at hr
  simp only[Option.some.injEq]at hr
  obtain⟨_,_,_,_,_,h6,_⟩:=wf.walk hx hk he.1 he.2 dS hr
  apply List.ext_getElem?
  intro j
  simp only[Cs.names,List.getElem?_map,h6]
  cases S.σ.af[j]? with
  | none=>rfl
  | some y=>simp only[Option.map_some];split<;>rfl
def Hs (S S1:CX)(a:Nat):Prop:=∀x,xi S1 x→xi S x∨x=a
theorem Hs.same {S S1:CX}(h:S1.σ.names=S.σ.names)(a:Nat):Hs S S1 a:=fun x hx=>.inl (xx h hx)
theorem Hs.aG (S:CX)(o:One)(p:Int)(a:Nat):Hs S (S.aG o p a) a:=by
 rintro x ⟨z,hz,hzx⟩
 have LW:z∈S.σ.af++[{ ({ o with c:=some a }:One)with node:=(zP S.σ.tree p (!o.free)).2.1,timer:=-1 }]:=hz
 rcases List.mem_append.1 LW with h1 | h1
 ·exact .inl ⟨z,h1,hzx⟩
 ·simp at h1;subst h1;simp at hzx;exact .inr hzx.symm
theorem Hs.then {S S1 S2:CX}{a:Nat}(h:Hs S S1 a)(k:S2.σ.names=S1.σ.names):Hs S S2 a:=fun x hx=>h x (xx k hx)
theorem ZW (wf:WF S){i n:Nat}{up y:One}(aI:S.σ.af[i]?=some up)(hy:S.σ.af[n]?=some y){r:CX×List cx}(hr:S.bw n i=some r):r.1.σ.names=S.σ.names∧WF r.1∧r.1.σ.af.length=S.σ.af.length:=by
 unfold CX.bw at hr
 rw[if_pos (by omega)]at hr
 simp only[Int.toNat_natCast,aI]at hr
 by_cases h0:up.err=0
 ·simp only[h0,if_true,Option.some.injEq]at hr
  subst hr;exact⟨rfl,wf,rfl⟩
 ·simp only[h0,if_false]at hr
  cases e:S.az 200 n up.err up.cause with
  | none=>rw[e]at hr;cases hr
  | some q =>
   rw[e]at hr
   simp only[Option.some.injEq]at hr
   subst hr
   have h1:=vk wf hy h0 e
   have:q.1.σ.af.length=S.σ.af.length:=by simpa[Cs.names]using congrArg List.length h1
   refine⟨h1,?_,this⟩
   obtain⟨k,hk,_,_⟩:=wf.bS n y hy
   by_cases he:y.free=true∨y.err≠0
   ·rw[yA hy he 199]at e
    cases e;exact wf
   ·simp only[not_or,Bool.not_eq_true,ne_eq,Decidable.not_not]at he
    rw[wf.az hy hk he.1 he.2]at e
    simp only[Option.some.injEq]at e
    exact (wf.walk hy hk he.1 he.2 h0 e).1
theorem ZV (wf:WF S){id:Int}{a:Nat}{r:Fa}(hr:S.aL id a=some r):Hs S r.1 a∧(S.σ.room id≠0→r.1=S):=by
 unfold CX.aL at hr
 by_cases h0:S.σ.room id=0
 ·obtain⟨i,up,rfl,bK,aI,_,hlen⟩:=xr h0
  simp only[h0,ne_eq,not_true_eq_false,if_false,wf.bM,if_true,Int.toNat_natCast,aI]at hr
  obtain⟨w,e1,_⟩:=wf.aG (o:={ One.zero with when:=up.when,has:=up.has }) aI hlen rfl a
  cases e:(S.aG { One.zero with when:=up.when,has:=up.has } up.node a).bw S.σ.af.length i with
  | none=>rw[e]at hr;cases hr
  | some q =>
   rw[e]at hr
   simp only[Option.some.injEq]at hr
   subst hr
   have:=ZW w (i:=i) (n:=S.σ.af.length) (by rw[e1,List.getElem?_append_left bK];exact aI) (by rw[e1,List.getElem?_append_right (Nat.le_refl _),Nat.sub_self];rfl) e
   exact⟨(Hs.aG S _ _ a).then this.1,fun h9=>absurd h0 h9⟩
 ·rw[if_pos h0]at hr
  simp only[Option.some.injEq]at hr
  subst hr
  exact⟨Hs.same rfl a,fun _=>rfl⟩
theorem XZ (wf:WF S){id:Int}{r:CX×Int×Int}(hr:S.bF id=some r)(a:Nat):∀x,xi r.1 x→xi S x:=by
 unfold CX.bF at hr
 by_cases h0:S.σ.room id=0
 ·obtain⟨i,up,rfl,bK,aI,_,hlen⟩:=xr h0
  simp only[h0,ne_eq,not_true_eq_false,if_false,wf.bM,if_true,Int.toNat_natCast,aI,Option.some.injEq]at hr
  subst hr
  rintro x ⟨z,hz,hzx⟩
  have LW:z∈S.σ.af++[{ ({ One.zero with free:=true }:One)with node:=(zP S.σ.tree up.node (!true)).2.1,timer:=-1 }]:=hz
  rcases List.mem_append.1 LW with h1 | h1
  ·exact⟨z,h1,hzx⟩
  ·simp at h1;subst h1;cases hzx
 ·rw[if_pos h0]at hr
  simp only[Option.some.injEq]at hr
  subst hr
  exact fun x h=>h
theorem Ys (wf:WF S){id cause:Int}{r:CX×List cx×List (Int×Int)×Int}(hr:S.bC id cause=some r):r.1.σ.names=S.σ.names:=by
 unfold CX.bC at hr
 cases hh:S.σ.has id with
 | false=>rw[if_pos hh]at hr;simp only[Option.some.injEq]at hr;subst hr;rfl
 | true =>
  obtain⟨i,x,rfl,hx,_⟩:=xz hh
  rw[if_neg (by rw[hh];simp)]at hr
  simp only[Int.toNat_natCast,hx]at hr
  cases hf:x.free with
  | true=>rw[if_pos hf]at hr;simp only[Option.some.injEq]at hr;subst hr;rfl
  | false =>
   rw[if_neg (by rw[hf];simp)]at hr
   cases e:S.az 200 i 1 (if cause<1 then 1 else cause)with
   | none=>rw[e]at hr;cases hr
   | some q=>rw[e]at hr;simp only[Option.some.injEq]at hr;subst hr;exact vk wf hx (by omega) e
theorem Y6 (wf:WF S){id:Int}{r:CX×List cx×List (Int×Int)×Int}(hr:S.bO id=some r):r.1.σ.names=S.σ.names:=by
 unfold CX.bO at hr
 cases hh:S.σ.has id with
 | false=>rw[if_pos hh]at hr;simp only[Option.some.injEq]at hr;subst hr;rfl
 | true =>
  obtain⟨i,x,rfl,hx,_⟩:=xz hh
  rw[if_neg (by rw[hh];simp)]at hr
  simp only[Int.toNat_natCast,hx]at hr
  cases hf:x.own with
  | false=>rw[if_pos hf]at hr;simp only[Option.some.injEq]at hr;subst hr;rfl
  | true =>
   rw[if_neg (by rw[hf];simp)]at hr
   cases e:S.az 200 i 2 2 with
   | none=>rw[e]at hr;cases hr
   | some q=>rw[e]at hr;simp only[Option.some.injEq]at hr;subst hr;exact vk wf hx (by omega) e
theorem Yr (wf:WF S){j:Int}{r:CX×Bool×Int}(hr:S.bg j=some r):r.1.σ.names=S.σ.names:=by
 by_cases hj:0≤j∧j<(S.σ.ai.length:Int)
 ·obtain⟨i,rfl⟩:=Int.eq_ofNat_of_zero_le hj.1
  have hx:S.σ.ai[i]?=some S.σ.ai[i]:=List.getElem?_eq_getElem (by omega)
  generalize S.σ.ai[i]=x at hx
  rw[(wf.ck hx).2.1]at hr
  simp only[Option.some.injEq]at hr
  subst hr;rfl
 ·unfold CX.bg at hr
  rw[if_neg hj]at hr
  simp only[Option.some.injEq]at hr
  subst hr;rfl
theorem X5 (wf:WF S){id prog:Int}{r:CX×Int×List (Int×Int)×Int}(hr:S.bI id prog=some r):r.1.σ.names=S.σ.names:=by
 unfold CX.bI at hr
 cases hh:S.σ.has id with
 | false=>rw[if_pos hh]at hr;simp only[Option.some.injEq]at hr;subst hr;rfl
 | true =>
  rw[if_neg (by rw[hh];simp)]at hr
  by_cases hp:prog<0
  ·rw[if_pos hp]at hr;simp only[Option.some.injEq]at hr;subst hr;rfl
  rw[if_neg hp]at hr
  by_cases hl:64≤S.σ.ai.length
  ·rw[if_pos hl]at hr;simp only[Option.some.injEq]at hr;subst hr;rfl
  rw[if_neg hl,if_pos wf.tr.Em]at hr
  obtain⟨i,up,rfl,aI,_⟩:=xz hh
  simp only[Int.toNat_natCast,aI]at hr
  by_cases h0:up.err=0
  ·simp only[h0,ne_eq,not_true_eq_false,if_false,Option.some.injEq]at hr
   subst hr;rfl
  ·simp only[h0,ne_eq,not_false_eq_true,if_true]at hr
   obtain⟨w1,a1,_,_⟩:=wf.cm aI (by omega) prog
   have hx:(S.σ.cm up prog).ai[S.σ.ai.length]?=some ⟨(S.σ.tree.length:Int),prog,false⟩:=by rw[a1];simp
   obtain⟨_,_,e1⟩:=w1.ck (S:=({ S with σ:=S.σ.cm up prog }:CX)) hx
   simp only at e1
   rw[e1]at hr
   simp only[Option.some.injEq]at hr
   subst hr;rfl
theorem zeT {n:Nat}{W:Int}{S2:CX}(h:S.fe n W=some S2):S2.σ.names=S.σ.names:=by
 unfold CX.fe at h
 split at h
 ·cases h;rfl
 ·split at h
  ·split at h
   ·split at h
    ·cases h
    ·rename_i o ho
     cases h
     exact vh (S:=S) ho rfl rfl
   ·cases h;rfl
  ·cases h
theorem Y5 (wf:WF S){id when now:Int}{a:Nat}{r:Fa}(hr:S.aH id when now a=some r):Hs S r.1 a∧(S.σ.room id≠0→r.1=S):=by
 by_cases h0:S.σ.room id=0
 rotate_left
 ·unfold CX.aH at hr
  rw[if_pos h0]at hr
  simp only[Option.some.injEq]at hr
  subst hr
  exact⟨Hs.same rfl a,fun _=>rfl⟩
 refine⟨?_,fun h9=>absurd h0 h9⟩
 obtain⟨i,up,rfl,bK,aI,_,hlen⟩:=xr h0
 unfold CX.aH at hr
 rw[if_neg (fun h9=>h9 h0)]at hr
 simp only[Int.toNat_natCast,aI]at hr
 obtain⟨W,hW⟩:∃W,W=max (zB when 0) 0:=⟨_,rfl⟩
 rw[←hW]at hr
 by_cases hc:up.has=true∧up.when≤W
 ·rw[if_pos hc]at hr
  exact (ZV wf hr).1
 rw[if_neg hc,if_pos wf.bM]at hr
 obtain⟨w,e1,_⟩:=wf.aG (o:={ One.zero with when:=W,has:=true,own:=true }) aI hlen rfl a
 cases e:(S.aG { One.zero with when:=W,has:=true,own:=true } up.node a).bw S.σ.af.length i with
 | none=>rw[e]at hr;cases hr
 | some q =>
  rw[e]at hr
  simp only at hr
  obtain⟨b1,b2,b3⟩:=ZW w (i:=i) (n:=S.σ.af.length) (by rw[e1,List.getElem?_append_left bK];exact aI) (by rw[e1,List.getElem?_append_right (Nat.le_refl _),Nat.sub_self];rfl) e
  have hN:=(Hs.aG S { One.zero with when:=W,has:=true,own:=true } up.node a).then b1
  split at hr
  ·simp only[Option.some.injEq]at hr
   subst hr;exact hN
  ·split at hr
   ·have gq:∃y2,q.1.σ.af[S.σ.af.length]?=some y2:=⟨_,List.getElem?_eq_getElem (by rw[b3,e1];simp)⟩
    obtain⟨y2,gq⟩:=gq
    cases e3:q.1.az 200 S.σ.af.length 2 2 with
    | none=>rw[e3]at hr;cases hr
    | some q2 =>
     rw[e3]at hr
     simp only[Option.some.injEq]at hr
     subst hr
     exact hN.then (vk b2 gq (by omega) e3)
   ·cases e3:q.1.fe S.σ.af.length W with
    | none=>rw[e3]at hr;cases hr
    | some q2 =>
     rw[e3]at hr
     simp only[Option.some.injEq]at hr
     subst hr
     exact hN.then (zeT e3)
end
end
section
section
variable {S S':CX}
theorem Xr (wf:WF S){i:Nat}{x:One}(hx:S.σ.af[i]?=some x){err cause:Int}(dS:err≠0){r:Za}(hr:S.az 200 i err cause=some r):r.1.σ.t=S.σ.t:=by
 obtain⟨k,hk,_,_⟩:=wf.bS i x hx
 by_cases he:x.free=true∨x.err≠0
 ·rw[yA hx he 199]at hr
  cases hr;rfl
 ·simp only[not_or,Bool.not_eq_true,ne_eq,Decidable.not_not]at he
  rw[wf.az hx hk he.1 he.2]at hr
  simp only[Option.some.injEq]at hr
  exact (wf.walk hx hk he.1 he.2 dS hr).2.2.1
theorem zei (wf:WF S){i n:Nat}{up y:One}(aI:S.σ.af[i]?=some up)(hy:S.σ.af[n]?=some y){r:CX×List cx}(hr:S.bw n i=some r):r.1.σ.t=S.σ.t:=by
 unfold CX.bw at hr
 rw[if_pos (by omega)]at hr
 simp only[Int.toNat_natCast,aI]at hr
 by_cases h0:up.err=0
 ·simp only[h0,if_true,Option.some.injEq]at hr
  subst hr;rfl
 ·simp only[h0,if_false]at hr
  cases e:S.az 200 n up.err up.cause with
  | none=>rw[e]at hr;cases hr
  | some q =>
   rw[e]at hr
   simp only[Option.some.injEq]at hr
   subst hr
   exact Xr wf hy h0 e
theorem UY (wf:WF S){id:Int}{a:Nat}{r:Fa}(hr:S.aL id a=some r):r.1.σ.t=S.σ.t:=by
 unfold CX.aL at hr
 by_cases h0:S.σ.room id=0
 ·obtain⟨i,up,rfl,bK,aI,_,hlen⟩:=xr h0
  simp only[h0,ne_eq,not_true_eq_false,if_false,wf.bM,if_true,Int.toNat_natCast,aI]at hr
  obtain⟨w,e1,_⟩:=wf.aG (o:={ One.zero with when:=up.when,has:=up.has }) aI hlen rfl a
  cases e:(S.aG { One.zero with when:=up.when,has:=up.has } up.node a).bw S.σ.af.length i with
  | none=>rw[e]at hr;cases hr
  | some q =>
   rw[e]at hr
   simp only[Option.some.injEq]at hr
   subst hr
   exact zei w (i:=i) (n:=S.σ.af.length) (by rw[e1,List.getElem?_append_left bK];exact aI) (by rw[e1,List.getElem?_append_right (Nat.le_refl _),Nat.sub_self];rfl) e
 ·rw[if_pos h0]at hr
  simp only[Option.some.injEq]at hr
  subst hr;rfl
theorem zef (wf:WF S){id:Int}{r:CX×Int×Int}(hr:S.bF id=some r):r.1.σ.t=S.σ.t:=by
 unfold CX.bF at hr
 by_cases h0:S.σ.room id=0
 ·obtain⟨i,up,rfl,bK,aI,_,hlen⟩:=xr h0
  simp only[h0,ne_eq,not_true_eq_false,if_false,wf.bM,if_true,Int.toNat_natCast,aI,Option.some.injEq]at hr
  subst hr;rfl
 ·rw[if_pos h0]at hr
  simp only[Option.some.injEq]at hr
  subst hr;rfl
theorem zeh (wf:WF S){id cause:Int}{r:CX×List cx×List (Int×Int)×Int}(hr:S.bC id cause=some r):r.1.σ.t=S.σ.t:=by
 unfold CX.bC at hr
 cases hh:S.σ.has id with
 | false=>rw[if_pos hh]at hr;simp only[Option.some.injEq]at hr;subst hr;rfl
 | true =>
  obtain⟨i,x,rfl,hx,_⟩:=xz hh
  rw[if_neg (by rw[hh];simp)]at hr
  simp only[Int.toNat_natCast,hx]at hr
  cases hf:x.free with
  | true=>rw[if_pos hf]at hr;simp only[Option.some.injEq]at hr;subst hr;rfl
  | false =>
   rw[if_neg (by rw[hf];simp)]at hr
   cases e:S.az 200 i 1 (if cause<1 then 1 else cause)with
   | none=>rw[e]at hr;cases hr
   | some q=>rw[e]at hr;simp only[Option.some.injEq]at hr;subst hr;exact Xr wf hx (by omega) e
theorem zgb (wf:WF S){id:Int}{r:CX×List cx×List (Int×Int)×Int}(hr:S.bO id=some r):r.1.σ.t=S.σ.t:=by
 unfold CX.bO at hr
 cases hh:S.σ.has id with
 | false=>rw[if_pos hh]at hr;simp only[Option.some.injEq]at hr;subst hr;rfl
 | true =>
  obtain⟨i,x,rfl,hx,_⟩:=xz hh
  rw[if_neg (by rw[hh];simp)]at hr
  simp only[Int.toNat_natCast,hx]at hr
  cases hf:x.own with
  | false=>rw[if_pos hf]at hr;simp only[Option.some.injEq]at hr;subst hr;rfl
  | true =>
   rw[if_neg (by rw[hf];simp)]at hr
   cases e:S.az 200 i 2 2 with
   | none=>rw[e]at hr;cases hr
   | some q=>rw[e]at hr;simp only[Option.some.injEq]at hr;subst hr;exact Xr wf hx (by omega) e
theorem zeg (wf:WF S){j:Int}{r:CX×Bool×Int}(hr:S.bg j=some r):r.1.σ.t=S.σ.t:=by
 by_cases hj:0≤j∧j<(S.σ.ai.length:Int)
 ·obtain⟨i,rfl⟩:=Int.eq_ofNat_of_zero_le hj.1
  have hx:S.σ.ai[i]?=some S.σ.ai[i]:=List.getElem?_eq_getElem (by omega)
  generalize S.σ.ai[i]=x at hx
  rw[(wf.ck hx).2.1]at hr
  simp only[Option.some.injEq]at hr
  subst hr;rfl
 ·unfold CX.bg at hr
  rw[if_neg hj]at hr
  simp only[Option.some.injEq]at hr
  subst hr;rfl
theorem zhz (wf:WF S){id prog:Int}{r:CX×Int×List (Int×Int)×Int}(hr:S.bI id prog=some r):r.1.σ.t=S.σ.t:=by
 unfold CX.bI at hr
 cases hh:S.σ.has id with
 | false=>rw[if_pos hh]at hr;simp only[Option.some.injEq]at hr;subst hr;rfl
 | true =>
  rw[if_neg (by rw[hh];simp)]at hr
  by_cases hp:prog<0
  ·rw[if_pos hp]at hr;simp only[Option.some.injEq]at hr;subst hr;rfl
  rw[if_neg hp]at hr
  by_cases hl:64≤S.σ.ai.length
  ·rw[if_pos hl]at hr;simp only[Option.some.injEq]at hr;subst hr;rfl
  rw[if_neg hl,if_pos wf.tr.Em]at hr
  obtain⟨i,up,rfl,aI,_⟩:=xz hh
  simp only[Int.toNat_natCast,aI]at hr
  by_cases h0:up.err=0
  ·simp only[h0,ne_eq,not_true_eq_false,if_false,Option.some.injEq]at hr
   subst hr;rfl
  ·simp only[h0,ne_eq,not_false_eq_true,if_true]at hr
   obtain⟨w1,a1,_,_⟩:=wf.cm aI (by omega) prog
   have hx:(S.σ.cm up prog).ai[S.σ.ai.length]?=some ⟨(S.σ.tree.length:Int),prog,false⟩:=by rw[a1];simp
   obtain⟨_,_,e1⟩:=w1.ck (S:=({ S with σ:=S.σ.cm up prog }:CX)) hx
   simp only at e1
   rw[e1]at hr
   simp only[Option.some.injEq]at hr
   subst hr;rfl
theorem zj5 {n:Nat}{W:Int}{S2:CX}(h:S.fe n W=some S2):S2.σ.t=S.σ.t:=by
 unfold CX.fe at h
 split at h
 ·cases h;rfl
 ·split at h
  ·split at h
   ·split at h
    ·cases h
    ·cases h;rfl
   ·cases h;rfl
  ·cases h
theorem zc7 (wf:WF S){id when now:Int}{a:Nat}{r:Fa}(hr:S.aH id when now a=some r):r.1.σ.t=S.σ.t:=by
 by_cases h0:S.σ.room id=0
 rotate_left
 ·unfold CX.aH at hr
  rw[if_pos h0]at hr
  simp only[Option.some.injEq]at hr
  subst hr
  rfl
 obtain⟨i,up,rfl,bK,aI,_,hlen⟩:=xr h0
 unfold CX.aH at hr
 rw[if_neg (fun h9=>h9 h0)]at hr
 simp only[Int.toNat_natCast,aI]at hr
 obtain⟨W,hW⟩:∃W,W=max (zB when 0) 0:=⟨_,rfl⟩
 rw[←hW]at hr
 by_cases hc:up.has=true∧up.when≤W
 ·rw[if_pos hc]at hr
  exact UY wf hr
 rw[if_neg hc,if_pos wf.bM]at hr
 obtain⟨w,e1,_⟩:=wf.aG (o:={ One.zero with when:=W,has:=true,own:=true }) aI hlen rfl a
 cases e:(S.aG { One.zero with when:=W,has:=true,own:=true } up.node a).bw S.σ.af.length i with
 | none=>rw[e]at hr;cases hr
 | some q =>
  rw[e]at hr
  simp only at hr
  obtain⟨b1,b2,b3⟩:=ZW w (i:=i) (n:=S.σ.af.length) (by rw[e1,List.getElem?_append_left bK];exact aI) (by rw[e1,List.getElem?_append_right (Nat.le_refl _),Nat.sub_self];rfl) e
  have hN:q.1.σ.t=S.σ.t:=zei w (i:=i) (n:=S.σ.af.length) (by rw[e1,List.getElem?_append_left bK];exact aI) (by rw[e1,List.getElem?_append_right (Nat.le_refl _),Nat.sub_self];rfl) e
  split at hr
  ·simp only[Option.some.injEq]at hr
   subst hr;exact hN
  ·split at hr
   ·have gq:∃y2,q.1.σ.af[S.σ.af.length]?=some y2:=⟨_,List.getElem?_eq_getElem (by rw[b3,e1];simp)⟩
    obtain⟨y2,gq⟩:=gq
    cases e3:q.1.az 200 S.σ.af.length 2 2 with
    | none=>rw[e3]at hr;cases hr
    | some q2 =>
     rw[e3]at hr
     simp only[Option.some.injEq]at hr
     subst hr
     exact (Xr b2 gq (by omega) e3).trans hN
   ·cases e3:q.1.fe S.σ.af.length W with
    | none=>rw[e3]at hr;cases hr
    | some q2 =>
     rw[e3]at hr
     simp only[Option.some.injEq]at hr
     subst hr
     exact (zj5 e3).trans hN
end
end
section
structure SV (S:CX)(ps:List Int)(ls:List Bool)(now:Int)(ex:Nat→Prop):Prop where
 l1:ps.length=S.σ.af.length
 l2:ls.length=S.σ.af.length
 lk:∀(i:Nat) (x:One),S.σ.af[i]?=some x→ls[i]?=some (!x.free)
 pr:∀(i:Nat) (p:Int),ps[i]?=some p→(i=0∧p=-1)∨(0≤p∧p<i)
 root:∀x:One,S.σ.af[0]?=some x→x.free=true
 up:∀(i:Nat) (x:One),S.σ.af[i]?=some x→x.free=false→∃(p:Nat) (y:One) (n:Nd),ps[i]?=some (p:Int)∧S.σ.af[p]?=some y∧S.σ.tree[x.node.toNat]?=some n∧n.parent=y.node
 cd:∀(i:Nat) (x:One),S.σ.af[i]?=some x→(x.err=0∧x.cause=0)∨((x.err=1∨x.err=2)∧1≤x.cause)
 hg:∀(i p:Nat) (x y:One),S.σ.af[i]?=some x→x.free=false→ps[i]?=some (p:Int)→S.σ.af[p]?=some y→(ex i∨y.err=0∨x.err≠0)∧(y.has=true→x.has=true∧x.when≤y.when)
 ov:∀(i:Nat) (x:One),S.σ.af[i]?=some x→x.err=2→(x.has=true∧x.when≤now)∨(x.free=false∧∃(p:Nat) (y:One),ps[i]?=some (p:Int)∧S.σ.af[p]?=some y∧y.err=2)
 ti:∀z∈S.τ.x.l,∃(k j:Nat) (o:On) (x:One),z.id=(k:Int)∧S.τ.af[k]?=some o∧o.data=(j:Int)∧S.σ.af[j]?=some x∧x.has=true∧x.when≤z.w
 nw:0≤now∧now≤4611686018427387904
def ZL:Nat→Prop:=fun _=>False
theorem SV.time {S:CX}{ps:List Int}{ls:List Bool}{now cy:Int}{ex:Nat→Prop}(h:SV S ps ls now ex)(h1:now≤cy)(h2:cy≤4611686018427387904):SV S ps ls cy ex :=
 ⟨h.l1,h.l2,h.lk,h.pr,h.root,h.up,h.cd,h.hg,fun i x hx he=>(h.ov i x hx he).imp (fun⟨a,b⟩=>⟨a,by omega⟩) id,h.ti,⟨by have:=h.nw;omega,h2⟩⟩
theorem SV.same {S S2:CX}{ps:List Int}{ls:List Bool}{now:Int}{ex:Nat→Prop}(h:SV S ps ls now ex)(ho:S2.σ.af=S.σ.af)
  (ht:∀(k:Nat) (n:Nd),S.σ.tree[k]?=some n→∃m:Nd,S2.σ.tree[k]?=some m∧m.parent=n.parent) (IX:S2.τ=S.τ):SV S2 ps ls now ex:=by
 refine⟨by rw[ho];exact h.l1,by rw[ho];exact h.l2,by rw[ho];exact h.lk,h.pr,by rw[ho];exact h.root,?_,by rw[ho];exact h.cd,by rw[ho];exact h.hg,by rw[ho];exact h.ov,by rw[ho,IX];exact h.ti,h.nw⟩
 intro i x hx hf
 rw[ho]at hx
 obtain⟨p,y,n,h1,h2,h3,h4⟩:=h.up i x hx hf
 obtain⟨m,m1,m2⟩:=ht _ _ h3
 exact⟨p,y,m,h1,by rw[ho];exact h2,m1,by rw[m2];exact h4⟩
theorem WF.My {S:CX}(h:WF S){i j:Nat}{x y:One}(hx:S.σ.af[i]?=some x)(hy:S.σ.af[j]?=some y)(he:x.node=y.node):i=j:=by
 obtain⟨k,h1,_,h3⟩:=h.bS i x hx
 obtain⟨q,g1,_,g3⟩:=h.bS j y hy
 have:k=q:=by omega
 subst this
 rw[h3]at g3
 simp at g3;omega
theorem SV.cancel {S:CX}{k:Nat}(ci:CI S k){ps:List Int}{ls:List Bool}{now:Int}{ex:Nat→Prop}(h:SV S ps ls now ex){i:Nat}{x:One}(hx:S.σ.af[i]?=some x){err cause:Int}(he:err=1∨err=2)(hc:1≤cause)
  (ho:err=2→(x.has=true∧x.when≤now)∨(x.free=false∧∃(p:Nat) (y:One),ps[i]?=some (p:Int)∧S.σ.af[p]?=some y∧y.err=2)) (hex:∀j,ex j→j=i) {r:Za} (hr:S.az 200 i err cause=some r):SV r.1 ps ls now ZL∧∀(a:Nat) (v:One),S.σ.af[a]?=some v→∃u,r.1.σ.af[a]?=some u∧u.has=v.has∧u.when=v.when:=by
 have wf:=ci.wf
 have dS:err≠0:=by omega
 obtain⟨_,less,_⟩:=ci.cancel hx dS hr
 by_cases hd:x.free=true∨x.err≠0
 ·rw[yA hx hd 199]at hr
  cases hr
  refine⟨⟨h.l1,h.l2,h.lk,h.pr,h.root,h.up,h.cd,fun a p u v h1 h2 h3 h4=>⟨?_,(h.hg a p u v h1 h2 h3 h4).2⟩,h.ov,h.ti,h.nw⟩,fun a v hv=>⟨v,hv,rfl,rfl⟩⟩
  right
  rcases (h.hg a p u v h1 h2 h3 h4).1 with h9 | h9
  ·have:=hex a h9
   subst this
   rw[hx]at h1;cases h1
   rcases hd with hd | hd
   ·rw[hd]at h2;cases h2
   ·exact .inr hd
  ·exact h9
 simp only[not_or,Bool.not_eq_true,ne_eq,Decidable.not_not]at hd
 obtain⟨q,hq,hql,_⟩:=wf.bS i x hx
 rw[wf.az hx hq hd.1 hd.2]at hr
 simp only[Option.some.injEq]at hr
 obtain⟨w1,w2,w3,w4,w5,w6,w7⟩:=wf.walk hx hq hd.1 hd.2 dS hr
 have live:=wf.Bn hx hq hd.1 hd.2 200
 obtain⟨P,hP⟩:∃P,P=pre S.σ.tree 200 q:=⟨_,rfl⟩
 rw[←hP]at w5 w6 live
 have m6:S.σ.tree.length≤128:=by have:=wf.len;have:=wf.sz;omega
 have down:∀(a b:Nat),a∈P→b∈zK S.σ.tree (a:Int)→b∈P:=fun a b h1 h2=>by rw[hP]at h1 ⊢;exact zco wf.tr 200 q a b (by omega) h1 h2
 have inP:∀(a:Nat) (u:One),S.σ.af[a]?=some u→(nc P u.node=true↔u.node.toNat∈P):=fun a u hu=>by
  obtain⟨b,hb,_⟩:=wf.bS a u hu
  rw[zbn hb,hb];simp
 have qP:q∈P:=by rw[hP];exact List.mem_cons_self
 -- who is hit was not done
 have So:∀(a:Nat) (u:One),S.σ.af[a]?=some u→nc P u.node=true→u.free=false∧u.err=0:=fun a u hu hin=>by
  obtain⟨b,hb,_,hb3⟩:=wf.bS a u hu
  have hbP:b∈P:=by have:=(inP a u hu).1 hin;rw[hb]at this;simpa using this
  rcases live b hbP with⟨a2,u2,e1,e2,e3,e4,e5,_⟩ | ⟨a2,u2,e1,_⟩
  ·rw[hb3]at e1
   have:a=a2:=by simp at e1;omega
   subst this
   rw[hu]at e2;cases e2
   exact⟨e4,e5⟩
  ·rw[hb3]at e1;simp at e1;omega
 obtain⟨f,hf⟩:∃f:One→One,f=fun x=>if nc P x.node=true then { x with err:=err,cause:=cause }else x:=⟨_,rfl⟩
 have w6':∀w:Nat,r.1.σ.af[w]?=(S.σ.af[w]?).map f:=fun w=>by rw[hf];exact w6 w
 have back:∀(a:Nat) (u:One),r.1.σ.af[a]?=some u→∃v,S.σ.af[a]?=some v∧u=f v:=fun a u hu=>by
  rw[w6' a]at hu
  cases e:S.σ.af[a]? with
  | none=>rw[e]at hu;cases hu
  | some v=>rw[e]at hu;simp at hu;exact⟨v,rfl,hu.symm⟩
 have fwd:∀(a:Nat) (v:One),S.σ.af[a]?=some v→r.1.σ.af[a]?=some (f v):=fun a v hv=>by rw[w6' a,hv];rfl
 have f1:∀v:One,(f v).free=v.free∧(f v).has=v.has∧(f v).when=v.when∧(f v).node=v.node:=fun v=>by rw[hf];simp only[];split<;>exact⟨rfl,rfl,rfl,rfl⟩
 have f2:∀v:One,nc P v.node=true→(f v).err=err∧(f v).cause=cause:=fun v hv=>by rw[hf];simp only[];rw[if_pos hv];exact⟨rfl,rfl⟩
 have f3:∀v:One,¬nc P v.node=true→f v=v:=fun v hv=>by rw[hf];simp only[];rw[if_neg hv]
 have ll:r.1.σ.af.length=S.σ.af.length:=by
  rcases Nat.lt_trichotomy r.1.σ.af.length S.σ.af.length with h9 | h9 | h9
  ·have:=w6' r.1.σ.af.length
   rw[List.getElem?_eq_none (Nat.le_refl _),List.getElem?_eq_getElem h9]at this;cases this
  ·exact h9
  ·have:=w6' S.σ.af.length
   rw[List.getElem?_eq_getElem h9,List.getElem?_eq_none (Nat.le_refl _)]at this;cases this
 refine⟨⟨by rw[ll];exact h.l1,by rw[ll];exact h.l2,?_,h.pr,?_,?_,?_,?_,?_,?_,h.nw⟩,fun a v hv=>⟨f v,fwd a v hv,(f1 v).2.1,(f1 v).2.2.1⟩⟩
 ·intro a u hu
  obtain⟨v,hv,rfl⟩:=back a u hu
  rw[(f1 v).1];exact h.lk a v hv
 ·intro u hu
  obtain⟨v,hv,rfl⟩:=back 0 u hu
  rw[(f1 v).1];exact h.root v hv
 ·intro a u hu hfr
  obtain⟨v,hv,rfl⟩:=back a u hu
  rw[(f1 v).1]at hfr
  obtain⟨p,y,n,g1,g2,g3,g4⟩:=h.up a v hv hfr
  refine⟨p,f y,{ n with linked:=n.linked&&!decide (v.node.toNat∈P),kids:=n.kids.filter fun x=>!decide (x.toNat∈P) },g1,fwd p y g2,?_,?_⟩
  ·rw[w5,yU,(f1 v).2.2.2,g3];rfl
  ·rw[(f1 y).2.2.2];exact g4
 ·intro a u hu
  obtain⟨v,hv,rfl⟩:=back a u hu
  by_cases hin:nc P v.node=true
  ·right
   rw[(f2 v hin).1,(f2 v hin).2];exact⟨he,hc⟩
  ·rw[f3 v hin];exact h.cd a v hv
 ·intro a p u y hu hfr hp hy
  obtain⟨v,hv,rfl⟩:=back a u hu
  obtain⟨z,hz,rfl⟩:=back p y hy
  rw[(f1 v).1]at hfr
  obtain⟨g1,g2⟩:=h.hg a p v z hv hfr hp hz
  refine⟨.inr ?_,by rw[(f1 v).2.1,(f1 v).2.2.1,(f1 z).2.1,(f1 z).2.2.1];exact g2⟩
  by_cases hin:nc P v.node=true
  ·right;rw[(f2 v hin).1];exact dS
  ·rw[f3 v hin]
   by_cases hiz:nc P z.node=true
   ·right
    intro h0
    apply hin
    obtain⟨p',z',n,e1,e2,e3,e4⟩:=h.up a v hv hfr
    rw[hp]at e1
    have:p=p':=by simp at e1;omega
    subst this
    rw[hz]at e2;cases e2
    obtain⟨b,hb,hbl,_⟩:=wf.bS a v hv
    obtain⟨d,hdd,_⟩:=wf.bS p z hz
    rw[hb]at e3
    have hlk:=(wf.live a b v n hv hb (by simpa using e3)).2 ⟨hfr,h0⟩
    rw[(inP a v hv),hb]
    have hdP:d∈P:=by have:=(inP p z hz).1 hiz;rw[hdd]at this;simpa using this
    refine down d _ hdP (xK.2 ⟨n,by simpa using e3,hlk,?_⟩)
    rw[e4,hdd]
   ·rw[f3 z hiz]
    rcases g1 with g1 | g1
    ·exfalso
     apply hin
     have:=hex a g1
     subst this
     rw[hx]at hv;cases hv
     rw[inP a x hx,hq];simpa using qP
    ·exact g1
 ·intro a u hu Ss
  obtain⟨v,hv,rfl⟩:=back a u hu
  rw[(f1 v).2.1,(f1 v).2.2.1,(f1 v).1]
  by_cases hin:nc P v.node=true
  ·have hee:=(f2 v hin).1
   rw[Ss]at hee
   by_cases hai:a=i
   ·subst hai
    rw[hx]at hv;cases hv
    rcases ho hee.symm with h9 | ⟨h8,p,y,e1,e2,e3⟩
    ·exact .inl h9
    ·refine .inr ⟨h8,p,f y,e1,fwd p y e2,?_⟩
     have:¬nc P y.node=true:=fun h9=>by have:=(So p y e2 h9).2;omega
     rw[f3 y this];exact e3
   ·right
    obtain⟨hfr,_⟩:=So a v hv hin
    obtain⟨p,y,n,e1,e2,e3,e4⟩:=h.up a v hv hfr
    refine⟨hfr,p,f y,e1,fwd p y e2,?_⟩
    obtain⟨b,hb,_⟩:=wf.bS a v hv
    have hbP:b∈P:=by have:=(inP a v hv).1 hin;rw[hb]at this;simpa using this
    have Oh:b≠q:=by
     rintro rfl
     exact hai (wf.My hv hx (by rw[hb,hq]))
    rw[hP]at hbP
    obtain⟨m,hm⟩:=Vs 200 q b hbP Oh
    rcases hm with⟨m1,m2,m3,_⟩ | hm
    ·rw[hb]at e3
     have:n=m:=by
      have e3':S.σ.tree[b]?=some n:=by simpa using e3
      rw[m1]at e3';cases e3';rfl
     subst this
     have:nc P y.node=true:=by rw[inP p y e2,←e4,hP];exact m3
     rw[(f2 y this).1];exact hee.symm
    ·exact hm.elim
  ·rw[f3 v hin]at Ss
   rcases h.ov a v hv Ss with h9 | ⟨h8,p,y,e1,e2,e3⟩
   ·exact .inl h9
   ·refine .inr ⟨h8,p,f y,e1,fwd p y e2,?_⟩
    have:¬nc P y.node=true:=fun h9=>by have:=(So p y e2 h9).2;omega
    rw[f3 y this];exact e3
 ·intro z hz
  obtain⟨kk,j,o,v,e1,e2,e3,e4,e5,e6⟩:=h.ti z (less.l.subset hz)
  exact⟨kk,j,o,f v,e1,by rw[less.af];exact e2,e3,fwd j v e4,by rw[(f1 v).2.1];exact e5,by rw[(f1 v).2.2.1];exact e6⟩
theorem SV.add {S:CX}(wf:WF S){ps:List Int}{ls:List Bool}{now:Int}(h:SV S ps ls now ZL){p:Nat}{up o:One}{Aa:Nat→Ch}(aI:S.σ.af[p]?=some up)
  (eo:(S.σ.add o up.node).af=S.σ.af++[{ o with node:=S.σ.tree.length,timer:=-1 }]) (et:gH S.σ.tree up.node (!o.free) (S.σ.add o up.node).tree) (ho:o.err=0) (jw:o.cause=0)
  (hh:o.free=false→up.has=true→o.has=true∧o.when≤up.when) {ex:Nat→Prop} (hex:o.free=false→ex S.σ.af.length∨up.err=0) :
  SV ({ S with σ:=S.σ.add o up.node,χ:=Aa }:CX) (ps++[(p:Int)]) (ls++[!o.free]) now ex:=by
 have j5:p<S.σ.af.length:=(List.getElem?_eq_some_iff.1 aI).1
 obtain⟨O,hO⟩:∃O:One,O={ o with node:=S.σ.tree.length,timer:=-1 }:=⟨_,rfl⟩
 rw[←hO]at eo
 have O1:O.free=o.free∧O.err=0∧O.cause=0∧O.has=o.has∧O.when=o.when∧O.node=S.σ.tree.length:=by rw[hO];exact⟨rfl,ho,jw,rfl,rfl,rfl⟩
 have old:∀(i:Nat) (x:One),S.σ.af[i]?=some x→(S.σ.add o up.node).af[i]?=some x:=fun i x hx=>by
  rw[eo,List.getElem?_append_left (List.getElem?_eq_some_iff.1 hx).1];exact hx
 have back:∀(i:Nat) (x:One),(S.σ.add o up.node).af[i]?=some x→(i<S.σ.af.length∧S.σ.af[i]?=some x)∨(i=S.σ.af.length∧x=O):=fun i x hx=>by
  rw[eo]at hx
  by_cases hi:i<S.σ.af.length
  ·rw[List.getElem?_append_left hi]at hx;exact .inl ⟨hi,hx⟩
  ·have:i<(S.σ.af++[O]).length:=(List.getElem?_eq_some_iff.1 hx).1
   have hi2:i=S.σ.af.length:=by simp at this;omega
   subst hi2
   simp at hx
   exact .inr ⟨rfl,hx.symm⟩
 have psO:∀(i:Nat) (q:Int),(ps++[(p:Int)])[i]?=some q→(i<S.σ.af.length∧ps[i]?=some q)∨(i=S.σ.af.length∧q=p):=fun i q hq=>by
  by_cases hi:i<S.σ.af.length
  ·rw[List.getElem?_append_left (by rw[h.l1];exact hi)]at hq;exact .inl ⟨hi,hq⟩
  ·have:i<(ps++[(p:Int)]).length:=(List.getElem?_eq_some_iff.1 hq).1
   have hi2:i=ps.length:=by have:=h.l1;simp at *;omega
   subst hi2
   simp at hq
   exact .inr ⟨h.l1,hq.symm⟩
 have psI:∀(i:Nat) (q:Int),ps[i]?=some q→(ps++[(p:Int)])[i]?=some q:=fun i q hq=>by
  rw[List.getElem?_append_left (List.getElem?_eq_some_iff.1 hq).1];exact hq
 have psN:(ps++[(p:Int)])[S.σ.af.length]?=some (p:Int):=by rw[←h.l1];simp
 obtain⟨nn,n1,n2,n3⟩:=et.new
 refine⟨by show _=(S.σ.add o up.node).af.length;rw[eo];simp[h.l1],by show _=(S.σ.add o up.node).af.length;rw[eo];simp[h.l2],?_,?_,?_,?_,?_,?_,?_,?_,h.nw⟩
 ·intro i x hx
  rcases back i x hx with⟨hi,h1⟩ | ⟨rfl,rfl⟩
  ·rw[List.getElem?_append_left (by rw[h.l2];exact hi)];exact h.lk i x h1
  ·rw[←h.l2,O1.1];simp
 ·intro i q hq
  rcases psO i q hq with⟨hi,h1⟩ | ⟨rfl,rfl⟩
  ·exact h.pr i q h1
  ·right;omega
 ·intro x hx
  rcases back 0 x hx with⟨hi,h1⟩ | ⟨h1,_⟩
  ·exact h.root x h1
  ·omega
 ·intro i x hx hf
  rcases back i x hx with⟨hi,h1⟩ | ⟨rfl,rfl⟩
  ·obtain⟨q,y,n,g1,g2,g3,g4⟩:=h.up i x h1 hf
   obtain⟨m,m1,m2,_⟩:=et.old _ _ g3
   exact⟨q,y,m,psI _ _ g1,old _ _ g2,m1,by rw[m2];exact g4⟩
  ·exact⟨p,up,nn,psN,old _ _ aI,by rw[O1.2.2.2.2.2];simpa using n1,n2⟩
 ·intro i x hx
  rcases back i x hx with⟨hi,h1⟩ | ⟨rfl,rfl⟩
  ·exact h.cd i x h1
  ·exact .inl ⟨O1.2.1,O1.2.2.1⟩
 ·intro i q x y hx hf hq hy
  rcases back i x hx with⟨hi,h1⟩ | ⟨rfl,rfl⟩
  ·rcases psO i q hq with⟨_,h2⟩ | ⟨h2,_⟩
   ·have Ih:q<i:=by rcases h.pr i q h2 with⟨_,h9⟩ | h9<;>omega
    rcases back q y hy with⟨_,h3⟩ | ⟨h3,_⟩
    ·obtain⟨g1,g2⟩:=h.hg i q x y h1 hf h2 h3
     exact⟨.inr (g1.resolve_left fun h=>h),g2⟩
    ·omega
   ·omega
  ·rcases psO _ q hq with⟨h2,_⟩ | ⟨_,h2⟩
   ·omega
   ·have:q=p:=by omega
    subst this
    have hy':=old _ _ aI
    have:y=up:=by
     have gq:(S.σ.add o up.node).af[q]?=some y:=hy
     rw[hy']at gq;cases gq;rfl
    subst this
    rw[O1.1]at hf
    refine⟨(hex hf).imp id .inl,fun hb=>?_⟩
    rw[O1.2.2.2.1,O1.2.2.2.2.1]
    exact hh hf hb
 ·intro i x hx he
  rcases back i x hx with⟨hi,h1⟩ | ⟨rfl,rfl⟩
  ·rcases h.ov i x h1 he with h9 | ⟨h8,q,y,g1,g2,g3⟩
   ·exact .inl h9
   ·exact .inr ⟨h8,q,y,psI _ _ g1,old _ _ g2,g3⟩
  ·rw[O1.2.1]at he;cases he
 ·intro z hz
  obtain⟨kk,j,oo,x,g1,g2,g3,g4,g5,g6⟩:=h.ti z hz
  exact⟨kk,j,oo,x,g1,g2,g3,old _ _ g4,g5,g6⟩
theorem SV.begin {S:CX}{k:Nat}(ci:CI S k){ps:List Int}{ls:List Bool}{now:Int}(h:SV S ps ls now ZL){p:Nat}{up o:One}(aI:S.σ.af[p]?=some up)(hlen:S.σ.af.length<64)(ho:o.err=0)(jw:o.cause=0)(hof:o.free=false)
  (hh:up.has=true→o.has=true∧o.when≤up.when) (a:Nat) {r:CX×List cx} (hr:(S.aG o up.node a).bw S.σ.af.length p=some r) :
  SV r.1 (ps++[(p:Int)]) (ls++[true]) now ZL∧CI r.1 k∧∃u,r.1.σ.af[S.σ.af.length]?=some u∧u.has=o.has∧u.when=o.when:=by
 have c1:=ci.aG aI hlen ho a
 obtain⟨w1,e1,e2⟩:=ci.wf.aG aI hlen ho a
 have j5:p<S.σ.af.length:=(List.getElem?_eq_some_iff.1 aI).1
 have Br:(S.aG o up.node a).σ.af[p]?=some up:=by rw[e1,List.getElem?_append_left j5];exact aI
 have hy1:(S.aG o up.node a).σ.af[S.σ.af.length]?=some { o with c:=some a,node:=S.σ.tree.length,timer:=-1 }:=by rw[e1,List.getElem?_append_right (Nat.le_refl _),Nat.sub_self];rfl
 have add:∀ex:Nat→Prop,(ex S.σ.af.length∨up.err=0)→SV (S.aG o up.node a) (ps++[(p:Int)]) (ls++[true]) now ex:=fun ex he=>by
  have:=h.add ci.wf (o:={ o with c:=some a }) (Aa:=xd S.χ a .sg) aI e1 e2 ho jw (fun _=>hh) (ex:=ex) (fun _=>he)
  rw[show (true:Bool)=!o.free by rw[hof];rfl]
  exact this
 unfold CX.bw at hr
 rw[if_pos (by omega)]at hr
 simp only[Int.toNat_natCast,Br]at hr
 by_cases hu:up.err=0
 ·rw[if_pos hu]at hr
  cases hr
  exact⟨add _ (.inr hu),c1,_,hy1,rfl,rfl⟩
 ·rw[if_neg hu]at hr
  split at hr
  ·cases hr
  ·rename_i q hq
   cases hr
   obtain⟨g1,g2⟩:(up.err=1∨up.err=2)∧1≤up.cause:=by
    rcases h.cd p up aI with⟨h9,_⟩ | h9
    ·exact absurd h9 hu
    ·exact h9
   obtain⟨k1,k2⟩:=(add (fun j=>j=S.σ.af.length) (.inl rfl)).cancel c1 hy1 g1 g2 (fun h2=>.inr ⟨hof,p,up,by rw[←h.l1];simp,Br,h2⟩) (fun j hj=>hj) hq
   obtain⟨u,u1,u2,u3⟩:=k2 _ _ hy1
   exact⟨k1,(c1.cancel hy1 hu hq).1,u,u1,u2,u3⟩
def T2 (S:CX)(ps:List Int)(ls:List Bool)(n:Int)(b:Bool)(now:Int):Prop:=SV S ps ls now ZL∨SV S (ps++[n]) (ls++[b]) now ZL
theorem SV.G5 {S:CX}{k:Nat}(ci:CI S k){ps:List Int}{ls:List Bool}{now:Int}(h:SV S ps ls now ZL){id:Int}{a:Nat}{r:Fa}(hr:S.aL id a=some r):T2 r.1 ps ls id true now:=by
 unfold CX.aL at hr
 by_cases h0:S.σ.room id=0
 rotate_left
 ·rw[if_pos h0]at hr;cases hr;exact .inl h
 obtain⟨i,up,rfl,bK,aI,_,hlen⟩:=xr h0
 rw[if_neg (fun h9=>h9 h0),if_pos ci.wf.bM]at hr
 simp only[Int.toNat_natCast,aI]at hr
 split at hr
 ·cases hr
 ·rename_i q hq
  cases hr
  exact .inr (h.begin ci (o:={ One.zero with when:=up.when,has:=up.has }) aI hlen rfl rfl rfl (fun h9=>⟨h9,Int.le_refl _⟩) a hq).1
theorem SV.GF {S:CX}{k:Nat}(ci:CI S k){ps:List Int}{ls:List Bool}{now:Int}(h:SV S ps ls now ZL){id:Int}{r:CX×Int×Int}(hr:S.bF id=some r):T2 r.1 ps ls id false now:=by
 unfold CX.bF at hr
 by_cases h0:S.σ.room id=0
 rotate_left
 ·rw[if_pos h0]at hr;cases hr;exact .inl h
 obtain⟨i,up,rfl,bK,aI,_,hlen⟩:=xr h0
 rw[if_neg (fun h9=>h9 h0),if_pos ci.wf.bM]at hr
 simp only[Int.toNat_natCast,aI]at hr
 cases hr
 obtain⟨_,e1,e2,_⟩:=ci.wf.add (o:={ One.zero with free:=true }) (Aa:=S.χ) aI hlen rfl (fun b n hb=>hb) (fun b hb=>by simp[One.zero]at hb)
 exact .inr (h.add ci.wf (o:={ One.zero with free:=true }) (Aa:=S.χ) aI e1 e2 rfl rfl (fun h9=>by cases h9) (fun h9=>by cases h9))
theorem ziu {x:Xs}{i W p:Int}{z:It}(hz:z∈(x.arm i W p).1.l):z∈x.l∨(z.id=i∧z.w=W):=by
 unfold Xs.arm at hz
 split at hz
 ·exact .inl hz
 ·simp only[Xs.aP]at hz
  rcases zbl.1 hz with rfl | hz
  ·exact .inr ⟨rfl,rfl⟩
  ·exact .inl (xS.1 hz).1
theorem SV.arm {S:CX}{k:Nat}(ci:CI S k){ps:List Int}{ls:List Bool}{now:Int}(h:SV S ps ls now ZL){n:Nat}{y:One}(hy:S.σ.af[n]?=some y){W:Int}(hh:y.has=true)(hw:y.when=W)(h0:0≤W)(h1:W≤4611686018427387904){S2:CX}(hr:S.fe n W=some S2):SV S2 ps ls now ZL:=by
 obtain⟨mk,hmk⟩:∃mk,mk=S.τ.make ⟨4,(n:Int),none,0⟩ 0 W:=⟨_,rfl⟩
 have e0:=YO S.τ n W
 obtain⟨m1,m2⟩:=zbb e0
 rw[←hmk]at e0 m1 m2
 have mem:∀z∈mk.1.x.l,z∈S.τ.x.l∨(z.id=(S.τ.af.length:Int)∧z.w=W):=fun z hz=>by
  have gD:GB 0=false:=by simp[GB]
  rw[hmk]at hz
  simp only[bk.make]at hz
  rw[if_neg (by simp[gD]),if_neg (by simp)]at hz
  have hca:zB 0 (max W 0)=W:=by unfold zB yx;omega
  simp only[bk.aP,hca]at hz
  exact ziu hz
 unfold CX.fe at hr
 rw[←hmk]at hr
 have ht:=ci.t
 cases e1:S.σ.t with
 | none=>rw[e1]at ht;cases ht
 | some s =>
  rw[e1]at hr
  simp only at hr
  have hf:S.τ.fF=true:=by
   cases h9:S.τ.fF with
   | true=>rfl
   | false=>rw[h9]at hr;simp at hr
  simp only[hf,e0,if_true,hy,Option.some.injEq]at hr
  subst hr
  obtain⟨y2,gq⟩:∃y2:One,y2={ y with timer:=mk.2.1 }:=⟨_,rfl⟩
  rw[←gq]
  have Y:y2.free=y.free∧y2.err=y.err∧y2.cause=y.cause∧y2.has=y.has∧y2.when=y.when∧y2.node=y.node:=by rw[gq];exact⟨rfl,rfl,rfl,rfl,rfl,rfl⟩
  have back:∀(a:Nat) (u:One),(S.σ.af.set n y2)[a]?=some u→∃v,S.σ.af[a]?=some v∧u.free=v.free∧u.err=v.err∧u.cause=v.cause∧u.has=v.has∧u.when=v.when∧u.node=v.node:=fun a u hu=>by
   rcases wd hu with⟨rfl,rfl,_⟩ | ⟨_,hu⟩
   ·exact⟨y,hy,Y⟩
   ·exact⟨u,hu,rfl,rfl,rfl,rfl,rfl,rfl⟩
  have fwd:∀(a:Nat) (v:One),S.σ.af[a]?=some v→∃u,(S.σ.af.set n y2)[a]?=some u∧u.err=v.err∧u.has=v.has∧u.when=v.when∧u.node=v.node:=fun a v hv=>by
   by_cases han:a=n
   ·subst han
    rw[hy]at hv;cases hv
    exact⟨y2,by rw[List.getElem?_set];simp[(List.getElem?_eq_some_iff.1 hy).1],Y.2.1,Y.2.2.2.1,Y.2.2.2.2.1,Y.2.2.2.2.2⟩
   ·exact⟨v,by rw[List.getElem?_set_ne (fun h=>han h.symm)];exact hv,rfl,rfl,rfl,rfl⟩
  refine⟨by show _=(S.σ.af.set n y2).length;rw[List.length_set];exact h.l1,by show _=(S.σ.af.set n y2).length;rw[List.length_set];exact h.l2,?_,h.pr,?_,?_,?_,?_,?_,?_,h.nw⟩
  ·intro a u hu
   obtain⟨v,hv,q1,_⟩:=back a u hu
   rw[q1];exact h.lk a v hv
  ·intro u hu
   obtain⟨v,hv,q1,_⟩:=back 0 u hu
   rw[q1];exact h.root v hv
  ·intro a u hu hf
   obtain⟨v,hv,q1,_,_,_,_,q6⟩:=back a u hu
   obtain⟨p,z,nn,g1,g2,g3,g4⟩:=h.up a v hv (by rw[←q1];exact hf)
   obtain⟨z',z1,_,_,_,z5⟩:=fwd p z g2
   exact⟨p,z',nn,g1,z1,by rw[q6];exact g3,by rw[z5];exact g4⟩
  ·intro a u hu
   obtain⟨v,hv,_,q2,q3,_⟩:=back a u hu
   rw[q2,q3];exact h.cd a v hv
  ·intro a p u z hu hf hp hz
   obtain⟨v,hv,q1,q2,_,q4,q5,_⟩:=back a u hu
   obtain⟨w,Ig,r1,r2,_,r4,r5,_⟩:=back p z hz
   rw[q2,q4,q5,r2,r4,r5]
   exact h.hg a p v w hv (by rw[←q1];exact hf) hp Ig
  ·intro a u hu he
   obtain⟨v,hv,q1,q2,_,q4,q5,_⟩:=back a u hu
   rw[q4,q5,q1]
   rcases h.ov a v hv (by rw[←q2];exact he)with h9 | ⟨h8,p,z,g1,g2,g3⟩
   ·exact .inl h9
   ·obtain⟨z',z1,z2,_⟩:=fwd p z g2
    exact .inr ⟨h8,p,z',g1,z1,by rw[z2];exact g3⟩
  ·intro z hz
   rcases mem z hz with hz | ⟨LV,LU⟩
   ·obtain⟨kk,j,o,x,g1,g2,g3,g4,g5,g6⟩:=h.ti z hz
    obtain⟨x',x1,_,x3,x4,_⟩:=fwd j x g4
    refine⟨kk,j,o,x',g1,?_,g3,x1,by rw[x3];exact g5,by rw[x4];exact g6⟩
    show mk.1.af[kk]?=_
    rw[m2,List.getElem?_append_left (List.getElem?_eq_some_iff.1 g2).1];exact g2
   ·obtain⟨x',x1,_,x3,x4,_⟩:=fwd n y hy
    refine⟨S.τ.af.length,n,{ (⟨4,(n:Int),none,0⟩:On)with gen:=0+1 },x',LV,?_,rfl,x1,by rw[x3];exact hh,by rw[x4,hw,LU];exact Int.le_refl _⟩
    show mk.1.af[_]?=_
    rw[m2];simp
theorem SV.deadline {S:CX}{k:Nat}(ci:CI S k){ps:List Int}{ls:List Bool}{now:Int}(h:SV S ps ls now ZL){id when:Int}{a:Nat}{r:Fa}(hr:S.aH id when now a=some r):T2 r.1 ps ls id true now:=by
 unfold CX.aH at hr
 by_cases h0:S.σ.room id=0
 rotate_left
 ·rw[if_pos h0]at hr;cases hr;exact .inl h
 obtain⟨i,up,rfl,bK,aI,_,hlen⟩:=xr h0
 rw[if_neg (fun h9=>h9 h0)]at hr
 simp only[Int.toNat_natCast,aI]at hr
 have hW:0≤max (zB when 0) 0∧max (zB when 0) 0≤4611686018427387904:=by unfold zB yx;omega
 generalize max (zB when 0) 0=W at hr hW
 by_cases hc:up.has=true∧up.when≤W
 ·rw[if_pos hc]at hr
  exact h.G5 ci hr
 rw[if_neg hc,if_pos ci.wf.bM]at hr
 split at hr
 ·cases hr
 ·rename_i q hq
  obtain⟨k1,k2,u,u1,u2,u3⟩:=h.begin ci (o:={ One.zero with when:=W,has:=true,own:=true }) aI hlen rfl rfl rfl (fun h9=>⟨rfl,by have:¬up.when≤W:=fun h8=>hc ⟨h9,h8⟩;show W≤_;omega⟩) a hq
  split at hr
  ·cases hr;exact .inr k1
  ·split at hr
   ·rename_i hwn
    split at hr
    ·cases hr
    ·rename_i q2 GQ
     cases hr
     exact .inr (k1.cancel k2 u1 (.inr rfl) (by omega) (fun _=>.inl ⟨u2,by rw[u3];exact hwn⟩) (fun j hj=>hj.elim) GQ).1
   ·split at hr
    ·cases hr
    ·rename_i q2 GQ
     cases hr
     exact .inr (k1.arm k2 u1 u2 u3 hW.1 hW.2 GQ)
theorem SV.bC {S:CX}{k:Nat}(ci:CI S k){ps:List Int}{ls:List Bool}{now:Int}(h:SV S ps ls now ZL){id cause:Int}{r:CX×List cx×List (Int×Int)×Int}(hr:S.bC id cause=some r):SV r.1 ps ls now ZL:=by
 unfold CX.bC at hr
 cases hh:S.σ.has id with
 | false=>rw[if_pos hh]at hr;cases hr;exact h
 | true =>
  rw[if_neg (by rw[hh];simp)]at hr
  obtain⟨i,x,rfl,hx,_⟩:=xz hh
  simp only[Int.toNat_natCast,hx]at hr
  split at hr
  ·cases hr;exact h
  ·split at hr
   ·cases hr
   ·rename_i q hq
    cases hr
    exact (h.cancel ci hx (.inl rfl) (by split<;>omega) (fun h9=>by cases h9) (fun j hj=>hj.elim) hq).1
theorem SV.bO {S:CX}{k:Nat}(ci:CI S k){ps:List Int}{ls:List Bool}{now:Int}(h:SV S ps ls now ZL){j:Nat}{x:One}(hx:S.σ.af[j]?=some x)(h1:x.has=true)(h2:x.when≤now){r:CX×List cx×List (Int×Int)×Int}(hr:S.bO j=some r):SV r.1 ps ls now ZL:=by
 unfold CX.bO at hr
 split at hr
 ·cases hr;exact h
 ·simp only[Int.toNat_natCast,hx]at hr
  split at hr
  ·cases hr;exact h
  ·split at hr
   ·cases hr
   ·rename_i q hq
    cases hr
    exact (h.cancel ci hx (.inr rfl) (by omega) (fun _=>.inl ⟨h1,h2⟩) (fun j hj=>hj.elim) hq).1
theorem SV.ck {S:CX}{ps:List Int}{ls:List Bool}{now:Int}(h:SV S ps ls now ZL)(i:Nat)(x:cK):SV (S.ck i x) ps ls now ZL :=
 h.same rfl (fun k n hn=>by
  refine⟨{ n with linked:=n.linked&&!decide (k=x.node.toNat),kids:=n.kids.filter fun y=>!decide (y.toNat=x.node.toNat) },?_,rfl⟩
  show (yd S.σ.tree fun k=>decide (k=x.node.toNat))[k]?=_
  rw[yU,hn];rfl) rfl
theorem SV.Mm {S:CX}{k:Nat}(ci:CI S k){ps:List Int}{ls:List Bool}{now:Int}(h:SV S ps ls now ZL){j:Int}{r:CX×Bool×Int}(hr:S.bg j=some r):SV r.1 ps ls now ZL:=by
 by_cases hj:0≤j∧j<(S.σ.ai.length:Int)
 ·obtain⟨i,rfl⟩:=Int.eq_ofNat_of_zero_le hj.1
  have hx:S.σ.ai[i]?=some S.σ.ai[i]:=List.getElem?_eq_getElem (by omega)
  generalize S.σ.ai[i]=x at hx
  rw[(ci.wf.ck hx).2.1]at hr
  cases hr
  exact h.ck i x
 ·unfold CX.bg at hr
  rw[if_neg hj]at hr
  cases hr;exact h
theorem SV.after {S:CX}{k:Nat}(ci:CI S k){ps:List Int}{ls:List Bool}{now:Int}(h:SV S ps ls now ZL){id prog:Int}{r:CX×Int×List (Int×Int)×Int}(hr:S.bI id prog=some r):SV r.1 ps ls now ZL:=by
 have wf:=ci.wf
 unfold CX.bI at hr
 cases hh:S.σ.has id with
 | false=>rw[if_pos hh]at hr;cases hr;exact h
 | true =>
  rw[if_neg (by rw[hh];simp)]at hr
  by_cases hp:prog<0
  ·rw[if_pos hp]at hr;cases hr;exact h
  rw[if_neg hp]at hr
  by_cases hl:64≤S.σ.ai.length
  ·rw[if_pos hl]at hr;cases hr;exact h
  rw[if_neg hl,if_pos wf.tr.Em]at hr
  obtain⟨i,up,rfl,aI,_⟩:=xz hh
  simp only[Int.toNat_natCast,aI]at hr
  obtain⟨w1,a1,t1,_⟩:=wf.cm aI (by omega) prog
  have sv1:SV ({ S with σ:=S.σ.cm up prog }:CX) ps ls now ZL:=h.same rfl (fun k n hn=>by obtain⟨m,m1,m2,_⟩:=t1.old k n hn;exact⟨m,m1,m2⟩) rfl
  by_cases h0:up.err=0
  ·simp only[h0,ne_eq,not_true_eq_false,if_false,Option.some.injEq]at hr
   subst hr;exact sv1
  ·simp only[h0,ne_eq,not_false_eq_true,if_true]at hr
   have hx:(S.σ.cm up prog).ai[S.σ.ai.length]?=some ⟨(S.σ.tree.length:Int),prog,false⟩:=by rw[a1];simp
   obtain⟨_,_,e1⟩:=w1.ck (S:=({ S with σ:=S.σ.cm up prog }:CX)) hx
   simp only at e1
   rw[e1]at hr
   cases hr
   exact sv1.ck _ _
theorem SV.chan {S:CX}{ps:List Int}{ls:List Bool}{now:Int}(h:SV S ps ls now ZL)(Aa:Nat→Ch):SV ({ S with χ:=Aa }:CX) ps ls now ZL:=h.same rfl (fun k n hn=>⟨n,hn,rfl⟩) rfl
theorem zee {x x':Xs}{now id w n:Int}(h:x.take now=(x',(id,w,n),true)):∃y∈x.l,id=y.id∧y.w≤now∧∀z∈x'.l,z∈x.l∨(z.id=y.id∧now<z.w):=by
 unfold Xs.take at h
 cases hl:x.l with
 | nil=>rw[hl]at h;simp at h
 | cons y r =>
  rw[hl]at h
  simp only[List.head?_cons]at h
  split at h
  ·simp at h
  ·rename_i hn
   simp only[Prod.mk.injEq]at h
   obtain⟨h1,⟨h2,_⟩,_⟩:=h
   refine⟨y,by simp,h2.symm,by omega,fun z hz=>?_⟩
   rw[←hl]
   rw[←h1]at hz
   split at hz
   ·rename_i hc
    simp only[Xs.arm]at hz
    split at hz
    ·exact .inl (xS.1 hz).1
    ·simp only[Xs.aP]at hz
     rcases zbl.1 hz with rfl | hz
     ·exact .inr ⟨rfl,hc.2⟩
     ·exact .inl (xS.1 (xS.1 hz).1).1
   ·exact .inl (xS.1 hz).1
theorem SV.znd {S:CX}{ps:List Int}{ls:List Bool}{now:Int}(h:SV S ps ls now ZL){x':Xs}{id w n:Int}(ht:S.τ.x.take now=(x',(id,w,n),true)){o:On}(ho:S.τ.one id=some o) :
  SV ({ S with τ:={ S.τ with x:=x' } }:CX) ps ls now ZL∧∃(j:Nat) (x:One),o.data=(j:Int)∧S.σ.af[j]?=some x∧x.has=true∧x.when≤now:=by
 obtain⟨y,hy,e1,e2,e3⟩:=zee ht
 obtain⟨kk,j,o',x,g1,g2,g3,g4,g5,g6⟩:=h.ti y hy
 have:o=o':=by
  rw[e1,g1,zed g2]at ho;cases ho;rfl
 subst this
 refine⟨⟨h.l1,h.l2,h.lk,h.pr,h.root,h.up,h.cd,h.hg,h.ov,?_,h.nw⟩,j,x,g3,g4,g5,by omega⟩
 intro z hz
 rcases e3 z hz with h9 | ⟨h9,h8⟩
 ·exact h.ti z h9
 ·exact⟨kk,j,o,x,by rw[h9];exact g1,g2,g3,g4,g5,by omega⟩
theorem zi9 (s:Option Nat)(τ:bk)(IX:τ.x.l=[])(χ:Nat→Ch):SV ⟨Cs.new s,τ,χ⟩ [-1] [false] 0 ZL:=by
 have o1:(Cs.new s).af=[⟨0,true,none,0,0,0,false,false,-1⟩]:=rfl
 have one:∀(i:Nat) (x:One),(Cs.new s).af[i]?=some x→i=0∧x=⟨0,true,none,0,0,0,false,false,-1⟩:=fun i x hx=>by
  rw[o1]at hx
  cases i with
  | zero=>simp at hx;exact⟨rfl,hx.symm⟩
  | succ i=>simp at hx
 refine⟨rfl,rfl,?_,?_,?_,?_,?_,?_,?_,?_,by omega,by omega⟩
 ·intro i x hx
  obtain⟨rfl,rfl⟩:=one i x hx;rfl
 ·intro i p hp
  cases i with
  | zero=>simp at hp;exact .inl ⟨rfl,hp.symm⟩
  | succ i=>simp at hp
 ·intro x hx
  obtain⟨_,rfl⟩:=one 0 x hx;rfl
 ·intro i x hx hf
  obtain⟨_,rfl⟩:=one i x hx;cases hf
 ·intro i x hx
  obtain⟨_,rfl⟩:=one i x hx;exact .inl ⟨rfl,rfl⟩
 ·intro i p x y hx hf
  obtain⟨_,rfl⟩:=one i x hx;cases hf
 ·intro i x hx he
  obtain⟨_,rfl⟩:=one i x hx;cases he
 ·intro z hz
  have:z∈τ.x.l:=hz
  rw[IX]at this;cases this
end
section
variable {F:Nat→Option aT}
def P9 (K:Lg)(v:AV)(aN:List cx):Prop:=∃ps:List (cx×AV),ps.map (·.1)=aN∧Ah Fc 4 K v ps∧∀p∈ps,Ah Wk.cells 5 K p.2 p.1.bG
theorem Ah.Hy {α:Type}{f:α→List AV}{z:Nat}{K:Lg}{v:AV}{l:List α}(h:cI f z K v l):Ah f z K v l:=by
 obtain⟨a,cap,ex,rfl,_,_,h1⟩:=h
 refine⟨a,cap,ex,rfl,?_⟩
 rcases h1 with⟨h1,_⟩ | h1
 ·exact .inl h1
 ·exact .inr h1
theorem Ht.aN {K:Lg}{v1 v2:AV}{aN:List cx}{aJ:List (Int×Int)}(h:Ht K v1 v2 aN aJ):P9 K v1 aN∧Ah nZ 2 K v2 aJ:=by
 obtain⟨ps,h1,h2,h3,h4⟩:=h
 exact⟨⟨ps,h1,.Hy (cI.bD zcD h2),fun p hp=>.Hy (dj.El (fun _=>rfl) (h4 p hp))⟩,.Hy (cI.bD za4 h3)⟩
theorem UH.aN {L0 K:Lg}{v1 v2:AV}{aN:List cx}{aJ:List (Int×Int)}(h:UH L0 K v1 v2 aN aJ):P9 K v1 aN∧Ah nZ 2 K v2 aJ:=by
 obtain⟨ps,h1,h2⟩:=h
 refine⟨⟨ps,h1,.Hy (cI.bD zcD h2.o1),fun p hp=>zjb ?_⟩,.Hy (cI.bD za4 h2.o2)⟩
 rcases (h2.ins p hp).1 with⟨e1,e2⟩ | ⟨b,ex,e1,e2⟩
 ·exact .inl ⟨e1,e2⟩
 ·exact .inr ⟨b,ex,e1,e2⟩
theorem P9.mono {K K':Lg}{v:AV}{aN:List cx}(h:P9 K v aN)(e:∀b x,K b=some (.raw x)→K' b=some (.raw x)):P9 K' v aN:=by
 have key:∀{α:Type} {f:α→List AV} {z:Nat} {v:AV} {l:List α},Ah f z K v l→Ah f z K' v l:=by
  intro α f z v l h
  obtain⟨a,cap,ex,h1,h2⟩:=h
  refine⟨a,cap,ex,h1,?_⟩
  rcases h2 with h2 | ⟨b,off,cs,h2,h3,h4⟩
  ·exact .inl h2
  ·exact .inr ⟨b,off,cs,h2,h3.imp (e _ _) (e _ _),h4⟩
 obtain⟨ps,h1,h2,h3⟩:=h
 exact⟨ps,h1,key h2,fun p hp=>key (h3 p hp)⟩
theorem Ah.IS {α:Type}{f:α→List AV}{z:Nat}{K K':Lg}{v:AV}{l:List α}(h:Ah f z K v l)(e:∀b x,K b=some (.raw x)→K' b=some (.raw x)):Ah f z K' v l:=by
 obtain⟨a,cap,ex,h1,h2⟩:=h
 refine⟨a,cap,ex,h1,?_⟩
 rcases h2 with h2 | ⟨b,off,cs,h2,h3,h4⟩
 ·exact .inl h2
 ·exact .inr ⟨b,off,cs,h2,h3.imp (e _ _) (e _ _),h4⟩
end
section
variable {F:Nat→Option aT}
theorem YS (z:Int)(X:Lg)(k:AV→Lg→Prop):za F (.bin .eql) [.i .i64 z,.i .i64 z] X k=k (.b true) X:=by simp
def PN (c:Nat)(S:CX)(r:Nat):Prop:=r=c∨S.σ.t=some r∨xi S r
structure CB (L:Lg)(b s c u m:Nat)(now:Int)(S S':CX):Prop where
 gy:L b=some (.raw (.cells [.p (some (s,0)),.p (some (c,0)),.p (some (u,0)),.p (some (m,0)),.i .i64 now]))
 pe:L c=some (.abs (YG c S.σ))
 po:aY c S L
 re:L m=some (.abs (wy m S'.σ))
 ro:bE m S' L
 t:S.σ.t=some s
 t':S'.σ.t=some u
 ap:∀r,PN c S r→PN m S' r→False
section
variable {L L2:Lg} {b s c u m:Nat} {now:Int} {S S' S1:CX} {ρ:Nat→Nat} {k:Nat}
theorem CB.RG (h:CB L b s c u m now S S'){r:Nat}(hr:PN c S r):∃P,L r=some (.abs P):=by
 rcases hr with rfl | hr | ⟨x,hx,hc⟩
 ·exact⟨_,h.pe⟩
 ·exact⟨_,(h.po.bQ r hr).2⟩
 ·exact⟨_,(h.po.bB x hx r hc).2.2⟩
theorem CB.Rw (h:CB L b s c u m now S S'){r:Nat}(hr:PN m S' r):∃P,L r=some (.abs P):=by
 rcases hr with rfl | hr | ⟨x,hx,hc⟩
 ·exact⟨_,h.re⟩
 ·exact⟨_,(h.ro.bQ r hr).2⟩
 ·exact⟨_,(h.ro.bB x hx r hc).2.2⟩
theorem CB.Mt (h:CB L b s c u m now S S'){r:Nat}{x:AB}(hr:L r=some (.raw x)):¬PN c S r:=fun h9=>by obtain⟨P,hP⟩:=h.RG h9;rw[hr]at hP;cases hP
theorem CB.Hw (h:CB L b s c u m now S S'){r:Nat}{x:AB}(hr:L r=some (.raw x)):¬PN m S' r:=fun h9=>by obtain⟨P,hP⟩:=h.Rw h9;rw[hr]at hP;cases hP
theorem CB.prog (h:CB L b s c u m now S S')(d:eZ c S S1 L L2)(hn:∀r,xi S1 r→xi S r∨L r=none):CB L2 b s c u m now S1 S':=by
 have keep:∀r d,¬PN c S r→L r=some d→L2 r=some d:=fun r d' h1 h2=>by
  rw[d.fr r (by rw[h2];simp) (fun h9=>h1 (.inl h9)) (fun h9=>h1 (.inr (.inl h9))) (fun o ho h9=>h1 (.inr (.inr ⟨o,ho,h9⟩))),h2]
 have RR:∀r,PN m S' r→¬PN c S r:=fun r h1 h2=>h.ap r h2 h1
 refine⟨keep _ _ (h.Mt h.gy) h.gy,d.own,d.out,keep _ _ (RR m (.inl rfl)) h.re,⟨fun s' hs=>⟨(h.ro.bQ s' hs).1,keep _ _ (RR s' (.inr (.inl hs))) (h.ro.bQ s' hs).2⟩,fun o ho a ha=>⟨(h.ro.bB o ho a ha).1,(h.ro.bB o ho a ha).2.1,keep _ _ (RR a (.inr (.inr ⟨o,ho,ha⟩))) (h.ro.bB o ho a ha).2.2⟩⟩,by rw[d.sub.t];exact h.t,h.t',fun r h1 h2=>?_⟩
 rcases h1 with h1 | h1 | h1
 ·exact h.ap r (.inl h1) h2
 ·exact h.ap r (.inr (.inl (by rw[←d.sub.t];exact h1))) h2
 ·rcases hn r h1 with h3 | h3
  ·exact h.ap r (.inr (.inr h3)) h2
  ·obtain⟨P,hP⟩:=h.Rw h2
   rw[h3]at hP;cases hP
theorem CB.ct (h:CB L b s c u m now S S')(d:eZ c S S1 L L2){r:Nat}{x:AB}(hr:L r=some (.raw x)):L2 r=some (.raw x):=d.raw h.pe h.po hr
theorem CB.Fu (h:CB L b s c u m now S S')(d:dm m S' S1 L L2)(ht:S1.σ.t=S'.σ.t)(hn:∀r,xi S1 r→xi S' r∨L r=none):CB L2 b s c u m now S S1:=by
 have keep:∀r d,¬PN m S' r→L r=some d→L2 r=some d:=fun r d' h1 h2=>d.fr r d' (fun h9=>h1 (.inl h9)) (fun h9=>h1 (.inr (.inl h9))) (fun o ho h9=>h1 (.inr (.inr ⟨o,ho,h9⟩))) h2
 have RQ:∀r,PN c S r→¬PN m S' r:=fun r h1 h2=>h.ap r h1 h2
 refine⟨keep _ _ (h.Hw h.gy) h.gy,keep _ _ (RQ c (.inl rfl)) h.pe,⟨fun s' hs=>⟨(h.po.bQ s' hs).1,keep _ _ (RQ s' (.inr (.inl hs))) (h.po.bQ s' hs).2⟩,fun o ho a ha=>⟨(h.po.bB o ho a ha).1,(h.po.bB o ho a ha).2.1,keep _ _ (RQ a (.inr (.inr ⟨o,ho,ha⟩))) (h.po.bB o ho a ha).2.2⟩⟩,d.e,d.out,h.t,by rw[ht];exact h.t',fun r h1 h2=>?_⟩
 rcases h2 with h2 | h2 | h2
 ·exact h.ap r h1 (.inl h2)
 ·exact h.ap r h1 (.inr (.inl (by rw[←ht];exact h2)))
 ·rcases hn r h2 with h3 | h3
  ·exact h.ap r h1 (.inr (.inr h3))
  ·obtain⟨P,hP⟩:=h.RG h1
   rw[h3]at hP;cases hP
theorem CB.cR (h:CB L b s c u m now S S')(d:dm m S' S1 L L2){r:Nat}{x:AB}(hr:L r=some (.raw x)):L2 r=some (.raw x):=by
 have h1:=h.Hw hr
 exact d.fr r _ (fun h9=>h1 (.inl h9)) (fun h9=>h1 (.inr (.inl h9))) (fun o ho h9=>h1 (.inr (.inr ⟨o,ho,h9⟩))) hr
theorem CB.fresh (h:CB L b s c u m now S S'){a:Nat}(ha:L a=none):¬xi S a∧¬xi S' a:=by
 refine⟨fun h9=>?_,fun h9=>?_⟩
 ·obtain⟨P,hP⟩:=h.RG (.inr (.inr h9));rw[ha]at hP;cases hP
 ·obtain⟨P,hP⟩:=h.Rw (.inr (.inr h9));rw[ha]at hP;cases hP
theorem CB.b0 (h:CB L b s c u m now S S'):aq L (b,0) none=some (.p (some (s,0))):=by rw[zj h.gy];rfl
theorem CB.b1 (h:CB L b s c u m now S S'):aq L (b,1) none=some (.p (some (c,0))):=by rw[zj h.gy];rfl
theorem CB.b2 (h:CB L b s c u m now S S'):aq L (b,2) none=some (.p (some (u,0))):=by rw[zj h.gy];rfl
theorem CB.b3 (h:CB L b s c u m now S S'):aq L (b,3) none=some (.p (some (m,0))):=by rw[zj h.gy];rfl
theorem CB.b4 (h:CB L b s c u m now S S'):aq L (b,4) none=some (.i .i64 now):=by rw[zj h.gy];rfl
end
section
variable {L L0:Lg} {b s c u m x3:Nat} {now:Int} {S S':CX} {ρ:Nat→Nat} {k cn:Nat} {kd n d:Int} {Q:AV→Lg→Prop}
end
end
section
variable {F:Nat→Option aT}
theorem zif (t:Bool)(X:Lg)(k:AV→Lg→Prop):za F (.eq false .bool) [.b t,.b t] X k=k (.b true) X:=by cases t<;>simp
section
variable {L L0:Lg} {b s c u m x3:Nat} {now:Int} {S S':CX} {ρ:Nat→Nat} {k cn:Nat} {kd n d:Int} {Q:AV→Lg→Prop}
end
end
section
variable {F:Nat→Option aT}
theorem Xg {f:Nat}{vs:List AV}{L:Lg}{u:Nat}{Q Q':AV→Lg→Prop}(h:zd F f vs L Q)(hq:∀v L',Q v L'→∃τ,L' u=some (.abs (YI u τ))∧∀aK sv pv ov K,aA L' u τ aK sv pv ov K→cD aK τ.x→Q' v K):zd F f vs L Q':=by
 refine h.zoB ?_
 intro v L' hv
 obtain⟨ρ',e,hh⟩:=hq v L' hv
 refine⟨u,_,e,?_⟩
 rintro hm ⟨dP,ey,fP,ov',M,o',pk',hs⟩
 refine⟨M,hs,by rw[o'.root];simp,fun hf=>?_⟩
 have hi:∀b d,M b=some d→(M.ak L') b=some d:=fun b d h=>by simp[Lg.ak,h]
 have sb:∀{v:AV} {cs:List AV} {n z:Nat},dj M v cs n z→dj (M.ak L') v cs n z:=fun h=>h.sub fun b d _ hd=>hi b d hd
 refine hh dP ey fP ov' (M.ak L') ⟨hi _ _ o'.root,sb o'.hs,sb o'.ps,o'.os.sub fun b d _ hd=>hi b d hd,fun b hb=>⟨(o'.a1 b hb).1,hf b _ (o'.hs.block hb) (o'.a1 b hb).1⟩,fun b hb=>⟨(o'.a2 b hb).1,hf b _ (o'.ps.block hb) (o'.a2 b hb).1,(o'.a2 b hb).2.2⟩,
  fun b hb=>⟨(o'.a3 b hb).1,hf b _ (o'.os.block hb) (o'.a3 b hb).1,(o'.a3 b hb).2.2⟩,fun r d hr hd=>?_⟩ pk'
 have:M r=none:=by
  cases h:M r with
  | none=>rfl
  | some e=>have:=hf r e h hr;rw[hd]at this;cases this
 simp[Lg.ak,this,hd]
section
variable {L L2:Lg} {b s c u m:Nat} {now:Int} {S S' S1:CX} {ρ:Nat→Nat} {k:Nat}
theorem CB.sub (h:CB L b s c u m now S S')(e:∀r d,L r=some d→L2 r=some d):CB L2 b s c u m now S S' :=
 ⟨e _ _ h.gy,e _ _ h.pe,⟨fun s' hs=>⟨(h.po.bQ s' hs).1,e _ _ (h.po.bQ s' hs).2⟩,fun o ho a ha=>⟨(h.po.bB o ho a ha).1,(h.po.bB o ho a ha).2.1,e _ _ (h.po.bB o ho a ha).2.2⟩⟩,e _ _ h.re,⟨fun s' hs=>⟨(h.ro.bQ s' hs).1,e _ _ (h.ro.bQ s' hs).2⟩,fun o ho a ha=>⟨(h.ro.bB o ho a ha).1,(h.ro.bB o ho a ha).2.1,e _ _ (h.ro.bB o ho a ha).2.2⟩⟩,h.t,h.t',h.ap⟩
theorem xW {L:Lg}{x:Nat}(hx:L x=none)(d:LC):∀r e,L r=some e→(L.put x d) r=some e:=fun r e hr=>by
 rw[zb _ _ _ (by rintro rfl;rw[hx]at hr;cases hr)];exact hr
theorem CB.RF (h:CB L b s c u m now S S'):L s=some (.abs (Z2 s S.τ)):=(h.po.bQ s h.t).2
theorem CB.Hx (h:CB L b s c u m now S S'):L u=some (.abs (YI u S'.τ)):=(h.ro.bQ u h.t').2
theorem CB.zox (h:CB L b s c u m now S S')(uY:bk):CB (L.put s (.abs (Z2 s uY))) b s c u m now ({ S with τ:=uY }:CX) S':=by
 have hs:=h.po.bQ s h.t
 have ne:∀r d,r≠s→L r=some d→(L.put s (.abs (Z2 s uY))) r=some d:=fun r d h1 h2=>by rw[zb _ _ _ h1];exact h2
 have pn:PN c S s:=.inr (.inl h.t)
 have Fs:∀r,PN m S' r→r≠s:=fun r hr=>by rintro rfl;exact h.ap r pn hr
 refine⟨ne _ _ (by rintro rfl;exact h.Mt h.gy pn) h.gy,ne _ _ (Ne.symm hs.1) h.pe,⟨fun s' hs'=>?_,fun o ho a ha=>?_⟩,ne _ _ (Fs m (.inl rfl)) h.re,⟨fun s' hs'=>⟨(h.ro.bQ s' hs').1,ne _ _ (Fs s' (.inr (.inl hs'))) (h.ro.bQ s' hs').2⟩,fun o ho a ha=>⟨(h.ro.bB o ho a ha).1,(h.ro.bB o ho a ha).2.1,ne _ _ (Fs a (.inr (.inr ⟨o,ho,ha⟩))) (h.ro.bB o ho a ha).2.2⟩⟩,h.t,h.t',h.ap⟩
 ·have:s'=s:=by have h1:S.σ.t=some s':=hs';rw[h.t]at h1;cases h1;rfl
  subst this
  exact⟨hs.1,ze _ _ _⟩
 ·obtain⟨g1,g2,g3⟩:=h.po.bB o ho a ha
  exact⟨g1,g2,ne _ _ (by rintro rfl;exact g2 h.t) g3⟩
theorem CB.zow (h:CB L b s c u m now S S')(uY:bk):CB (L.put u (.abs (YI u uY))) b s c u m now S ({ S' with τ:=uY }:CX):=by
 have hs:=h.ro.bQ u h.t'
 have ne:∀r d,r≠u→L r=some d→(L.put u (.abs (YI u uY))) r=some d:=fun r d h1 h2=>by rw[zb _ _ _ h1];exact h2
 have pn:PN m S' u:=.inr (.inl h.t')
 have Fs:∀r,PN c S r→r≠u:=fun r hr=>by rintro rfl;exact h.ap r hr pn
 refine⟨ne _ _ (by rintro rfl;exact h.Hw h.gy pn) h.gy,ne _ _ (Fs c (.inl rfl)) h.pe,⟨fun s' hs'=>⟨(h.po.bQ s' hs').1,ne _ _ (Fs s' (.inr (.inl hs'))) (h.po.bQ s' hs').2⟩,fun o ho a ha=>⟨(h.po.bB o ho a ha).1,(h.po.bB o ho a ha).2.1,ne _ _ (Fs a (.inr (.inr ⟨o,ho,ha⟩))) (h.po.bB o ho a ha).2.2⟩⟩,ne _ _ (Ne.symm hs.1) h.re,⟨fun s' hs'=>?_,fun o ho a ha=>?_⟩,h.t,h.t',h.ap⟩
 ·have:s'=u:=by have h1:S'.σ.t=some s':=hs';rw[h.t']at h1;cases h1;rfl
  subst this
  exact⟨hs.1,ze _ _ _⟩
 ·obtain⟨g1,g2,g3⟩:=h.ro.bB o ho a ha
  exact⟨g1,g2,ne _ _ (by rintro rfl;exact g2 h.t') g3⟩
theorem CB.RD (h:CB L b s c u m now S S')(cy:Int):CB (L.put b (.raw (.cells [.p (some (s,0)),.p (some (c,0)),.p (some (u,0)),.p (some (m,0)),.i .i64 cy]))) b s c u m cy S S':=by
 have np:∀r,PN c S r→r≠b:=fun r hr=>by rintro rfl;exact h.Mt h.gy hr
 have nr:∀r,PN m S' r→r≠b:=fun r hr=>by rintro rfl;exact h.Hw h.gy hr
 have ne:∀r d,r≠b→L r=some d→(L.put b (.raw (.cells [.p (some (s,0)),.p (some (c,0)),.p (some (u,0)),.p (some (m,0)),.i .i64 cy]))) r=some d:=fun r d h1 h2=>by rw[zb _ _ _ h1];exact h2
 exact⟨ze _ _ _,ne _ _ (np c (.inl rfl)) h.pe,⟨fun s' hs=>⟨(h.po.bQ s' hs).1,ne _ _ (np s' (.inr (.inl hs))) (h.po.bQ s' hs).2⟩,fun o ho a ha=>⟨(h.po.bB o ho a ha).1,(h.po.bB o ho a ha).2.1,ne _ _ (np a (.inr (.inr ⟨o,ho,ha⟩))) (h.po.bB o ho a ha).2.2⟩⟩,ne _ _ (nr m (.inl rfl)) h.re,⟨fun s' hs=>⟨(h.ro.bQ s' hs).1,ne _ _ (nr s' (.inr (.inl hs))) (h.ro.bQ s' hs).2⟩,fun o ho a ha=>⟨(h.ro.bB o ho a ha).1,(h.ro.bB o ho a ha).2.1,ne _ _ (nr a (.inr (.inr ⟨o,ho,ha⟩))) (h.ro.bB o ho a ha).2.2⟩⟩,h.t,h.t',h.ap⟩
end
def fcc (id kind when now data:Int):List AV:=[.i .i64 id,.i .i64 kind,.i .i64 when,.i .i64 now,.i .i64 data,.sl none 0 0 0,.b false]
theorem Vm {l:List AV}(h:l.length=7):zo [AV.i .i64 0,.i .i64 0,.i .i64 0,.i .i64 0,.i .i64 0,.sl none 0 0 0,.b false] 0 l=l:=by simp[zo,h]
section
variable {L L0:Lg} {b s c u m x3:Nat} {now:Int} {S S':CX} {ρ:Nat→Nat} {k cn:Nat} {kd n d:Int} {Q:AV→Lg→Prop}
structure znC (F:Nat→Option aT)(N:Nat→Nat)(b s c u m:Nat)(now:Int)(S S':CX)(k:Nat):Prop where
 p:(∀L,CB L b s c u m now S S'→zd F iL [.p (some (s,0)),.i .i64 now] L fun v L'=>v=.ay [.agg (fcc 0 0 0 0 0),.b false]∧L'=L)∧(∀L,CB L b s c u m now S S'→zd F gB [.p (some (u,0)),.i .i64 now] L fun v L'=>v=.ay [.agg (fcc 0 0 0 0 0),.b false]∧L'=L) ∨
  ∃(x':Xs) (id kind when data:Int),CI ({ S with τ:={ S.τ with x:=x' } }:CX) (k+1)∧due now x'.l<due now S.τ.x.l∧(∀L,CB L b s c u m now S S'→zd F iL [.p (some (s,0)),.i .i64 now] L fun v L'=>v=.ay [.agg (fcc id kind when now data),.b true]∧L'=L.put s (.abs (Z2 s { S.τ with x:=x' }))) ∧
   (∀(L:Lg) (S1:CX),CB L b s c u m now S1 S'→zd F gB [.p (some (u,0)),.i .i64 now] L fun v L'=>v=.ay [.agg (fcc id kind when now data),.b true]∧L'=L.put u (.abs (YI u { S.τ with x:=x' })))∧∃(w:Int) (o:On),S.τ.x.take now=(x',(id,w,now),true)∧S.τ.one id=some o∧o.data=data
theorem zau {L:Lg}{v:AV}{L':Lg}(h:xC L v (yr []) ([]:List Wk).length 5 L'):v=.sl none 0 0 0∧L'=L:=by
 rcases h with⟨h1,h2,rfl,rfl⟩ | ⟨b,ex,h1,h2,rfl,h3,rfl⟩
 ·exact⟨rfl,rfl⟩
 ·simp at h2
theorem zjB (h1:Bc F)(h2:A9 F)(cF:bx ρ S S')(ci:CI S k)(hk:k≤890000)(now:Int):znC F N b s c u m now S S' k:=by
 have tf:=ci.tg.tf (by omega)
 have hq:0≤S.τ.x.seq∧S.τ.x.seq<4611686018427387904:=⟨ci.tg.g.pos,by have:=ci.tg.g.seq;omega⟩
 refine⟨?_⟩
 rcases ci.tg.g.Mp now with tk | ⟨x',y,hy,hyw,tk,hx',HR,hz⟩
 ·left
  refine⟨fun L cb=>?_,fun L cb=>?_⟩
  ·exact zfg h1 cb.RF ci.tg.g.sorted tf.ll hq now (by rw[tk])
  ·have e:=cb.Hx
   rw[cF.x]at e
   exact zdB h2 e tf now (by rw[tk])
 ·right
  obtain⟨i,hid,hi⟩:=ci.tg.ids y hy
  have hw:S.τ.af[i]?=some (S.τ.af[i]):=List.getElem?_eq_getElem hi
  obtain⟨w,hwe⟩:∃w,w=S.τ.af[i]:=⟨_,rfl⟩
  rw[←hwe]at hw
  have o1:S.τ.one y.id=some w:=by rw[hid];exact zed hw
  have hc:=ci.on i w hw
  refine⟨x',y.id,w.kind,y.w,w.data,ci.take (by omega) hy hx' hz,HR,fun L cb=>?_,fun L S1 cb=>?_,y.w,w,tk,o1,rfl⟩
  ·refine (zff h1 cb.RF ci.tg.g.sorted tf.ll hq now tk o1 (x:=.tm) (fun a ha=>by rw[hc]at ha;cases ha)).mono ?_
   rintro _ L' ⟨sl,rfl,FN⟩
   rw[hc]at FN ⊢
   obtain⟨rfl,rfl⟩:=zau FN
   exact⟨rfl,rfl⟩
  ·have e:=cb.Hx
   rw[cF.x]at e
   refine (zdA h2 e tf now tk o1 (x:=.tm) rfl (by simp[Ch.tm]) (by simp[Ch.tm]) (fun a ha=>by rw[hc]at ha;cases ha)).mono ?_
   rintro _ L' ⟨sl,rfl,FN⟩
   rw[hc]at FN ⊢
   obtain⟨rfl,rfl⟩:=zau FN
   exact⟨rfl,rfl⟩
end
end
section
variable {F:Nat→Option aT}
theorem cE.waits {y:Ch}{k:Nat}(h:cE y k)(w:Wt):cE (y.waits w false).1 (k+1):=by
 have h':=h.mono (Nat.le_succ k)
 unfold Ch.waits
 split
 ·exact h'
 ·split
  ·exact h'
  ·split
   ·exact h'
   ·exact⟨h.aF,h.vals,h.bH,h.sig,h.cap,by have:=h.recvs;simp;omega⟩
theorem WK (hf:A8 F)(L:Lg)(w:Wt)(send:Bool):zd F ox [.p none,w.av,.b send] L fun v L'=>v=.i .i64 6∧L'=L:=by
 refine zr ?_
 intro Q hQ
 apply NN hf.code
 unfold Hq Wt.av
 simp only[zf,vu]
 rw[zL _ _ _ (Wt.eA w)]
 intro b0 hb0
 simp only[zf,Yc,Bool.not_false,z9]
 exact⟨L,((zQ.refl L).put hb0 _).cj,hQ _ _ ⟨rfl,rfl⟩⟩
def dn (σ:Cs)(id:Int):Option Nat:=match σ.one id with | some o=>o.c | none=>none
section
variable {L L2:Lg} {b s c u m:Nat} {now:Int} {S S' S1:CX} {ρ:Nat→Nat} {k:Nat}
theorem zdK (hf:pI F)(e:L c=some (.abs (YG c S.σ)))(id:Int):zd F gQ [.p (some (c,0)),.i .i64 id] L fun v L'=>v=.ay [ptr (dn S.σ id),.i .i64 (if S.σ.has id=true then 0 else 4)]∧L'=L:=zaE hf e id
theorem zdJ (hf:pq F)(e:L m=some (.abs (wy m S.σ)))(hn:Qa S.σ)(id:Int):zd F gN [.p (some (m,0)),.i .i64 id] L fun v L'=>v=.ay [ptr (dn S.σ id),.i .i64 (if S.σ.has id=true then 0 else 4)]∧L'=L:=zdI hf e hn id
theorem bx.one (h:bx ρ S S')(id:Int):S'.σ.one id=(S.σ.one id).map (rn ρ):=by
 unfold Cs.one
 rw[h.has,h.get]
 split<;>rfl
theorem bx.dn (h:bx ρ S S')(id:Int):dn S'.σ id=(dn S.σ id).map ρ:=by
 unfold Go.AM.dn
 rw[h.one]
 cases S.σ.one id<;>rfl
theorem zip {id:Int}{a:Nat}(h:dn S.σ id=some a):xi S a:=by
 unfold dn Cs.one at h
 split at h
 ·rename_i o ho
  split at ho
  ·exact⟨o,List.mem_of_getElem? ho,h⟩
  ·cases ho
 ·cases h
theorem zht (h:bx ρ S S'){a:Nat}(u:xi S a):xi S' (ρ a):=by
 obtain⟨x,hx,hc⟩:=u
 exact⟨rn ρ x,by rw[h.af];exact List.mem_map.2 ⟨x,hx,rfl⟩,by simp[rn,hc]⟩
theorem CB.zoy (h:CB L b s c u m now S S'){a:Nat}(ha:xi S a)(y:Ch):CB (L.put a (.abs (yy a y))) b s c u m now ({ S with χ:=xd S.χ a y }:CX) S':=by
 have pa:PN c S a:=.inr (.inr ha)
 obtain⟨x,hx,hc⟩:=ha
 have hch:=h.po.bB x hx a hc
 have ne:∀r d,r≠a→L r=some d→(L.put a (.abs (yy a y))) r=some d:=fun r d h1 h2=>by rw[zb _ _ _ h1];exact h2
 have Fs:∀r,PN m S' r→r≠a:=fun r hr=>by rintro rfl;exact h.ap r pa hr
 exact⟨ne _ _ (by rintro rfl;exact h.Mt h.gy pa) h.gy,ne _ _ (Ne.symm hch.1) h.pe,h.po.chan ⟨x,hx,hc⟩ y,ne _ _ (Fs m (.inl rfl)) h.re,⟨fun s' hs'=>⟨(h.ro.bQ s' hs').1,ne _ _ (Fs s' (.inr (.inl hs'))) (h.ro.bQ s' hs').2⟩,fun o ho a' gx=>⟨(h.ro.bB o ho a' gx).1,(h.ro.bB o ho a' gx).2.1,ne _ _ (Fs a' (.inr (.inr ⟨o,ho,gx⟩))) (h.ro.bB o ho a' gx).2.2⟩⟩,h.t,h.t',h.ap⟩
theorem CB.fj (h:CB L b s c u m now S S'){a:Nat}(ha:xi S' a)(y:Ch):CB (L.put a (.abs (YH a y))) b s c u m now S ({ S' with χ:=xd S'.χ a y }:CX):=by
 have pa:PN m S' a:=.inr (.inr ha)
 obtain⟨x,hx,hc⟩:=ha
 have hch:=h.ro.bB x hx a hc
 have ne:∀r d,r≠a→L r=some d→(L.put a (.abs (YH a y))) r=some d:=fun r d h1 h2=>by rw[zb _ _ _ h1];exact h2
 have Fs:∀r,PN c S r→r≠a:=fun r hr=>by rintro rfl;exact h.ap r hr pa
 refine⟨ne _ _ (by rintro rfl;exact h.Hw h.gy pa) h.gy,ne _ _ (Fs c (.inl rfl)) h.pe,⟨fun s' hs'=>⟨(h.po.bQ s' hs').1,ne _ _ (Fs s' (.inr (.inl hs'))) (h.po.bQ s' hs').2⟩,fun o ho a' gx=>⟨(h.po.bB o ho a' gx).1,(h.po.bB o ho a' gx).2.1,ne _ _ (Fs a' (.inr (.inr ⟨o,ho,gx⟩))) (h.po.bB o ho a' gx).2.2⟩⟩,ne _ _ (Ne.symm hch.1) h.re,⟨fun s' hs'=>⟨(h.ro.bQ s' hs').1,ne _ _ (by rintro rfl;exact hch.2.1 hs') (h.ro.bQ s' hs').2⟩,fun o ho a' gx=>?_⟩,h.t,h.t',h.ap⟩
 obtain⟨g1,g2,g3⟩:=h.ro.bB o ho a' gx
 refine⟨g1,g2,?_⟩
 by_cases e:a'=a
 ·subst e;rw[ze];simp[xd]
 ·rw[zb _ _ _ e,g3];simp[xd,e]
theorem CB.chP (h:CB L b s c u m now S S'){a:Nat}(ha:xi S a):L a=some (.abs (yy a (S.χ a))):=by obtain⟨x,hx,hc⟩:=ha;exact (h.po.bB x hx a hc).2.2
theorem CB.chR (h:CB L b s c u m now S S'){a:Nat}(ha:xi S' a):L a=some (.abs (YH a (S'.χ a))):=by obtain⟨x,hx,hc⟩:=ha;exact (h.ro.bB x hx a hc).2.2
end
section
variable {L L0:Lg} {b s c u m x3:Nat} {now:Int} {S S':CX} {ρ:Nat→Nat} {k cn:Nat} {kd n d:Int} {Q:AV→Lg→Prop}
end
end
section
variable {F:Nat→Option aT}
def Xj (σ:Cs)(id:Int):Int:=match σ.one id with | some o=>o.err | none=>0
def xR (σ:Cs)(id:Int):Int:=match σ.one id with | some o=>o.cause | none=>0
def ZK (σ:Cs)(id:Int):Int:=match σ.one id with | some o=>o.when | none=>0
def H8 (σ:Cs)(id:Int):Bool:=match σ.one id with | some o=>o.has | none=>false
def NZ (σ:Cs)(id:Int):Int:=if σ.has id=true then 0 else 4
section
variable {L L2:Lg} {b s c u m:Nat} {now:Int} {S S' S1:CX} {ρ:Nat→Nat} {k:Nat} {Q:AV→Lg→Prop}
theorem zfq (hf:BO F)(e:L c=some (.abs (YG c S.σ)))(id:Int):zd F gT [.p (some (c,0)),.i .i64 id] L fun v L'=>v=.ay [.i .i64 (Xj S.σ id),.i .i64 (NZ S.σ id)]∧L'=L:=zbB hf e id
theorem zbE (hf:BN F)(e:L c=some (.abs (YG c S.σ)))(id:Int):zd F gS [.p (some (c,0)),.i .i64 id] L fun v L'=>v=.ay [.i .i64 (xR S.σ id),.i .i64 (NZ S.σ id)]∧L'=L:=Ux hf e id
theorem za1 (hf:BP F)(e:L c=some (.abs (YG c S.σ)))(id:Int):zd F gV [.p (some (c,0)),.i .i64 id] L fun v L'=>v=.ay [.i .i64 (ZK S.σ id),.b (H8 S.σ id),.i .i64 (NZ S.σ id)]∧L'=L:=Uw hf e id
theorem zfp (hf:iz F)(e:L m=some (.abs (wy m S.σ)))(hn:Qa S.σ)(id:Int):zd F gM [.p (some (m,0)),.i .i64 id] L fun v L'=>v=.ay [.i .i64 (Xj S.σ id),.i .i64 (xR S.σ id),.i .i64 (NZ S.σ id)]∧L'=L:=zfo hf e hn id
theorem za0 (hf:iy F)(e:L m=some (.abs (wy m S.σ)))(hn:Qa S.σ)(id:Int):zd F gL [.p (some (m,0)),.i .i64 id] L fun v L'=>v=.ay [.i .i64 (ZK S.σ id),.b (H8 S.σ id),.i .i64 (NZ S.σ id)]∧L'=L:=zaZ hf e hn id
theorem bx.zoG (h:bx ρ S S')(id:Int):Xj S'.σ id=Xj S.σ id∧xR S'.σ id=xR S.σ id∧ZK S'.σ id=ZK S.σ id∧H8 S'.σ id=H8 S.σ id∧NZ S'.σ id=NZ S.σ id:=by
 unfold Xj xR ZK H8 NZ
 rw[h.one,h.has]
 cases S.σ.one id<;>exact⟨rfl,rfl,rfl,rfl,rfl⟩
end
end
section
variable {F:Nat→Option aT}
section
variable {L L0:Lg} {b s c u m k cn:Nat}
end
def Ye:bk:=⟨[],⟨[],0,fun _=>none⟩,0⟩
theorem zcx (t:Option Nat):(Cs.new t).af=[⟨0,true,none,0,0,0,false,false,-1⟩]∧(Cs.new t).ai=[]∧(Cs.new t).t=t:=⟨rfl,rfl,rfl⟩
theorem xJ (t:Option Nat)(τ:bk)(χ:Nat→Ch)(a:Nat):¬xi ⟨Cs.new t,τ,χ⟩ a:=by
 rintro⟨x,hx,hc⟩
 have hx':x∈(Cs.new t).af:=hx
 rw[(zcx t).1]at hx'
 simp at hx';subst hx';cases hc
theorem zjg (s:Nat):CI ⟨Cs.new (some s),Ye,fun _=>.sg⟩ 0:=by
 refine⟨zi6 _ _ _ (by simp[Ye]),fun j k x n hx=>by have:(Cs.new (some s)).ai[j]?=some x:=hx;rw[(zcx _).2.1]at this;simp at this,rfl,?_,fun i o ho=>by simp[Ye]at ho,fun a=>cE.sg 0⟩
 exact⟨⟨by simp[Ye],by simp[Ye],fun y h=>by simp[Ye]at h,by simp[Ye],by simp[Ye],by simp[Ye],fun y h=>by simp[Ye]at h,fun y h=>by simp[Ye]at h⟩,by simp[Ye],by simp[Ye],fun y h=>by simp[Ye]at h,fun i w h=>by simp[Ye]at h,fun i=>gG.tm 0⟩
theorem zhX (s u:Nat):bx id ⟨Cs.new (some s),Ye,fun _=>.sg⟩ ⟨Cs.new (some u),Ye,fun _=>.sg⟩:=⟨rfl,rfl,rfl,fun a h=>absurd h (xJ _ _ _ a),fun a b h=>absurd h (xJ _ _ _ a)⟩
theorem zb3:∀(l:List (Int×Int×Int)) (i k:Nat) (x:Int×Int×Int),l[i]?=some x→k<3→(Qg l)[i * 3+k]?=(t3 x)[k]?
 | [],i,k,x,h,_=>by simp at h
 | y::r,0,k,x,h,hk=>by
  simp at h;subst h
  simp only[Qg,List.flatMap_cons,Nat.zero_mul,Nat.zero_add]
  rw[List.getElem?_append_left (by simp[t3];omega)]
 | y::r,i+1,k,x,h,hk=>by
  have:=zb3 r i k x (by simpa using h) hk
  have e:(i+1) * 3+k=(t3 y).length+(i * 3+k):=by simp[t3];omega
  rw[e]
  simp only[Qg,List.flatMap_cons]
  rw[List.getElem?_append_right (by omega),Nat.add_sub_cancel_left]
  exact this
end
section
variable {F:Nat→Option aT}
theorem wI (hf:iw F){K:Lg}{a b:AV}{aN:List cx}{aJ:List (Int×Int)}{k:Nat}(ha:P9 K a aN)(hb:P9 K b aN)(ok:cg k aN aJ)(hk:k≤1000000):zd F dW [a,b] K fun v K'=>v=.b true∧K'=K:=by
 refine zr ?_
 intro Q hQ
 obtain⟨ps,oU,GS,MT⟩:=ha
 obtain⟨qs,Se,GQ,N8⟩:=hb
 have j5:ps.length=aN.length:=by rw[←oU,List.length_map]
 have hql:qs.length=aN.length:=by rw[←Se,List.length_map]
 have Fg:=ok.l
 apply Qq hf.code
 generalize hE:zI [a,b] 0=E
 have e0:E 0=a:=by rw[←hE];simp[zI]
 have e1:E 1=b:=by rw[←hE];simp[zI]
 clear hE
 have mT:=fun X k=>GS.len (F:=F) X k
 have iO:=fun X k=>GQ.len (F:=F) X k
 unfold qA qz
 have p0:(Env.put E 4 (.b false)) 0=a:=by simp[e0]
 have p1:(Env.put E 4 (.b false)) 1=b:=by simp[e1]
 generalize Env.put E 4 (.b false)=E1 at p0 p1
 have hne:¬((ps.length:Int)≠(qs.length:Int)):=by omega
 simp only[zf,p0,p1,mT,iO,wA]
 rw[decide_eq_false hne]
 simp only[zC]
 unfold qx qw
 obtain⟨I,hI⟩:∃I:Nat→Env→Lg→Prop,I=fun n E K'=>∃i:Nat,n+i=ps.length∧E 0=a∧E 1=b∧E 5=.i .i64 i∧K'=K:=⟨_,rfl⟩
 refine zN I ps.length ?_ ?_
 ·rw[hI];exact⟨0,by omega,by simp[p0],by simp[p1],by simp,rfl⟩
 intro n E t K' hi
 rw[hI]at hi
 obtain⟨i,hm,e0,e1,e5,rfl⟩:=hi
 unfold qv
 rw[e0,e5]
 simp only[zf,mT,yP,zM]
 refine⟨fun hlt=>?_,fun Bu=>?_⟩
 rotate_left
 ·unfold qy
  exact⟨K',zx.refl _,hQ _ _ ⟨rfl,rfl⟩⟩
 unfold lT
 rw[e0,e1,e5]
 have bK:i<ps.length:=by omega
 have hx:ps[i]?=some ps[i]:=List.getElem?_eq_getElem bK
 have hy:qs[i]?=some (qs[i]'(by omega)):=List.getElem?_eq_getElem (by omega)
 generalize ps[i]=p at hx
 generalize qs[i]'(by omega)=q at hy
 have hpq:p.1=q.1:=by
  have h1:aN[i]?=some p.1:=by rw[←oU,List.getElem?_map,hx];rfl
  have h2:aN[i]?=some q.1:=by rw[←Se,List.getElem?_map,hy];rfl
  rw[h1]at h2;exact Option.some.inj h2
 have w1:wr .i64 ((i:Int)+1)=((i+1:Nat):Int):=by rw[zT (by omega) (by omega)];omega
 obtain⟨b1,o1,g1,g2,_⟩:=GS.get (F:=F) hx
 obtain⟨b2,o2,g3,g4,_⟩:=GQ.get (F:=F) hy
 have ra:=fun (j:Nat) (hj:j<4)=>(g2 K' (zQ.refl _)).1 j hj
 have rb:=fun (j:Nat) (hj:j<4)=>(g4 K' (zQ.refl _)).1 j hj
 have a0:aq K' (b1,o1) none=some (.i .i64 p.1.id):=ra 0 (by omega)
 have a1:aq K' (b1,o1+1) none=some (.i .i64 p.1.err):=ra 1 (by omega)
 have a2:aq K' (b1,o1+2) none=some (.i .i64 p.1.cause):=ra 2 (by omega)
 have a3:aq K' (b1,o1+3) none=some p.2:=ra 3 (by omega)
 have c0:aq K' (b2,o2) none=some (.i .i64 p.1.id):=by rw[hpq];exact rb 0 (by omega)
 have c1:aq K' (b2,o2+1) none=some (.i .i64 p.1.err):=by rw[hpq];exact rb 1 (by omega)
 have c2:aq K' (b2,o2+2) none=some (.i .i64 p.1.cause):=by rw[hpq];exact rb 2 (by omega)
 have c3:aq K' (b2,o2+3) none=some q.2:=rb 3 (by omega)
 have hwp:=MT p (List.mem_of_getElem? hx)
 have hwq:=N8 q (List.mem_of_getElem? hy)
 rw[←hpq]at hwq
 have hmem:p.1∈aN:=by rw[←oU];exact List.mem_map.2 ⟨p,List.mem_of_getElem? hx,rfl⟩
 simp only[zf,g1,g3,zk,Nat.add_zero,zt,a0,c0,a1,c1,a2,c2,a3,c3,zg,wA,ne_eq,not_true_eq_false,decide_false,zw,yo,zW,xy]
 refine (zaY hf.f88 hwp hwq (Nat.le_trans (ok.w _ hmem) hk)).mono ?_
 rintro _ K2 ⟨rfl,rfl⟩
 rw[decide_eq_true (rfl:p.1.bG=p.1.bG)]
 simp only[zf,zw,yf,Bool.not_true,zW]
 unfold lS lU
 simp only[zf,zC,e5,y6,w1]
 rw[hI]
 exact⟨n-1,by omega,i+1,by omega,by simp[e0],by simp[e1],by simp,rfl⟩
theorem vB (hf:kz F){K:Lg}{a b:AV}{aJ:List (Int×Int)}(ha:Ah nZ 2 K a aJ)(hb:Ah nZ 2 K b aJ)(hl:aJ.length≤1000):zd F eK [a,b] K fun v K'=>v=.b true∧K'=K:=by
 refine zr ?_
 intro Q hQ
 apply Qp hf.code
 generalize hE:zI [a,b] 0=E
 have e0:E 0=a:=by rw[←hE];simp[zI]
 have e1:E 1=b:=by rw[←hE];simp[zI]
 clear hE
 have mT:=fun X k=>ha.len (F:=F) X k
 have iO:=fun X k=>hb.len (F:=F) X k
 unfold qu qt
 have p0:(Env.put E 4 (.b false)) 0=a:=by simp[e0]
 have p1:(Env.put E 4 (.b false)) 1=b:=by simp[e1]
 generalize Env.put E 4 (.b false)=E1 at p0 p1
 simp only[zf,p0,p1,mT,iO,wA,ne_eq,not_true_eq_false,decide_false,zC]
 unfold qp qo
 obtain⟨I,hI⟩:∃I:Nat→Env→Lg→Prop,I=fun n E K'=>∃i:Nat,n+i=aJ.length∧E 0=a∧E 1=b∧E 5=.i .i64 i∧K'=K:=⟨_,rfl⟩
 refine zN I aJ.length ?_ ?_
 ·rw[hI];exact⟨0,by omega,by simp[p0],by simp[p1],by simp,rfl⟩
 intro n E t K' hi
 rw[hI]at hi
 obtain⟨i,hm,e0,e1,e5,rfl⟩:=hi
 unfold qn
 rw[e0,e1,e5]
 simp only[zf,mT,yP,zM]
 refine⟨fun hlt=>?_,fun Bu=>?_⟩
 rotate_left
 ·unfold qq
  exact⟨K',zx.refl _,hQ _ _ ⟨rfl,rfl⟩⟩
 have bK:i<aJ.length:=by omega
 have hx:aJ[i]?=some aJ[i]:=List.getElem?_eq_getElem bK
 generalize aJ[i]=p at hx
 have w1:wr .i64 ((i:Int)+1)=((i+1:Nat):Int):=by rw[zT (by omega) (by omega)];omega
 obtain⟨b1,o1,g1,g2,_⟩:=ha.get (F:=F) hx
 obtain⟨b2,o2,g3,g4,_⟩:=hb.get (F:=F) hx
 have a0:aq K' (b1,o1) none=some (.i .i64 p.1):=(g2 K' (zQ.refl _)).1 0 (by omega)
 have a1:aq K' (b1,o1+1) none=some (.i .i64 p.2):=(g2 K' (zQ.refl _)).1 1 (by omega)
 have c0:aq K' (b2,o2) none=some (.i .i64 p.1):=(g4 K' (zQ.refl _)).1 0 (by omega)
 have c1:aq K' (b2,o2+1) none=some (.i .i64 p.2):=(g4 K' (zQ.refl _)).1 1 (by omega)
 simp only[zf,g1,g3,zk,Nat.add_zero,zt,a0,c0,a1,c1,zg,wA,ne_eq,not_true_eq_false,decide_false,zw,yo,zW,zC,y6,w1]
 rw[hI]
 exact⟨n-1,by omega,i+1,by omega,by simp[e0],by simp[e1],by simp,rfl⟩
def wz (J:CX→Int→Prop)(L0:Lg)(b s c u m k cn:Nat)(L:Lg):Prop:=(∃now ρ S S',CB L b s c u m now S S'∧bx ρ S S'∧CI S k∧S.τ.af.length≤cn∧J S now)∧∀q x,q≠b→L0 q=some (.raw x)→L q=some (.raw x)
section
variable {L L0:Lg} {b s c u m x3:Nat} {now:Int} {S S':CX} {ρ:Nat→Nat} {k cn:Nat} {kd n d:Int} {Q:AV→Lg→Prop}
theorem WX {J:CX→Int→Prop}(h1:kB F)(h2:kA F)(h3:iw F)(cb:CB L b s c u m now S S')(cF:bx ρ S S')(ci:CI S k)(hk:k≤800000)(Mb:S.τ.af.length≤cn)(hx:L x3=some (.raw (.cells [.i .i64 kd,.i .i64 n,.i .i64 d])))
  (hl:∀q x,q≠b→L0 q=some (.raw x)→L q=some (.raw x)) (hJ:∀a r,S.aL n a=some r→J r.1 now) (hQ:∀L2,wz J L0 b s c u m (k+100) (cn+1) L2→Q (.b true) L2):jb F Q (.p (some (b,0))) (.p (some (x3,0))) L:=by
 unfold jb
 have x1:aq L (x3,1) none=some (.i .i64 n):=by rw[zj hx];rfl
 simp only[zf,zh,zk,Nat.zero_add,zt,cb.b1,x1,zg]
 refine (zaG h1 (fun a ha=>?_) cb.pe cb.po).mono ?_
 ·obtain⟨r,_,_,e,_⟩:=YN ci (bx.refl S) n (a:=a) (a':=a) (fun _=>(cb.fresh ha).1) (fun _=>(cb.fresh ha).1)
  exact⟨r,e⟩
 rintro _ K1 ⟨a,r,v1,v2,aJ,ha,hr,rfl,cd,Mr⟩
 have cT:=cb.prog cd (fun q hq=>by
  obtain⟨g1,g2⟩:=ZV ci.wf hr
  by_cases h0:S.σ.room n=0
  ·rcases g1 q hq with h | rfl
   ·exact .inl h
   ·exact .inr (ha h0)
  ·rw[g2 h0]at hq;exact .inl hq)
 have hx1:=cb.ct cd hx
 simp only[zf,yi,List.getElem?_cons_zero,List.getElem?_cons_succ,zg]
 unfold qh
 have Ix:aq K1 (x3,1) none=some (.i .i64 n):=by rw[zj hx1];rfl
 simp only[zf,zh,zk,Nat.zero_add,zt,cT.b3,Ix,zg]
 have tf:aQ S'.τ k:=by rw[cF.x];exact ci.tg.tf (by omega)
 have wf':=cF.wf ci.wf
 refine (XQ h2 wf' (cF.ao ci.ao) tf cT.re cT.ro n).mono ?_
 rintro _ K2 ⟨a',r',w,v2',gJ,gx,hr',rfl,dr,rr,_⟩
 have hroom:S'.σ.room n=S.σ.room n:=cF.room n
 obtain⟨q,q',ρ',e1,e2,e3,e4,e5,e6,e7⟩:=YN ci cF n (a:=a) (a':=a') (fun h0=>(cb.fresh (ha h0)).1) (fun h0=>(cT.fresh (gx (by rw[hroom];exact h0))).2)
 rw[hr]at e1
 rw[hr']at e2
 cases e1
 cases e2
 have JB:=cT.Fu dr (UY wf' hr') (fun q hq=>by
  obtain⟨g1,g2⟩:=ZV wf' hr'
  by_cases h0:S'.σ.room n=0
  ·rcases g1 q hq with h | rfl
   ·exact .inl h
   ·exact .inr (gx h0)
  ·rw[g2 h0]at hq;exact .inl hq)
 have l1:=Mr.aN.1.mono (K':=K2) (fun q x hq=>cT.cR dr hq)
 rw[e4]at rr ⊢
 have l2:=rr.aN.1
 simp only[zf,yi,List.getElem?_cons_zero,List.getElem?_cons_succ,zg,YS,zw,yo,xy]
 refine (wI h3 l1 l2 e7 (by omega)).mono ?_
 rintro _ K3 ⟨rfl,rfl⟩
 simp only[zf,zV,zw,yo,YS]
 exact⟨K3,zx.refl _,hQ _ ⟨⟨now,ρ',r.1,r'.1,JB,e3,e5.mono (by omega),by rw[e6.af];omega,hJ _ _ hr⟩,fun q x hq Ff=>cT.cR dr (cb.ct cd (hl q x hq Ff))⟩⟩
end
section
variable {L L0:Lg} {b s c u m x3:Nat} {now:Int} {S S':CX} {ρ:Nat→Nat} {k cn:Nat} {kd n d:Int} {Q:AV→Lg→Prop}
theorem Wp {J:CX→Int→Prop}(h1:pN F)(h2:BM F)(h3:iw F)(cb:CB L b s c u m now S S')(cF:bx ρ S S')(ci:CI S k)(hk:k≤800000)(Mb:S.τ.af.length≤cn)(hx:L x3=some (.raw (.cells [.i .i64 kd,.i .i64 n,.i .i64 d])))
  (hl:∀q x,q≠b→L0 q=some (.raw x)→L q=some (.raw x)) (hJ:∀a r,S.aH n d now a=some r→J r.1 now) (hQ:∀L2,wz J L0 b s c u m (k+100) (cn+1) L2→Q (.b true) L2):gi F Q (.p (some (b,0))) (.p (some (x3,0))) L:=by
 unfold gi
 have x1:aq L (x3,1) none=some (.i .i64 n):=by rw[zj hx];rfl
 have x2:aq L (x3,2) none=some (.i .i64 d):=by rw[zj hx];rfl
 simp only[zf,zh,zk,Nat.zero_add,zt,cb.b1,x1,x2,cb.b4,zg]
 refine (Ut h1 (fun a ha=>?_) cb.pe cb.po).mono ?_
 ·obtain⟨r,_,_,e,_⟩:=XW ci (bx.refl S) (by omega) n d now (a:=a) (a':=a) (fun _=>(cb.fresh ha).1) (fun _=>(cb.fresh ha).1)
  exact⟨r,e⟩
 rintro _ K1 ⟨a,r,v1,v2,aJ,ha,hr,rfl,cd,Mr⟩
 have cT:=cb.prog cd (fun q hq=>by
  obtain⟨g1,g2⟩:=Y5 ci.wf hr
  by_cases h0:S.σ.room n=0
  ·rcases g1 q hq with h | rfl
   ·exact .inl h
   ·exact .inr (ha h0)
  ·rw[g2 h0]at hq;exact .inl hq)
 have hx1:=cb.ct cd hx
 simp only[zf,yi,List.getElem?_cons_zero,List.getElem?_cons_succ,zg]
 unfold lP
 have Ix:aq K1 (x3,1) none=some (.i .i64 n):=by rw[zj hx1];rfl
 have x2':aq K1 (x3,2) none=some (.i .i64 d):=by rw[zj hx1];rfl
 simp only[zf,zh,zk,Nat.zero_add,zt,cT.b3,Ix,x2',cT.b4,zg]
 have tf:aQ S'.τ k:=by rw[cF.x];exact ci.tg.tf (by omega)
 have wf':=cF.wf ci.wf
 refine (Xi h2 wf' (cF.ao ci.ao) tf (by rw[cF.x];exact ci.fF (by omega)) cT.re cT.ro n d now).mono ?_
 rintro _ K2 ⟨a',r',w,v2',gJ,gx,hr',rfl,dr,rr⟩
 have hroom:S'.σ.room n=S.σ.room n:=cF.room n
 obtain⟨q,q',ρ',e1,e2,e3,e4,e5,e7,e8⟩:=XW ci cF (by omega) n d now (a:=a) (a':=a') (fun h0=>(cb.fresh (ha h0)).1) (fun h0=>(cT.fresh (gx (by rw[hroom];exact h0))).2)
 rw[hr]at e1
 rw[hr']at e2
 cases e1
 cases e2
 have JB:=cT.Fu dr (zc7 wf' hr') (fun q hq=>by
  obtain⟨g1,g2⟩:=Y5 wf' hr'
  by_cases h0:S'.σ.room n=0
  ·rcases g1 q hq with h | rfl
   ·exact .inl h
   ·exact .inr (gx h0)
  ·rw[g2 h0]at hq;exact .inl hq)
 have l1:=Mr.aN.1.mono (K':=K2) (fun q x hq=>cT.cR dr hq)
 rw[e4]at rr ⊢
 have l2:=rr.aN.1
 simp only[zf,yi,List.getElem?_cons_zero,List.getElem?_cons_succ,zg,YS,zw,yo,xy]
 refine (wI h3 l1 l2 e7 (by omega)).mono ?_
 rintro _ K3 ⟨rfl,rfl⟩
 simp only[zf,zV,zw,yo,YS]
 exact⟨K3,zx.refl _,hQ _ ⟨⟨now,ρ',r.1,r'.1,JB,e3,e5.mono (by omega),by omega,hJ _ _ hr⟩,fun q x hq Ff=>cT.cR dr (cb.ct cd (hl q x hq Ff))⟩⟩
theorem WV {J:CX→Int→Prop}(h1:pM F)(h2:BL F)(cb:CB L b s c u m now S S')(cF:bx ρ S S')(ci:CI S k)(hk:k≤800000)(Mb:S.τ.af.length≤cn)(hx:L x3=some (.raw (.cells [.i .i64 kd,.i .i64 n,.i .i64 d])))
  (hl:∀q x,q≠b→L0 q=some (.raw x)→L q=some (.raw x)) (hJ:∀r,S.bF n=some r→J r.1 now) (hQ:∀L2,wz J L0 b s c u m (k+100) (cn+1) L2→Q (.b true) L2):gh F Q (.p (some (b,0))) (.p (some (x3,0))) L:=by
 unfold gh
 have x1:aq L (x3,1) none=some (.i .i64 n):=by rw[zj hx];rfl
 obtain⟨r,r',hr,e2,e3,e4,e5,e6⟩:=zdm ci cF n
 simp only[zf,zh,zk,Nat.zero_add,zt,cb.b1,x1,zg]
 refine (UM h1 hr cb.pe cb.po).mono ?_
 rintro _ K1 ⟨rfl,cd⟩
 have cT:=cb.prog cd (fun q hq=>.inl (XZ ci.wf hr 0 q hq))
 have hx1:=cb.ct cd hx
 have Ix:aq K1 (x3,1) none=some (.i .i64 n):=by rw[zj hx1];rfl
 simp only[zf,yi,List.getElem?_cons_zero,List.getElem?_cons_succ,zg,zh,zk,Nat.zero_add,zt,cT.b3,Ix]
 have tf:aQ S'.τ k:=by rw[cF.x];exact ci.tg.tf (by omega)
 have wf':=cF.wf ci.wf
 refine (XO h2 wf' tf cT.re cT.ro n).mono ?_
 rintro _ K2 ⟨q',hr',rfl,dr,_⟩
 rw[hr']at e2
 cases e2
 have JB:=cT.Fu dr (zef wf' hr') (fun q hq=>.inl (XZ wf' hr' 0 q hq))
 rw[e4]
 simp only[zf,yi,List.getElem?_cons_zero,List.getElem?_cons_succ,zg,YS,zw,yo,zV]
 exact⟨K2,zx.refl _,hQ _ ⟨⟨now,ρ,r.1,r'.1,JB,e3,e5.mono (by omega),by rw[e6.af];omega,hJ _ hr⟩,fun q x hq Ff=>cT.cR dr (cb.ct cd (hl q x hq Ff))⟩⟩
theorem WY {J:CX→Int→Prop}(h1:pK F)(h2:BK F)(h3:iw F)(h4:kz F)(cb:CB L b s c u m now S S')(cF:bx ρ S S')(ci:CI S k)(hk:k≤800000)(Mb:S.τ.af.length≤cn)(hx:L x3=some (.raw (.cells [.i .i64 kd,.i .i64 n,.i .i64 d])))
  (hl:∀q x,q≠b→L0 q=some (.raw x)→L q=some (.raw x)) (hJ:∀r,S.bC n d=some r→J r.1 now) (hQ:∀L2,wz J L0 b s c u m (k+100) (cn+1) L2→Q (.b true) L2):gf F Q (.p (some (b,0))) (.p (some (x3,0))) L:=by
 unfold gf
 have x1:aq L (x3,1) none=some (.i .i64 n):=by rw[zj hx];rfl
 have x2:aq L (x3,2) none=some (.i .i64 d):=by rw[zj hx];rfl
 obtain⟨r,r',hr,e2,e3,e4,e5,e6,e7⟩:=zeQ ci cF n d
 simp only[zf,zh,zk,Nat.zero_add,zt,cb.b1,x1,x2,zg]
 refine (zaI h1 hr cb.pe cb.po).mono ?_
 rintro _ K1 ⟨v1,v2,rfl,cd,Mr⟩
 have cT:=cb.prog cd (fun q hq=>.inl (xx (Ys ci.wf hr) hq))
 have hx1:=cb.ct cd hx
 simp only[zf,yi,List.getElem?_cons_zero,List.getElem?_cons_succ,zg]
 unfold lI
 have Ix:aq K1 (x3,1) none=some (.i .i64 n):=by rw[zj hx1];rfl
 have x2':aq K1 (x3,2) none=some (.i .i64 d):=by rw[zj hx1];rfl
 simp only[zf,zh,zk,Nat.zero_add,zt,cT.b3,Ix,x2',zg]
 have tf:aQ S'.τ k:=by rw[cF.x];exact ci.tg.tf (by omega)
 have wf':=cF.wf ci.wf
 refine (WO h2 wf' (cF.ao ci.ao) tf cT.re cT.ro n d).mono ?_
 rintro _ K2 ⟨q',w1,w2,hr',rfl,dr,rr,_⟩
 rw[hr']at e2
 cases e2
 have JB:=cT.Fu dr (zeh wf' hr') (fun q hq=>.inl (xx (Ys wf' hr') hq))
 have l1:=Mr.aN.1.mono (K':=K2) (fun q x hq=>cT.cR dr hq)
 have m1:=Mr.aN.2.IS (K':=K2) (fun q x hq=>cT.cR dr hq)
 rw[e4]at rr ⊢
 have l2:=rr.aN.1
 have m2:=rr.aN.2
 simp only[zf,yi,List.getElem?_cons_zero,List.getElem?_cons_succ,zg]
 refine (wI h3 l1 l2 e7 (by omega)).mono ?_
 rintro _ K3 ⟨rfl,rfl⟩
 simp only[zf,zw,yo,xy]
 refine (vB h4 m1 m2 e7.s).mono ?_
 rintro _ K4 ⟨rfl,rfl⟩
 simp only[zf,zV,zw,yo,YS]
 exact⟨K4,zx.refl _,hQ _ ⟨⟨now,ρ,r.1,r'.1,JB,e3,e5.mono (by omega),by rw[e6.af];omega,hJ _ hr⟩,fun q x hq Ff=>cT.cR dr (cb.ct cd (hl q x hq Ff))⟩⟩
theorem zaB {J:CX→Int→Prop}(h1:pL F)(h2:BJ F)(h4:kz F)(cb:CB L b s c u m now S S')(cF:bx ρ S S')(ci:CI S k)(hk:k≤800000)(Mb:S.τ.af.length≤cn)(hx:L x3=some (.raw (.cells [.i .i64 kd,.i .i64 n,.i .i64 d])))
  (hl:∀q x,q≠b→L0 q=some (.raw x)→L q=some (.raw x)) (hJ:∀r,S.bI n d=some r→J r.1 now) (hQ:∀L2,wz J L0 b s c u m (k+100) (cn+1) L2→Q (.b true) L2):gb F Q (.p (some (b,0))) (.p (some (x3,0))) L:=by
 unfold gb
 have x1:aq L (x3,1) none=some (.i .i64 n):=by rw[zj hx];rfl
 have x2:aq L (x3,2) none=some (.i .i64 d):=by rw[zj hx];rfl
 obtain⟨r,r',hr,e2,e3,e4,e5,e6,e7⟩:=zgq ci cF n d
 simp only[zf,zh,zk,Nat.zero_add,zt,cb.b1,x1,x2,zg]
 refine (zbJ h1 hr cb.pe cb.po).mono ?_
 rintro _ K1 ⟨v2,rfl,cd,ov,_⟩
 have cT:=cb.prog cd (fun q hq=>.inl (xx (X5 ci.wf hr) hq))
 have hx1:=cb.ct cd hx
 simp only[zf,yi,List.getElem?_cons_zero,List.getElem?_cons_succ,zg]
 unfold lF
 have Ix:aq K1 (x3,1) none=some (.i .i64 n):=by rw[zj hx1];rfl
 have x2':aq K1 (x3,2) none=some (.i .i64 d):=by rw[zj hx1];rfl
 simp only[zf,zh,zk,Nat.zero_add,zt,cT.b3,Ix,x2',zg]
 have tf:aQ S'.τ k:=by rw[cF.x];exact ci.tg.tf (by omega)
 have wf':=cF.wf ci.wf
 refine (V6 h2 wf' (cF.ao ci.ao) tf cT.re cT.ro n d).mono ?_
 rintro _ K2 ⟨q',w1,w2,hr',rfl,dr,rr⟩
 rw[hr']at e2
 cases e2
 have JB:=cT.Fu dr (zhz wf' hr') (fun q hq=>.inl (xx (X5 wf' hr') hq))
 have m1:=(Ah.Hy (cI.bD za4 ov)).IS (K':=K2) (fun q x hq=>cT.cR dr hq)
 rw[e4]at rr ⊢
 have m2:=rr.aN.2
 simp only[zf,yi,List.getElem?_cons_zero,List.getElem?_cons_succ,zg,YS,zw,yo,xy]
 refine (vB h4 m1 m2 e7).mono ?_
 rintro _ K4 ⟨rfl,rfl⟩
 simp only[zf,zV,zw,yo,YS]
 exact⟨K4,zx.refl _,hQ _ ⟨⟨now,ρ,r.1,r'.1,JB,e3,e5.mono (by omega),by rw[e6.af];omega,hJ _ hr⟩,fun q x hq Ff=>cT.cR dr (cb.ct cd (hl q x hq Ff))⟩⟩
theorem WW {J:CX→Int→Prop}(h1:pJ F)(h2:BI F)(cb:CB L b s c u m now S S')(cF:bx ρ S S')(ci:CI S k)(hk:k≤800000)(Mb:S.τ.af.length≤cn)(hx:L x3=some (.raw (.cells [.i .i64 kd,.i .i64 n,.i .i64 d])))
  (hl:∀q x,q≠b→L0 q=some (.raw x)→L q=some (.raw x)) (hJ:∀r,S.bg n=some r→J r.1 now) (hQ:∀L2,wz J L0 b s c u m (k+100) (cn+1) L2→Q (.b true) L2):ga F Q (.p (some (b,0))) (.p (some (x3,0))) L:=by
 unfold ga
 have x1:aq L (x3,1) none=some (.i .i64 n):=by rw[zj hx];rfl
 obtain⟨r,r',hr,e2,e3,e4,e5,e6⟩:=zdn ci cF n
 simp only[zf,zh,zk,Nat.zero_add,zt,cb.b1,x1,zg]
 refine (VV h1 hr cb.pe cb.po).mono ?_
 rintro _ K1 ⟨rfl,cd⟩
 have cT:=cb.prog cd (fun q hq=>.inl (xx (Yr ci.wf hr) hq))
 have hx1:=cb.ct cd hx
 have Ix:aq K1 (x3,1) none=some (.i .i64 n):=by rw[zj hx1];rfl
 simp only[zf,yi,List.getElem?_cons_zero,List.getElem?_cons_succ,zg,zh,zk,Nat.zero_add,zt,cT.b3,Ix]
 have tf:aQ S'.τ k:=by rw[cF.x];exact ci.tg.tf (by omega)
 have wf':=cF.wf ci.wf
 refine (XP h2 wf' tf cT.re cT.ro n).mono ?_
 rintro _ K2 ⟨q',hr',rfl,dr,_⟩
 rw[hr']at e2
 cases e2
 have JB:=cT.Fu dr (zeg wf' hr') (fun q hq=>.inl (xx (Yr wf' hr') hq))
 rw[e4]
 simp only[zf,yi,List.getElem?_cons_zero,List.getElem?_cons_succ,zg,zif,YS,zw,yo,zV]
 exact⟨K2,zx.refl _,hQ _ ⟨⟨now,ρ,r.1,r'.1,JB,e3,e5.mono (by omega),by rw[e6.af];omega,hJ _ hr⟩,fun q x hq Ff=>cT.cR dr (cb.ct cd (hl q x hq Ff))⟩⟩
end
section
variable {L L0:Lg} {b s c u m x3:Nat} {now:Int} {S S':CX} {ρ:Nat→Nat} {k cn:Nat} {kd n d:Int} {Q:AV→Lg→Prop}
theorem zaz {J:CX→Int→Prop}(h0:G8 F)(h1:Bc F)(h2:A9 F)(h3:pH F)(h4:BH F)(h5:iw F)(h6:kz F)
  (cb:CB L b s c u m now S S') (cF:bx ρ S S') (ci:CI S k) (hk:k≤800000) (Mb:S.τ.af.length≤cn) (zq0:cn≤90) (hx:L x3=some (.raw (.cells [.i .i64 kd,.i .i64 n,.i .i64 d])))
  (hl:∀q x,q≠b→L0 q=some (.raw x)→L q=some (.raw x)) (hJ0:J S (zB now (max d 0))) (hJ:∀(S1:CX) (q:Nat),CI S1 q→J S1 (zB now (max d 0))→∀(x':Xs) (id w:Int) (o:On),S1.τ.x.take (zB now (max d 0))=(x',(id,w,zB now (max d 0)),true)→S1.τ.one id=some o→CI ({ S1 with τ:={ S1.τ with x:=x' } }:CX) (q+1)→∀r,({ S1 with τ:={ S1.τ with x:=x' } }:CX).bO o.data=some r→J r.1 (zB now (max d 0))) (hQ:∀L2,wz J L0 b s c u m (k+100) (cn+1) L2→Q (.b true) L2) {E:Env} (e0:E 0=.p (some (b,0))) (e3:E 3=.p (some (x3,0))):fZ F Q E L:=by
 unfold fZ
 have x2:aq L (x3,2) none=some (.i .i64 d):=by rw[zj hx];rfl
 rw[e0,e3]
 have zpx:∀k:AV→Lg→Prop,za F .max [.i .i64 d,.i .i64 0] L k=k (.i .i64 (max d 0)) L:=by intro k;simp
 simp only[zf,zh,zk,Nat.zero_add,zt,cb.b4,x2,zg,zpx]
 refine Xg (u:=u) (zfT h0 now (max d 0) L) ?_
 rintro _ L' ⟨rfl,rfl⟩
 refine⟨_,cb.Hx,fun aK sv pv ov K o pk=>?_⟩
 have hbu:b≠u:=by rintro rfl;exact cb.Hw cb.gy (.inr (.inl cb.t'))
 have kb:=o.old b _ hbu cb.gy
 obtain⟨cy,MV⟩:∃cy,cy=zB now (max d 0):=⟨_,rfl⟩
 rw[←MV]at hJ0 hJ ⊢
 simp only[zf,zh,zk,Nat.zero_add,yj]
 rw[zD kb (by simp) rfl]
 simp only[List.set_cons_succ,List.set_cons_zero]
 have o1:=o.bY hbu cb.gy (.raw (.cells [.p (some (s,0)),.p (some (c,0)),.p (some (u,0)),.p (some (m,0)),.i .i64 cy]))
 have cT:=cb.RD cy
 have eI:∀q x,q≠b→L0 q=some (.raw x)→(L'.put b (.raw (.cells [.p (some (s,0)),.p (some (c,0)),.p (some (u,0)),.p (some (m,0)),.i .i64 cy]))) q=some (.raw x):=fun q x hq Ff=>by rw[zb _ _ _ hq];exact hl q x hq Ff
 generalize (K.put b (.raw (.cells [.p (some (s,0)),.p (some (c,0)),.p (some (u,0)),.p (some (m,0)),.i .i64 cy])))=K1 at o1
 generalize (L'.put b (.raw (.cells [.p (some (s,0)),.p (some (c,0)),.p (some (u,0)),.p (some (m,0)),.i .i64 cy])))=L1 at o1 cT eI
 unfold lu lq
 obtain⟨I,hI⟩:∃I:Nat→Env→Lg→Prop,I=fun q E K'=>∃(j:Nat) (Lb:Lg) (aK:List (Int×Int)) (sv pv ov:AV) (S1 H7:CX) (ρ1:Nat→Nat),q=due cy S1.τ.x.l∧aA Lb u H7.τ aK sv pv ov K'∧cD aK H7.τ.x∧CB Lb b s c u m cy S1 H7∧bx ρ1 S1 H7∧CI S1 (k+j)∧J S1 cy∧j+due cy S1.τ.x.l≤S.τ.af.length∧S1.τ.af.length=S.τ.af.length ∧
   (∀q x,q≠b→L0 q=some (.raw x)→Lb q=some (.raw x))∧E 0=.p (some (b,0))∧E 37=.i .i64 j:=⟨_,rfl⟩
 refine zN I (due cy S.τ.x.l) ?_ ?_
 ·rw[hI]
  exact⟨0,L1,aK,sv,pv,ov,S,S',ρ,rfl,o1,pk,cT,cF,ci,hJ0,by have:=ci.tg.few;have:=zjJ cy S.τ.x.l;omega,rfl,eI,by simp[e0],by simp⟩
 clear o1 cT eI kb o pk
 intro q E t K' hi
 rw[hI]at hi
 obtain⟨j,Lb,aK,sv,pv,ov,S1,H7,ρ1,rfl,o,pk,cb,Mq,ci1,j1,hj,hlen,eI,e0,e37⟩:=hi
 have rd:∀i,i<5→aq K' (b,i) none=([AV.p (some (s,0)),.p (some (c,0)),.p (some (u,0)),.p (some (m,0)),.i .i64 cy])[i]?:=fun i _=>zj (o.old b _ hbu cb.gy)
 have r0:aq K' (b,0) none=some (.p (some (s,0))):=rd 0 (by omega)
 have r2:aq K' (b,2) none=some (.p (some (u,0))):=rd 2 (by omega)
 have r4:aq K' (b,4) none=some (.i .i64 cy):=rd 4 (by omega)
 have hl3:=fun X k=>o.slO.len (F:=F) X k
 unfold lp
 rw[e0,e37]
 have hle:(j:Int)≤(H7.τ.af.length:Int):=by rw[Mq.x];omega
 simp only[zf,zh,zk,Nat.zero_add,Nat.add_zero,zt,r2,o.r3,zg,hl3,zd6]
 rw[decide_eq_true hle]
 simp only[z9]
 unfold kZ
 rw[e0]
 simp only[zf,zh,zk,Nat.zero_add,Nat.add_zero,zt,r0,r4,zg]
 have hpre:zx K' Lb:=o.back pk cb.Hx
 have Ii:k+j≤890000:=by omega
 have body:∀(ok:Bool) (fa:List AV) (Sa Sa':CX) (La:Lg),fa.length=7→fa.all AV.one=true→CB La b s c u m cy Sa H7→(∀q x,q≠b→L0 q=some (.raw x)→La q=some (.raw x)) →
   (∀Lc:Lg,CB Lc b s c u m cy Sa H7→zd F gB [.p (some (u,0)),.i .i64 cy] Lc fun v L'=>v=.ay [.agg fa,.b ok]∧CB L' b s c u m cy Sa Sa'∧∀q x,Lc q=some (.raw x)→L' q=some (.raw x)) →
   (∀(x8:Nat) (Lc:Lg),Lc x8=some (.raw (.cells fa))→CB Lc b s c u m cy Sa Sa'→(∀q x,q≠b→L0 q=some (.raw x)→Lc q=some (.raw x))→∀E2:Env,E2 0=.p (some (b,0))→E2 37=.i .i64 j→E2 38=.p (some (x8,0))→E2 39=.b ok→(∃x9,E2 40=.p (some (x9,0))∧Lc x9=some (.raw (.cells fa)))→eE F Q (fun E2 K2=>∃m,m<due cy S1.τ.x.l∧I m E2 K2) E2 Lc) →
   (∃w0 w1 w2 w4:Int,fa[0]?=some (.i .i64 w0)∧fa[1]?=some (.i .i64 w1)∧fa[2]?=some (.i .i64 w2)∧fa[4]?=some (.i .i64 w4)) →
   za F (.ext 0) [.ay [.agg fa,.b ok]] La fun v8 L8=>za F (.ext 1) [.ay [.agg fa,.b ok]] L8 fun v9 L9=>za F (.alloc [.i .i64 0,.i .i64 0,.i .i64 0,.i .i64 0,.i .i64 0,.sl none 0 0 0,.b false]) [] L9 fun v10 dG=>za F (.st 7) [v10,v8] dG fun _ gz=>fY F Q (fun E2 K2=>∃m,m<due cy S1.τ.x.l∧I m E2 K2) (Env.put (Env.put E 38 v10) 39 v9) gz:=by
  intro ok fa Sa Sa' La f7 f1 cba hla zlP next ⟨w0,w1,w2,w4,fa0,fa1,fa2,fa4⟩
  simp only[zf,yi,List.getElem?_cons_zero,List.getElem?_cons_succ,zg,y4]
  intro x8 GL
  rw[yj,zu (ze _ _ _) f1 f7 (by simp),zA,Vm f7]
  have cbb:=cba.sub (xW GL (.raw (.cells fa)))
  have hlb:∀q x,q≠b→L0 q=some (.raw x)→(La.put x8 (.raw (.cells fa))) q=some (.raw x):=fun q x h8 h9=>xW GL _ _ _ (hla q x h8 h9)
  have k8:(La.put x8 (.raw (.cells fa))) x8=some (.raw (.cells fa)):=ze _ _ _
  generalize (La.put x8 (.raw (.cells fa)))=Lc at cbb hlb k8
  unfold fY
  have g0:(Env.put (Env.put E 38 (.p (some (x8,0)))) 39 (.b ok)) 0=.p (some (b,0)):=by simp[e0]
  have g37:(Env.put (Env.put E 38 (.p (some (x8,0)))) 39 (.b ok)) 37=.i .i64 j:=by simp[e37]
  have g38:(Env.put (Env.put E 38 (.p (some (x8,0)))) 39 (.b ok)) 38=.p (some (x8,0)):=by simp
  have g39:(Env.put (Env.put E 38 (.p (some (x8,0)))) 39 (.b ok)) 39=.b ok:=by simp
  generalize (Env.put (Env.put E 38 (.p (some (x8,0)))) 39 (.b ok))=E1 at g0 g37 g38 g39
  rw[g0]
  simp only[zf,zh,zk,Nat.zero_add,Nat.add_zero,zt,cbb.b2,cbb.b4,zg]
  refine (zlP Lc cbb).mono ?_
  rintro _ Ld ⟨rfl,cbd,keep⟩
  simp only[zf,yi,List.getElem?_cons_zero,List.getElem?_cons_succ,zg,y4]
  intro x9 N4
  rw[yj,zu (ze _ _ _) f1 f7 (by simp),zA,Vm f7]
  have cbe:=cbd.sub (xW N4 (.raw (.cells fa)))
  have hle:∀q x,q≠b→L0 q=some (.raw x)→(Ld.put x9 (.raw (.cells fa))) q=some (.raw x):=fun q x h8 h9=>xW N4 _ _ _ (keep q x (hlb q x h8 h9))
  have k9:(Ld.put x9 (.raw (.cells fa))) x9=some (.raw (.cells fa)):=ze _ _ _
  have LR:(Ld.put x9 (.raw (.cells fa))) x8=some (.raw (.cells fa)):=xW N4 _ _ _ (keep _ _ k8)
  generalize (Ld.put x9 (.raw (.cells fa)))=Le at cbe hle k9 LR
  unfold kY
  have i0:(Env.put (Env.put E1 40 (.p (some (x9,0)))) 41 (.b ok)) 0=.p (some (b,0)):=by simp[g0]
  have i37:(Env.put (Env.put E1 40 (.p (some (x9,0)))) 41 (.b ok)) 37=.i .i64 j:=by simp[g37]
  have i38:(Env.put (Env.put E1 40 (.p (some (x9,0)))) 41 (.b ok)) 38=.p (some (x8,0)):=by simp[g38]
  have i39:(Env.put (Env.put E1 40 (.p (some (x9,0)))) 41 (.b ok)) 39=.b ok:=by simp[g39]
  have i40:(Env.put (Env.put E1 40 (.p (some (x9,0)))) 41 (.b ok)) 40=.p (some (x9,0)):=by simp
  have i41:(Env.put (Env.put E1 40 (.p (some (x9,0)))) 41 (.b ok)) 41=.b ok:=by simp
  generalize (Env.put (Env.put E1 40 (.p (some (x9,0)))) 41 (.b ok))=E2 at i0 i37 i38 i39 i40 i41
  rw[i38,i39,i40,i41]
  have zpq:∀k:AV→Lg→Prop,za F (.eq true .bool) [.b ok,.b ok] Le k=k (.b false) Le:=by intro k;cases ok<;>simp
  have p0:aq Le (x8,0) none=some (.i .i64 w0):=by rw[zj LR,fa0]
  have p1:aq Le (x8,1) none=some (.i .i64 w1):=by rw[zj LR,fa1]
  have p2:aq Le (x8,2) none=some (.i .i64 w2):=by rw[zj LR,fa2]
  have p4:aq Le (x8,4) none=some (.i .i64 w4):=by rw[zj LR,fa4]
  have q0:aq Le (x9,0) none=some (.i .i64 w0):=by rw[zj k9,fa0]
  have q1:aq Le (x9,1) none=some (.i .i64 w1):=by rw[zj k9,fa1]
  have q2:aq Le (x9,2) none=some (.i .i64 w2):=by rw[zj k9,fa2]
  have q4:aq Le (x9,4) none=some (.i .i64 w4):=by rw[zj k9,fa4]
  simp only[zf,zpq,zw,zk,Nat.zero_add,Nat.add_zero,zt,p0,p1,p2,p4,q0,q1,q2,q4,zg,wA,ne_eq,not_true_eq_false,decide_false,zW,zC]
  exact next x8 Le LR cbe hle E2 i0 i37 i38 i39 ⟨x9,i40,k9⟩
 refine zd.pre hpre ?_
 rcases (zjB (b:=b) (s:=s) (c:=c) (u:=u) (m:=m) h1 h2 Mq ci1 Ii cy).p with⟨f1,f2⟩ | ⟨x',id,kind,when,data,No,HR,f1,f2,fw,fo,ft,zp6,zp8⟩
 ·refine (f1 Lb cb).mono ?_
  rintro _ La ⟨rfl,rfl⟩
  refine body false (fcc 0 0 0 0 0) S1 H7 La rfl rfl cb eI (fun Lc F1=>(f2 Lc F1).mono ?_) ?_ ⟨0,0,0,0,rfl,rfl,rfl,rfl⟩
  ·rintro _ L' ⟨rfl,rfl⟩
   exact⟨rfl,F1,fun _ _ h=>h⟩
  ·intro x8 Lc k8 F1 hlc E2 g0 g37 g38 g39 _
   unfold eE
   rw[g39]
   simp only[zf,yf,Bool.not_false,z9]
   exact⟨Lc,zx.refl _,hQ _ ⟨⟨cy,ρ1,S1,H7,F1,Mq,ci1.mono (by omega),by omega,j1⟩,hlc⟩⟩
 ·refine (f1 Lb cb).mono ?_
  rintro _ La ⟨rfl,rfl⟩
  have cba:=cb.zox { S1.τ with x:=x' }
  have Qi:bx ρ1 ({ S1 with τ:={ S1.τ with x:=x' } }:CX) ({ H7 with τ:={ S1.τ with x:=x' } }:CX):=Mq.Bi _
  have hna:∀q x,Lb q=some (.raw x)→(Lb.put s (.abs (Z2 s { S1.τ with x:=x' }))) q=some (.raw x):=fun q x hq=>by
   rw[zb _ _ _ (by rintro rfl;rw[cb.RF]at hq;cases hq)];exact hq
  refine body true (fcc id kind when cy data) _ ({ H7 with τ:={ S1.τ with x:=x' } }:CX) _ rfl rfl cba (fun q x h8 h9=>hna q x (eI q x h8 h9)) (fun Lc F1=>(f2 Lc _ F1).mono ?_) ?_ ⟨id,kind,when,data,rfl,rfl,rfl,rfl⟩
  ·rintro _ L' ⟨rfl,rfl⟩
   exact⟨rfl,F1.zow _,fun q x hq=>by rw[zb _ _ _ (by rintro rfl;rw[F1.Hx]at hq;cases hq)];exact hq⟩
  ·intro x8 Lc k8 F1 hlc E2 g0 g37 g38 g39 ⟨x9,g40,k9⟩
   unfold eE
   rw[g39]
   simp only[zf,yf,Bool.not_true,zC]
   unfold kX
   rw[g0,g38]
   have p4:aq Lc (x8,4) none=some (.i .i64 data):=by rw[zj k8];rfl
   obtain⟨r,r',hr,e2,e3,e4,e5,e6,e7⟩:=zgp No Qi data
   simp only[zf,zh,zk,Nat.zero_add,zt,F1.b1,p4,zg]
   refine (zbg h3 hr F1.pe F1.po).mono ?_
   rintro _ L3 ⟨v1,v2,rfl,cd,Mr⟩
   have TX:=F1.prog cd (fun q hq=>.inl (xx (Y6 No.wf hr) hq))
   have k9':=F1.ct cd k9
   simp only[zf,yi,List.getElem?_cons_zero,List.getElem?_cons_succ,zg]
   unfold kW
   have j0:(Env.put (Env.put (Env.put E2 42 v1) 43 v2) 44 (.i .i64 r.2.2.2)) 0=.p (some (b,0)):=by simp[g0]
   have j37:(Env.put (Env.put (Env.put E2 42 v1) 43 v2) 44 (.i .i64 r.2.2.2)) 37=.i .i64 j:=by simp[g37]
   have j40:(Env.put (Env.put (Env.put E2 42 v1) 43 v2) 44 (.i .i64 r.2.2.2)) 40=.p (some (x9,0)):=by simp[g40]
   have j42:(Env.put (Env.put (Env.put E2 42 v1) 43 v2) 44 (.i .i64 r.2.2.2)) 42=v1:=by simp
   have j43:(Env.put (Env.put (Env.put E2 42 v1) 43 v2) 44 (.i .i64 r.2.2.2)) 43=v2:=by simp
   have j44:(Env.put (Env.put (Env.put E2 42 v1) 43 v2) 44 (.i .i64 r.2.2.2)) 44=.i .i64 r.2.2.2:=by simp
   generalize (Env.put (Env.put (Env.put E2 42 v1) 43 v2) 44 (.i .i64 r.2.2.2))=E3 at j0 j37 j40 j42 j43 j44
   rw[j0,j40,j42,j43,j44]
   have p9:aq L3 (x9,4) none=some (.i .i64 data):=by rw[zj k9'];rfl
   simp only[zf,zh,zk,Nat.zero_add,zt,TX.b3,p9,zg]
   have wf':=Qi.wf No.wf
   have tf:aQ ({ H7 with τ:={ S1.τ with x:=x' } }:CX).τ ((k+j+1:Nat):Int):=No.tg.tf (by omega)
   refine (V5 h4 wf' (Qi.ao No.ao) tf TX.re TX.ro data).mono ?_
   rintro _ L4 ⟨q',y1,y2,hr',rfl,dr,rr,_⟩
   rw[hr']at e2
   cases e2
   have F2:=TX.Fu dr (zgb wf' hr') (fun q hq=>.inl (xx (Y6 wf' hr') hq))
   have l1:=Mr.aN.1.mono (K':=L4) (fun q x hq=>TX.cR dr hq)
   have m1:=Mr.aN.2.IS (K':=L4) (fun q x hq=>TX.cR dr hq)
   rw[e4]at rr ⊢
   have l2:=rr.aN.1
   have m2:=rr.aN.2
   simp only[zf,yi,List.getElem?_cons_zero,List.getElem?_cons_succ,zg]
   refine (wI h5 l1 l2 e7 (by omega)).mono ?_
   rintro _ L5 ⟨rfl,rfl⟩
   simp only[zf,yf,Bool.not_true,zw,yo,xy]
   refine Xg (u:=u) (vB h6 m1 m2 e7.s) ?_
   rintro _ L6 ⟨rfl,rfl⟩
   refine⟨_,F2.Hx,fun dP ey fP ov' K6 o6 pk6=>?_⟩
   simp only[zf,yf,Bool.not_true,zw,yo,wA,ne_eq,not_true_eq_false,decide_false,zW,zC]
   unfold lg
   have w1:wr .i64 ((j:Int)+1)=((j+1:Nat):Int):=by rw[zT (by omega) (by omega)];omega
   have z37:(Env.put (Env.put (Env.put E3 45 y1) 46 y2) 47 (.i .i64 r.2.2.2)) 37=.i .i64 j:=by simp[j37]
   have z0:(Env.put (Env.put (Env.put E3 45 y1) 46 y2) 47 (.i .i64 r.2.2.2)) 0=.p (some (b,0)):=by simp[j0]
   generalize (Env.put (Env.put (Env.put E3 45 y1) 46 y2) 47 (.i .i64 r.2.2.2))=E4 at z37 z0
   rw[z37]
   simp only[zf,y6,w1]
   have Sv:=e6.due cy
   have j6:=e6.af
   simp only at Sv j6
   rw[hI]
   exact⟨due cy r.1.τ.x.l,by omega,j+1,L6,dP,ey,fP,ov',r.1,r'.1,ρ1,rfl,o6,pk6,F2,e3,by rw[show k+(j+1)=k+j+1 by omega];exact e5,hJ S1 _ ci1 j1 x' id fw fo ft zp6 No r (by rw[zp8];exact hr),by omega,by rw[j6];exact hlen,fun q x h8 h9=>TX.cR dr (F1.ct cd (hlc q x h8 h9)),by simp[z0],by simp⟩
end
section
variable {L L0:Lg} {b s c u m x3:Nat} {now:Int} {S S':CX} {ρ:Nat→Nat} {k cn:Nat} {kd n d:Int} {Q:AV→Lg→Prop}
theorem zay {J:CX→Int→Prop}(h1:pI F)(h2:pq F)(h3:A8 F)(h4:pU F)(cb:CB L b s c u m now S S')(cF:bx ρ S S')(ci:CI S k)(hk:k≤800000)(Mb:S.τ.af.length≤cn)(hx:L x3=some (.raw (.cells [.i .i64 kd,.i .i64 n,.i .i64 d])))
  (hl:∀q x,q≠b→L0 q=some (.raw x)→L q=some (.raw x)) (hJ:∀Aa,J ({ S with χ:=Aa }:CX) now) (hQ:∀L2,wz J L0 b s c u m (k+100) (cn+1) L2→Q (.b true) L2):fX F Q (.p (some (b,0))) (.p (some (x3,0))) L:=by
 unfold fX
 have x1:aq L (x3,1) none=some (.i .i64 n):=by rw[zj hx];rfl
 have x2:aq L (x3,2) none=some (.i .i64 d):=by rw[zj hx];rfl
 simp only[zf,zh,zk,Nat.zero_add,zt,cb.b1,x1,zg]
 refine (zdK h1 cb.pe n).mono ?_
 rintro _ K1 ⟨rfl,rfl⟩
 simp only[zf,yi,List.getElem?_cons_zero,List.getElem?_cons_succ,zg]
 unfold kT
 simp only[zf,zh,zk,Nat.zero_add,zt,cb.b3,x1,zg]
 refine (zdJ h2 cb.re (cF.wf ci.wf).nodes n).mono ?_
 rintro _ K2 ⟨rfl,rfl⟩
 rw[cF.dn,cF.has]
 have hb:∀k:AV→Lg→Prop,za F (.build [.i .i64 0,.i .i64 0,.i .i64 0] [(0,1)]) [.i .i64 d] K2 k=k (.agg (Wt.cells ⟨d,0,0⟩)) K2:=by
  intro k;simp[zF,zo,zp,zq,Wt.cells]
 simp only[zf,yi,List.getElem?_cons_zero,List.getElem?_cons_succ,zg,zk,Nat.zero_add,zt,x2,hb,y4]
 intro x4 Bq
 rw[yj,zu (ze _ _ _) (Wt.eA _) (Wt.dQ _) (by simp),zA,zb7]
 have F2:=cb.sub (xW Bq (.raw (.cells (Wt.cells ⟨d,0,0⟩))))
 have Ob:∀q x,q≠b→L0 q=some (.raw x)→(K2.put x4 (.raw (.cells (Wt.cells ⟨d,0,0⟩)))) q=some (.raw x):=fun q x h8 h9=>xW Bq _ _ _ (hl q x h8 h9)
 have k4:(K2.put x4 (.raw (.cells (Wt.cells ⟨d,0,0⟩)))) x4=some (.raw (.cells (Wt.cells ⟨d,0,0⟩))):=ze _ _ _
 generalize (K2.put x4 (.raw (.cells (Wt.cells ⟨d,0,0⟩))))=K4 at F2 Ob k4
 have r4:aq K4 (x4,0) (some 3)=some (Wt.av ⟨d,0,0⟩):=by rw[yc k4 (by simp[Wt.cells])];rfl
 have sw:ve (Wt.av ⟨d,0,0⟩) (Wt.av ⟨d,0,0⟩)=true:=by simp[Wt.av,Wt.cells,ve,Qe,Yg,wE]
 cases hd:dn S.σ n with
 | none =>
  have hp:∀k:AV→Lg→Prop,za F (.eq false .ptr) [.p none,.p none] K4 k=k (.b true) K4:=by intro k;simp
  simp only[zf,YS,zw,yo,Option.map_none,Ua,hp,zif,zV,zt,r4,zg,xy]
  refine (WK h3 K4 _ _).mono ?_
  rintro _ K5 ⟨rfl,rfl⟩
  simp only[zf,zw,yo,zt,r4,zg,xy]
  refine (VU h4 K5 _ _).mono ?_
  rintro _ K6 ⟨rfl,rfl⟩
  simp only[zf,zw,YS,zV]
  refine⟨⟨by simp[zaN,yb,yC,XT,r4,sw],trivial⟩,K6,zx.refl _,hQ _ ⟨⟨now,ρ,S,S',F2,cF,ci.mono (by omega),by omega,hJ S.χ⟩,Ob⟩⟩
 | some a =>
  have ua:=zip hd
  have ua':=zht cF ua
  have hp:∀(q:Nat) (k:AV→Lg→Prop),za F (.eq false .ptr) [.p (some (q,0)),.p none] K4 k=k (.b false) K4:=by intro q k;simp
  simp only[zf,YS,zw,yo,Option.map_some,V9,hp,zif,zV,zt,r4,zg,xy]
  have gd:=ci.ch a
  refine (zd9 h3 (F2.chP ua) ⟨d,0,0⟩ false (by have:=gd.recvs;simp[Ch.wait];omega) (by have:=gd.aF;simp[Ch.wait,this])).mono ?_
  rintro _ K5 ⟨rfl,rfl⟩
  have cb5:=F2.zoy ua ((S.χ a).waits ⟨d,0,0⟩ false).1
  have x4a:x4≠a:=by rintro rfl;rw[F2.chP ua]at k4;cases k4
  have k5:(K4.put a (.abs (yy a ((S.χ a).waits ⟨d,0,0⟩ false).1))) x4=some (.raw (.cells (Wt.cells ⟨d,0,0⟩))):=by rw[zb _ _ _ x4a];exact k4
  have hl5:∀q x,q≠b→L0 q=some (.raw x)→(K4.put a (.abs (yy a ((S.χ a).waits ⟨d,0,0⟩ false).1))) q=some (.raw x):=fun q x h8 h9=>by rw[zb _ _ _ (by rintro rfl;have:=Ob q x h8 h9;rw[F2.chP ua]at this;cases this)];exact Ob q x h8 h9
  generalize (K4.put a (.abs (yy a ((S.χ a).waits ⟨d,0,0⟩ false).1)))=K6 at cb5 k5 hl5
  have r5:aq K6 (x4,0) (some 3)=some (Wt.av ⟨d,0,0⟩):=by rw[yc k5 (by simp[Wt.cells])];rfl
  simp only[zf,zw,yo,zt,r5,zg,xy]
  have hχ:S'.χ (ρ a)=S.χ a:=cF.c a ua
  have e6:=cb5.chR ua'
  rw[hχ]at e6
  refine (zc5 h4 e6 gd.aF (by have:=gd.recvs;omega) ⟨d,0,0⟩).mono ?_
  rintro _ K7 ⟨rfl,rfl⟩
  have cb6:=cb5.fj ua' ((S.χ a).waits ⟨d,0,0⟩ false).1
  obtain⟨zoh,ci6⟩:=zhV ci cF ua (gd.waits ⟨d,0,0⟩) (by omega)
  simp only[zf,zw,YS,zV]
  refine⟨⟨by simp[zaN,yb,yC,XT,r4,r5,sw],trivial⟩,_,zx.refl _,hQ _ ⟨⟨now,ρ,_,_,cb6,zoh,ci6.mono (by omega),Nat.le_trans Mb (by omega),hJ _⟩,fun q x h8 h9=>?_⟩⟩
  rw[zb _ _ _ (fun h0=>by have:=hl5 q x h8 h9;rw[h0,e6]at this;cases this)];exact hl5 q x h8 h9
end
section
variable {L L0:Lg} {b s c u m k cn:Nat}
theorem zaA (hf:BG F){ps:List Int}{ls:List Bool}(zpN:wz (fun S now=>SV S ps ls now ZL) L0 b s c u m k cn L)(hk:k≤800000)(Mb:cn≤90)(kd n d:Int)(hk9:kd≠9):zd F jz [.p (some (b,0)),.agg [.i .i64 kd,.i .i64 n,.i .i64 d]] L fun v L'=>v=.b true∧wz (fun S now=>T2 S ps ls n (decide (kd≠3)) now) L0 b s c u m (k+100) (cn+1) L':=by
 refine zr ?_
 intro Q hQ
 obtain⟨⟨now,ρ,S,S',cb,cF,ci,hc,jv⟩,hl⟩:=zpN
 have j3:∀(S2:CX),kd≠3→T2 S2 ps ls n true now→T2 S2 ps ls n (decide (kd≠3)) now:=fun S2 h0 h=>by rw[decide_eq_true h0];exact h
 have Nc:∀L2,wz (fun S now=>T2 S ps ls n (decide (kd≠3)) now) L0 b s c u m (k+100) (cn+1) L2→Q (.b true) L2:=fun L2 h=>hQ _ _ ⟨rfl,h⟩
 apply Qo hf.code
 generalize hE:zI [AV.p (some (b,0)),.agg [.i .i64 kd,.i .i64 n,.i .i64 d]] 0=E
 have e0:E 0=.p (some (b,0)):=by rw[←hE];simp[zI]
 have e1:E 1=.agg [.i .i64 kd,.i .i64 n,.i .i64 d]:=by rw[←hE];simp[zI]
 clear hE
 unfold qm
 rw[e1]
 simp only[zf,vu]
 rw[zL _ _ _ rfl]
 intro x3 hx3
 have cT:=cb.sub (xW hx3 (.raw (.cells [.i .i64 kd,.i .i64 n,.i .i64 d])))
 have eI:∀q x,q≠b→L0 q=some (.raw x)→(L.put x3 (.raw (.cells [.i .i64 kd,.i .i64 n,.i .i64 d]))) q=some (.raw x):=fun q x h8 h9=>xW hx3 _ _ _ (hl q x h8 h9)
 have hx:(L.put x3 (.raw (.cells [.i .i64 kd,.i .i64 n,.i .i64 d]))) x3=some (.raw (.cells [.i .i64 kd,.i .i64 n,.i .i64 d])):=ze _ _ _
 generalize (L.put x3 (.raw (.cells [.i .i64 kd,.i .i64 n,.i .i64 d])))=L1 at cT eI hx
 unfold qk
 have f0:(Env.put (Env.put E 3 (.p (some (x3,0)))) 4 (.b false)) 0=.p (some (b,0)):=by simp[e0]
 have f3:(Env.put (Env.put E 3 (.p (some (x3,0)))) 4 (.b false)) 3=.p (some (x3,0)):=by simp
 generalize (Env.put (Env.put E 3 (.p (some (x3,0)))) 4 (.b false))=E1 at f0 f3
 have r0:aq L1 (x3,0) none=some (.i .i64 kd):=by rw[zj hx];rfl
 rw[f3]
 simp only[zf,zk,Nat.zero_add,zt,r0,zg]
 have g0:(Env.put E1 60 (.i .i64 kd)) 0=.p (some (b,0)):=by simp[f0]
 have g3:(Env.put E1 60 (.i .i64 kd)) 3=.p (some (x3,0)):=by simp[f3]
 have OD:(Env.put E1 60 (.i .i64 kd)) 60=.i .i64 kd:=by simp
 generalize (Env.put E1 60 (.i .i64 kd))=E2 at g0 g3 OD
 unfold qj qi
 rw[OD,g0,g3]
 simp only[zf,xw,zM]
 refine⟨fun hkd=>WX hf.f143 hf.Nl hf.Nk cT cF ci hk hc hx eI (fun a r hr=>j3 _ (by omega) (jv.G5 ci hr)) Nc,fun _=>?_⟩
 unfold lR lQ
 rw[OD,g0,g3]
 simp only[zf,xw,zM]
 refine⟨fun hkd=>Wp hf.f144 hf.zqg hf.Nk cT cF ci hk hc hx eI (fun a r hr=>j3 _ (by omega) (jv.deadline ci hr)) Nc,fun _=>?_⟩
 unfold lO lM
 rw[OD,g0,g3]
 simp only[zf,xw,zM]
 refine⟨fun hkd=>WV hf.f145 hf.zqf cT cF ci hk hc hx eI (fun r hr=>by rw[decide_eq_false (by omega)];exact jv.GF ci hr) Nc,fun _=>?_⟩
 unfold lK lJ
 rw[OD,g0,g3]
 simp only[zf,xw,zM]
 refine⟨fun _=>WY hf.f148 hf.zqe hf.Nk hf.TS cT cF ci hk hc hx eI (fun r hr=>.inl (jv.bC ci hr)) Nc,fun _=>?_⟩
 unfold lH lG
 rw[OD,g0,g3]
 simp only[zf,xw,zM]
 refine⟨fun _=>zaB hf.f146 hf.zqd hf.TS cT cF ci hk hc hx eI (fun r hr=>.inl (jv.after ci hr)) Nc,fun _=>?_⟩
 unfold lE lD
 rw[OD,g0,g3]
 simp only[zf,xw,zM]
 refine⟨fun _=>WW hf.f151 hf.zqc cT cF ci hk hc hx eI (fun r hr=>.inl (jv.Mm ci hr)) Nc,fun _=>?_⟩
 unfold lC lz
 rw[OD,g0,g3]
 simp only[zf,xw,zM]
 refine⟨fun _=>zaz hf.f65 hf.f48 hf.f87 hf.f160 hf.zqb hf.Nk hf.TS cT cF ci hk hc Mb hx eI (.inl (jv.time (by have:=jv.nw;unfold zB yx;omega) (by unfold zB yx;omega))) (fun S1 q ci1 j1 x' id w o ht ho No r hr=>by
  rcases j1 with j1 | j1
  ·obtain⟨sv,j,x,q1,q2,q3,q4⟩:=j1.znd ht ho
   rw[q1]at hr
   exact .inl (sv.bO No q2 q3 q4 hr)
  ·obtain⟨sv,j,x,q1,q2,q3,q4⟩:=j1.znd ht ho
   rw[q1]at hr
   exact .inr (sv.bO No q2 q3 q4 hr)) Nc g0 g3,fun _=>?_⟩
 unfold kV kU
 simp only[zf,xw,zM]
 refine⟨fun _=>zay hf.f157 hf.zqa hf.f98 hf.f100 cT cF ci hk hc hx eI (fun Aa=>.inl (jv.chan Aa)) Nc,fun _=>?_⟩
 unfold kS kR
 simp only[zf,xw,zM]
 refine⟨fun hkd=>absurd hkd hk9,fun _=>?_⟩
 unfold kQ ql
 exact⟨L1,zx.refl _,Nc _ ⟨⟨now,ρ,S,S',cT,cF,ci.mono (by omega),by omega,.inl jv⟩,eI⟩⟩
end
theorem Uo (hf:Gc F)(L0:Lg):zd F jM [] L0 fun v L=>∃b s c u m,L0 b=none∧v=.ay [.p (some (b,0)),.b true]∧wz (fun S now=>SV S [-1] [false] now ZL) L0 b s c u m 0 0 L:=by
 refine zr ?_
 intro Q hQ
 apply QN hf.code
 unfold sP
 refine (zec hf.f21).mono ?_
 rintro _ _ ⟨s,hs,rfl,rfl⟩
 have hb:∀(X:Lg) (k:AV→Lg→Prop),za F (.build [.sl none 0 0 0,.i .i64 0,.sl none 0 0 0,.sl none 0 0 0,.i .i64 0] []) [] X k=k (.agg [.sl none 0 0 0,.i .i64 0,.sl none 0 0 0,.sl none 0 0 0,.i .i64 0]) X:=fun X k=>by simp[zF]
 simp only[zf,hb,vu]
 rw[zL _ _ _ (by simp)]
 intro u hu
 have hus:u≠s:=by rintro rfl;rw[ze]at hu;cases hu
 obtain⟨L1,BC⟩:∃L1,L1=L0.put s (.abs (Z2 s Ye)):=⟨_,rfl⟩
 have zpZ:L0.put s (.abs (Z2 s ⟨[],⟨[],0,fun _=>none⟩,0⟩))=L1:=BC.symm
 rw[zpZ]at hu ⊢
 have ro:aA L1 u Ye [] (.sl none 0 0 0) (.sl none 0 0 0) (.sl none 0 0 0) (L1.put u (.raw (.cells [.sl none 0 0 0,.i .i64 0,.sl none 0 0 0,.sl none 0 0 0,.i .i64 0]))) :=
  ⟨by rw[ze];rfl,.inl (bu.nil _ _),.inl (bu.nil _ _),bu.nil _ _,(fun b h=>by cases h),(fun b h=>by cases h),(fun b h=>by cases h),fun r d hr hd=>by rw[zb _ _ _ hr];exact hd⟩
 have pk:cD [] Ye.x:=⟨List.Perm.refl _,fun j=>rfl⟩
 refine zd.pre (ro.shut pk) ?_
 obtain⟨L2,Ju⟩:∃L2,L2=L1.put u (.abs (YI u Ye)):=⟨_,rfl⟩
 rw[←Ju]
 refine (zbz hf.f122 L2 (some s)).mono ?_
 rintro _ _ ⟨c,hc,rfl,rfl⟩
 obtain⟨L3,Nf⟩:∃L3,L3=L2.put c (.abs (YG c (.new (some s)))):=⟨_,rfl⟩
 rw[←Nf]
 refine (zeR hf.f125 L3 (some u)).mono ?_
 rintro _ _ ⟨m,hm,rfl,rfl⟩
 obtain⟨L4,hL4⟩:∃L4,L4=L3.put m (.abs (wy m (.new (some u)))):=⟨_,rfl⟩
 rw[←hL4]
 have bT:∀(X:Lg) (k:AV→Lg→Prop),za F (.build [.p none,.p none,.p none,.p none,.i .i64 0] [(0,1),(1,1),(2,1),(3,1)]) [.p (some (s,0)),.p (some (c,0)),.p (some (u,0)),.p (some (m,0))] X k=k (.agg [.p (some (s,0)),.p (some (c,0)),.p (some (u,0)),.p (some (m,0)),.i .i64 0]) X:=fun X k=>by simp[zF,zo,zp,zq]
 rw[bT]
 simp only[zf,vu]
 rw[zL _ _ _ rfl]
 intro b gD
 -- who is where
 have es1:L1 s=some (.abs (Z2 s Ye)):=by rw[BC,ze]
 have es2:L2 s=some (.abs (Z2 s Ye)):=by rw[Ju,zb _ _ _ (Ne.symm hus)];exact es1
 have eu2:L2 u=some (.abs (YI u Ye)):=by rw[Ju,ze]
 have hcs:c≠s:=by rintro rfl;rw[es2]at hc;cases hc
 have hcu:c≠u:=by rintro rfl;rw[eu2]at hc;cases hc
 have k3:=xW hc (.abs (YG c (.new (some s))))
 rw[←Nf]at k3
 have ec3:L3 c=some (.abs (YG c (.new (some s)))):=by rw[Nf,ze]
 have hmc:m≠c:=by rintro rfl;rw[ec3]at hm;cases hm
 have hms:m≠s:=by rintro rfl;rw[k3 _ _ es2]at hm;cases hm
 have hmu:m≠u:=by rintro rfl;rw[k3 _ _ eu2]at hm;cases hm
 have k4:=xW hm (.abs (wy m (.new (some u))))
 rw[←hL4]at k4
 have em4:L4 m=some (.abs (wy m (.new (some u)))):=by rw[hL4,ze]
 have k5:=xW gD (.raw (.cells [.p (some (s,0)),.p (some (c,0)),.p (some (u,0)),.p (some (m,0)),.i .i64 0]))
 have eb5:(L4.put b (.raw (.cells [.p (some (s,0)),.p (some (c,0)),.p (some (u,0)),.p (some (m,0)),.i .i64 0]))) b=some (.raw (.cells [.p (some (s,0)),.p (some (c,0)),.p (some (u,0)),.p (some (m,0)),.i .i64 0])):=ze _ _ _
 have up:∀r x,L0 r=some x→L4 r=some x:=fun r x hr=>by
  refine k4 _ _ (k3 _ _ ?_)
  have h1:L1 r=some x:=by rw[BC];exact xW hs _ _ _ hr
  rw[Ju];exact xW hu _ _ _ h1
 have hb0:L0 b=none:=by
  cases h9:L0 b with
  | none=>rfl
  | some x=>rw[up _ _ h9]at gD;cases gD
 generalize (L4.put b (.raw (.cells [.p (some (s,0)),.p (some (c,0)),.p (some (u,0)),.p (some (m,0)),.i .i64 0])))=L5 at k5 eb5
 have cb:CB L5 b s c u m 0 ⟨Cs.new (some s),Ye,fun _=>.sg⟩ ⟨Cs.new (some u),Ye,fun _=>.sg⟩:=by
  refine⟨eb5,k5 _ _ (k4 _ _ ec3),⟨fun s' hs'=>?_,fun o ho a ha=>absurd ⟨o,ho,ha⟩ (xJ (some s) Ye (fun _=>.sg) a)⟩,k5 _ _ em4,⟨fun s' hs'=>?_,fun o ho a ha=>absurd ⟨o,ho,ha⟩ (xJ (some u) Ye (fun _=>.sg) a)⟩,rfl,rfl,?_⟩
  ·have:s'=s:=by have h1:some s=some s':=hs';cases h1;rfl
   subst this
   exact⟨Ne.symm hcs,k5 _ _ (k4 _ _ (k3 _ _ es2))⟩
  ·have:s'=u:=by have h1:some u=some s':=hs';cases h1;rfl
   subst this
   exact⟨Ne.symm hmu,k5 _ _ (k4 _ _ (k3 _ _ eu2))⟩
  ·rintro r (h1 | h1 | h1) (h2 | h2 | h2)
   ·exact hmc (h2.symm.trans h1)
   ·have:some u=some r:=h2
    cases this;exact hcu h1.symm
   ·exact xJ _ _ _ _ h2
   ·have:some s=some r:=h1
    cases this;exact hms h2.symm
   ·have g1:some s=some r:=h1
    have g2:some u=some r:=h2
    cases g1;cases g2;exact hus rfl
   ·exact xJ _ _ _ _ h2
   ·exact xJ _ _ _ _ h1
   ·exact xJ _ _ _ _ h1
   ·exact xJ _ _ _ _ h1
 have hp:∀(z:Nat) (X:Lg) (k:AV→Lg→Prop),za F (.eq true .ptr) [.p (some (z,0)),.p none] X k=k (.b true) X:=by intro z X k;simp
 simp only[zf,zh,zk,Nat.zero_add,zt,cb.b0,cb.b1,zg,hp,zw,yo,zV]
 exact⟨L5,zx.refl _,hQ _ _ ⟨b,s,c,u,m,hb0,rfl,⟨0,id,_,_,cb,zhX s u,zjg s,by simp[Ye],zi9 _ _ rfl _⟩,fun q x hq Ff=>k5 _ _ (up _ _ Ff)⟩⟩
end
section
variable {F:Nat→Option aT}
end
section
variable {F:Nat→Option aT}
theorem zea (x:View):(AV.agg (bJ x)).cellsOf=some (bJ x):=vN _ rfl
theorem zk4 {K:Lg}{v z1 z2 z3 z4 z5 z6:AV}{l:List View}{x:View}(h:bu K v (zl bJ l) l.length 6)(hn:l.length≤1000){k:AV→Lg→Prop}
  (hk:∀(v':AV) (K1:Lg),bu K1 v' (zl bJ (l++[x])) (l.length+1) 6→vX (au v) K K1→(∀b,au v'=some b→K b=none)→k v' K1) :
  za F (.aC [z1,z2,z3,z4,z5,z6] 1 6 [0]) [.agg (bJ x)] K fun s L=>za F (.app 6 48) [v,s] L k:=by
 rw[vt,yg (c:=bJ x) _ _ (by simp[y7,zF,zo,zp,zq,zea];rfl) rfl]
 intro b1 bP
 rw[Xz]
 have g1:(K.put b1 (.raw (.cells (bJ x)))) b1=some (.raw (.cells (bJ x))):=ze _ _ _
 have h1:bu (K.put b1 (.raw (.cells (bJ x)))) v (zl bJ l) l.length 6:=h.mono fun b G1=>zb _ _ _ (by rintro rfl;have:=h.block G1;rw[bP]at this;cases this)
 refine h1.app (m:=1) (by omega) rfl (by omega) (new:=bJ x) (by simp[zH,AB.read,cut,zp,bJ]) rfl rfl (by omega) ?_
 intro b2 K1 g hO
 have f2:b2≠b1∧K b2=none:=by
  have:=g.fresh
  have n1:b2≠b1:=by rintro rfl;rw[ze]at this;cases this
  rw[zb _ _ _ n1]at this
  exact⟨n1,this⟩
 refine hk _ _ (by rw[zU];simpa[zl]using hO) ?_ ?_
 ·intro r d hr hne
  have r1:r≠b1:=by rintro rfl;rw[bP]at hr;cases hr
  have r2:r≠b2:=by rintro rfl;rw[f2.2]at hr;cases hr
  rw[g.same r r2 hne,zb _ _ _ r1];exact hr
 ·intro b G1;simp[au]at G1;subst G1;exact f2.2
end
section
variable {F:Nat→Option aT}
def TR (x:Bool):List AV:=[.b x]
def WL (σ:Cs)(ps:List Int)(ls:List Bool)(i:Nat):View:=⟨ps[i]?.getD (-1),ls[i]?.getD false,Xj σ i,xR σ i,ZK σ i,H8 σ i⟩
def yW (σ:Cs)(ps:List Int)(ls:List Bool)(n:Nat):List View:=(List.range n).map (WL σ ps ls)
theorem zc6 (hf:pG F){L:Lg}{c:Nat}{S:CX}(e:L c=some (.abs (YG c S.σ))){pv lv:AV}{ps:List Int}{ls:List Bool}(hp:cI fI 1 L pv ps)(hl:cI TR 1 L lv ls)(hn:S.σ.af.length≤1000) :
  zd F jL [.p (some (c,0)),pv,lv] L fun v L'=>bu L' v (zl bJ (yW S.σ ps ls S.σ.af.length)) S.σ.af.length 6∧zQ L L':=by
 refine zr ?_
 intro Q hQ
 apply QM hf.code
 generalize hE:zI [AV.p (some (c,0)),pv,lv] 0=E
 have e0:E 0=.p (some (c,0)):=by rw[←hE];simp[zI]
 have e1:E 1=pv:=by rw[←hE];simp[zI]
 have e2:E 2=lv:=by rw[←hE];simp[zI]
 clear hE
 unfold sO sM
 have f0:(Env.put E 6 (.sl none 0 0 0)) 0=.p (some (c,0)):=by simp[e0]
 have f1:(Env.put E 6 (.sl none 0 0 0)) 1=pv:=by simp[e1]
 have f2:(Env.put E 6 (.sl none 0 0 0)) 2=lv:=by simp[e2]
 have f6:(Env.put E 6 (.sl none 0 0 0)) 6=.sl none 0 0 0:=by simp
 generalize (Env.put E 6 (.sl none 0 0 0))=E1 at f0 f1 f2 f6
 rw[f0]
 refine (zbA hf.f155 e).mono ?_
 rintro _ L1 ⟨rfl,rfl⟩
 unfold sK
 obtain⟨n,HO⟩:∃n,n=S.σ.af.length:=⟨_,rfl⟩
 rw[←HO]at hQ hn ⊢
 obtain⟨I,hI⟩:∃I:Nat→Env→Lg→Prop,I=fun q E K'=>∃i:Nat,q+i=n∧E 0=.p (some (c,0))∧E 1=pv∧E 2=lv∧E 10=.i .i64 n∧E 11=.i .i64 i∧zQ L1 K'∧bu K' (E 6) (zl bJ (yW S.σ ps ls i)) i 6∧∀b,au (E 6)=some b→L1 b=none:=⟨_,rfl⟩
 refine zN I n ?_ ?_
 ·rw[hI]
  exact⟨0,by omega,by simp[f0],by simp[f1],by simp[f2],by simp,by simp,zQ.refl _,by simp[f6];simpa[yW,zl]using bu.nil L1 6,fun b hb=>by simp[f6,au]at hb⟩
 intro q E t K' hi
 rw[hI]at hi
 obtain⟨i,hm,e0,e1,e2,FZ,TT,hs,ho,hfr⟩:=hi
 unfold sJ sH
 rw[FZ,TT]
 simp only[zf,yP,zM]
 refine⟨fun hlt=>?_,fun Bu=>?_⟩
 rotate_left
 ·unfold sN
  have:i=n:=by omega
  subst this
  exact⟨K',zx.refl _,hQ _ _ ⟨ho,hs⟩⟩
 unfold mw mu
 have hb:∀k:AV→Lg→Prop,za F (.build [.i .i64 0,.b false,.i .i64 0,.i .i64 0,.i .i64 0,.b false] [(0,1)]) [.i .i64 (-1)] K' k=k (.agg (bJ ⟨-1,false,0,0,0,false⟩)) K':=by
  intro k;simp[zF,zo,zp,zq,bJ]
 simp only[zf,hb]
 refine zbH ?_
 intro r hr
 have gv:=hs.put hr (.raw (.cells (bJ ⟨-1,false,0,0,0,false⟩)))
 have hg:(K'.put r (.raw (.cells (bJ ⟨-1,false,0,0,0,false⟩)))) r=some (.raw (.cells (bJ ⟨-1,false,0,0,0,false⟩))):=ze _ _ _
 have ju:L1 r=none:=hs.none hr
 have j6:bu (K'.put r (.raw (.cells (bJ ⟨-1,false,0,0,0,false⟩)))) (E 6) (zl bJ (yW S.σ ps ls i)) i 6:=ho.mono fun b hb=>by
  rw[zb];rintro rfl;have:=ho.block hb;rw[hr]at this;cases this
 have hne:au (E 6)≠some r:=fun h9=>by have:=ho.block h9;rw[hr]at this;cases this
 have ec:c≠r:=by rintro rfl;rw[ju]at e;cases e
 have Fv:∀(K:Lg) (cs:List AV),zQ L1 K→bu K (E 6) (zl bJ (yW S.σ ps ls i)) i 6→zQ L1 (K.put r (.raw (.cells cs)))∧bu (K.put r (.raw (.cells cs))) (E 6) (zl bJ (yW S.σ ps ls i)) i 6:=fun K cs h8 h9 =>
  ⟨fun b d hb=>by rw[zb _ _ _ (by rintro rfl;rw[ju]at hb;cases hb)];exact h8 b d hb,h9.mono fun b hb=>zb _ _ _ (by rintro rfl;exact hne hb)⟩
 generalize K'.put r (.raw (.cells (bJ ⟨-1,false,0,0,0,false⟩)))=K2 at gv hg j6
 rw[TT]
 have g0:(Env.put (Env.put E 7 (.i .i64 i)) 8 (.p (some (r,0)))) 0=.p (some (c,0)):=by simp[e0]
 have g1:(Env.put (Env.put E 7 (.i .i64 i)) 8 (.p (some (r,0)))) 1=pv:=by simp[e1]
 have g2:(Env.put (Env.put E 7 (.i .i64 i)) 8 (.p (some (r,0)))) 2=lv:=by simp[e2]
 have g6:(Env.put (Env.put E 7 (.i .i64 i)) 8 (.p (some (r,0)))) 6=E 6:=by simp
 have g7:(Env.put (Env.put E 7 (.i .i64 i)) 8 (.p (some (r,0)))) 7=.i .i64 i:=by simp
 have g8:(Env.put (Env.put E 7 (.i .i64 i)) 8 (.p (some (r,0)))) 8=.p (some (r,0)):=by simp
 have g10:(Env.put (Env.put E 7 (.i .i64 i)) 8 (.p (some (r,0)))) 10=.i .i64 n:=by simp[FZ]
 have g11:(Env.put (Env.put E 7 (.i .i64 i)) 8 (.p (some (r,0)))) 11=.i .i64 i:=by simp[TT]
 generalize (Env.put (Env.put E 7 (.i .i64 i)) 8 (.p (some (r,0))))=E2 at g0 g1 g2 g6 g7 g8 g10 g11
 have w1:wr .i64 ((i:Int)+1)=((i+1:Nat):Int):=by rw[zT (by omega) (by omega)];omega
 -- Bh last part
 have p16:∀(par:Int) (lk:Bool) (K:Lg),par=ps[i]?.getD (-1)→lk=ls[i]?.getD false→zQ L1 K→bu K (E 6) (zl bJ (yW S.σ ps ls i)) i 6→K r=some (.raw (.cells (bJ ⟨par,lk,0,0,0,false⟩)))→gm F Q (fun E2 K2=>∃m,m<q∧I m E2 K2) E2 K:=by
  intro par lk K hpar hlk h1 h2 h3
  unfold gm
  rw[g0,g6,g7,g8]
  have ek:=fun (K:Lg) (h:zQ L1 K)=>h c _ e
  refine (zfq hf.f149 (ek K h1) i).mono ?_
  rintro _ K3 ⟨rfl,rfl⟩
  simp only[zf,yi,List.getElem?_cons_zero,List.getElem?_cons_succ,zg,zk,Nat.zero_add,yj]
  rw[zD h3 (by simp[bJ]) rfl]
  obtain⟨h4,h5⟩:=Fv K3 ((bJ ⟨par,lk,0,0,0,false⟩).set 2 (.i .i64 (Xj S.σ i))) h1 h2
  have h6:(K3.put r (.raw (.cells ((bJ ⟨par,lk,0,0,0,false⟩).set 2 (.i .i64 (Xj S.σ i)))))) r=some (.raw (.cells (bJ ⟨par,lk,Xj S.σ i,0,0,false⟩))):=by rw[ze];rfl
  generalize (K3.put r (.raw (.cells ((bJ ⟨par,lk,0,0,0,false⟩).set 2 (.i .i64 (Xj S.σ i))))))=K4 at h4 h5 h6
  refine (zbE hf.f150 (ek K4 h4) i).mono ?_
  rintro _ K5 ⟨rfl,rfl⟩
  simp only[zf,yi,List.getElem?_cons_zero,List.getElem?_cons_succ,zg,zk,Nat.zero_add,yj]
  rw[zD h6 (by simp[bJ]) rfl]
  obtain⟨h7,h8⟩:=Fv K5 ((bJ ⟨par,lk,Xj S.σ i,0,0,false⟩).set 3 (.i .i64 (xR S.σ i))) h4 h5
  have h9:(K5.put r (.raw (.cells ((bJ ⟨par,lk,Xj S.σ i,0,0,false⟩).set 3 (.i .i64 (xR S.σ i)))))) r=some (.raw (.cells (bJ ⟨par,lk,Xj S.σ i,xR S.σ i,0,false⟩))):=by rw[ze];rfl
  generalize (K5.put r (.raw (.cells ((bJ ⟨par,lk,Xj S.σ i,0,0,false⟩).set 3 (.i .i64 (xR S.σ i))))))=K6 at h7 h8 h9
  refine (za1 hf.f147 (ek K6 h7) i).mono ?_
  rintro _ K7 ⟨rfl,rfl⟩
  simp only[zf,yi,List.getElem?_cons_zero,List.getElem?_cons_succ,zg,zk,Nat.zero_add,yj]
  rw[zD h9 (by simp[bJ]) rfl]
  obtain⟨a1,a2⟩:=Fv K7 ((bJ ⟨par,lk,Xj S.σ i,xR S.σ i,0,false⟩).set 4 (.i .i64 (ZK S.σ i))) h7 h8
  have a3:(K7.put r (.raw (.cells ((bJ ⟨par,lk,Xj S.σ i,xR S.σ i,0,false⟩).set 4 (.i .i64 (ZK S.σ i)))))) r=some (.raw (.cells (bJ ⟨par,lk,Xj S.σ i,xR S.σ i,ZK S.σ i,false⟩))):=by rw[ze];rfl
  generalize (K7.put r (.raw (.cells ((bJ ⟨par,lk,Xj S.σ i,xR S.σ i,0,false⟩).set 4 (.i .i64 (ZK S.σ i))))))=K8 at a1 a2 a3
  simp only[zf,zk,Nat.zero_add,yj]
  rw[zD a3 (by simp[bJ]) rfl]
  obtain⟨b1,b2⟩:=Fv K8 ((bJ ⟨par,lk,Xj S.σ i,xR S.σ i,ZK S.σ i,false⟩).set 5 (.b (H8 S.σ i))) a1 a2
  have b3:(K8.put r (.raw (.cells ((bJ ⟨par,lk,Xj S.σ i,xR S.σ i,ZK S.σ i,false⟩).set 5 (.b (H8 S.σ i)))))) r=some (.raw (.cells (bJ (WL S.σ ps ls i)))):=by rw[ze,hpar,hlk];rfl
  generalize (K8.put r (.raw (.cells ((bJ ⟨par,lk,Xj S.σ i,xR S.σ i,ZK S.σ i,false⟩).set 5 (.b (H8 S.σ i))))))=K9 at b1 b2 b3
  have r6:aq K9 (r,0) (some 6)=some (.agg (bJ (WL S.σ ps ls i))):=by rw[yc b3 (by simp[bJ])];rfl
  simp only[zf,zt,r6,zg]
  have hvl:(yW S.σ ps ls i).length=i:=by simp[yW]
  refine zk4 (l:=yW S.σ ps ls i) (x:=WL S.σ ps ls i) (by rw[hvl];exact b2) (by omega) ?_
  intro v' K10 o10 zoR zp5
  unfold mz
  have j11:(Env.put E2 6 v') 11=.i .i64 i:=by simp[g11]
  rw[j11]
  simp only[zf,y6,w1]
  rw[hI]
  refine⟨q-1,by omega,i+1,by omega,by simp[g0],by simp[g1],by simp[g2],by simp[g10],by simp,fun b d hb=>zoR b d (b1 b d hb) (fun h=>by have:=hfr b h;rw[hb]at this;cases this),?_,fun b hb=>?_⟩
  ·have hvs:yW S.σ ps ls (i+1)=yW S.σ ps ls i++[WL S.σ ps ls i]:=by simp[yW,List.range_succ]
   rw[hvs]
   rw[hvl]at o10
   simpa using o10
  ·have:K9 b=none:=zp5 b (by simpa using hb)
   exact b1.none this
 have p15:∀(par:Int) (K:Lg),par=ps[i]?.getD (-1)→zQ L1 K→bu K (E 6) (zl bJ (yW S.σ ps ls i)) i 6→K r=some (.raw (.cells (bJ ⟨par,false,0,0,0,false⟩)))→eG F Q (fun E2 K2=>∃m,m<q∧I m E2 K2) E2 K:=by
  intro par K hpar h1 h2 h3
  unfold eG
  have eI:=hl.mono h1
  have Fg:=fun X k=>eI.len (F:=F) X k
  rw[g2,g7,g8]
  simp only[zf,Fg,yP]
  by_cases bK:(i:Int)<(ls.length:Int)
  ·rw[decide_eq_true bK]
   have hx:ls[i]?=some (ls[i]'(by omega)):=List.getElem?_eq_getElem (by omega)
   generalize (ls[i]'(by omega))=x at hx
   obtain⟨bl,ol,q1,q2,_⟩:=eI.get (F:=F) hx
   have rl:aq K (bl,ol) none=some (.b x):=(q2 K (zQ.refl _)).1 0 (by omega)
   simp only[zf,zw,yo,q1,zt,rl,zg,zV,zk,Nat.zero_add,yj]
   rw[zD h3 (by simp[bJ]) rfl]
   obtain⟨h4,h5⟩:=Fv K ((bJ ⟨par,false,0,0,0,false⟩).set 1 (.b x)) h1 h2
   exact p16 par x _ hpar (by rw[hx];rfl) h4 h5 (by rw[ze];rfl)
  ·rw[decide_eq_false bK]
   simp only[zf,vI,xD,zW,zk,Nat.zero_add,yj]
   rw[zD h3 (by simp[bJ]) rfl]
   obtain⟨h4,h5⟩:=Fv K ((bJ ⟨par,false,0,0,0,false⟩).set 1 (.b false)) h1 h2
   exact p16 par false _ hpar (by rw[List.getElem?_eq_none (by omega)];rfl) h4 h5 (by rw[ze];rfl)
 unfold mq
 have oU:=hp.mono gv
 have j5:=fun X k=>oU.len (F:=F) X k
 rw[g1,g7,g8]
 simp only[zf,j5,yP,zM]
 refine⟨fun bK=>?_,fun bK=>?_⟩
 ·have hx:ps[i]?=some (ps[i]'(by omega)):=List.getElem?_eq_getElem (by omega)
  generalize (ps[i]'(by omega))=x at hx
  obtain⟨bl,ol,q1,q2,_⟩:=oU.get (F:=F) hx
  have rl:aq K2 (bl,ol) none=some (.i .i64 x):=(q2 K2 (zQ.refl _)).1 0 (by omega)
  simp only[zf,q1,zt,rl,zg,zk,Nat.zero_add,yj]
  rw[zD hg (by simp[bJ]) rfl]
  obtain⟨h4,h5⟩:=Fv K2 ((bJ ⟨-1,false,0,0,0,false⟩).set 0 (.i .i64 x)) gv j6
  exact p15 x _ (by rw[hx];rfl) h4 h5 (by rw[ze];rfl)
 ·exact p15 (-1) K2 (by rw[List.getElem?_eq_none (by omega)];rfl) gv j6 hg
end
section
variable {F:Nat→Option aT}
theorem zhW {σ:Cs}{i:Nat}{x:One}(h:σ.af[i]?=some x):σ.one (i:Int)=some x:=by
 have hi:=(List.getElem?_eq_some_iff.1 h).1
 have:σ.has (i:Int)=true:=by simp[Cs.has];omega
 simp[Cs.one,this,h]
theorem SV.view {S:CX}{ps:List Int}{ls:List Bool}{now:Int}(h:SV S ps ls now ZL){i:Nat}{x:One}(hx:S.σ.af[i]?=some x):∃p,ps[i]?=some p∧WL S.σ ps ls i=⟨p,!x.free,x.err,x.cause,x.when,x.has⟩:=by
 have hi:=(List.getElem?_eq_some_iff.1 hx).1
 have hp:ps[i]?=some (ps[i]'(by rw[h.l1];exact hi)):=List.getElem?_eq_getElem _
 generalize (ps[i]'(by rw[h.l1];exact hi))=p at hp
 refine⟨p,hp,?_⟩
 simp[WL,hp,h.lk i x hx,Xj,xR,ZK,H8,zhW hx]
theorem ZA {σ:Cs}{ps:List Int}{ls:List Bool}{n i:Nat}(hi:i<n):(yW σ ps ls n)[i]?=some (WL σ ps ls i):=by
 simp[yW,hi]
theorem zgc {S:CX}{ps:List Int}{ls:List Bool}{now:Int}(h:SV S ps ls now ZL):Vn (yW S.σ ps ls S.σ.af.length) now=true:=by
 have hlen:(yW S.σ ps ls S.σ.af.length).length=S.σ.af.length:=by simp[yW]
 have key:∀n,n≤S.σ.af.length→Zc (yW S.σ ps ls S.σ.af.length) now n=true:=by
  intro n
  induction n with
  | zero=>intro _;rfl
  | succ n ih =>
   intro hn
   have hx:S.σ.af[n]?=some S.σ.af[n]:=List.getElem?_eq_getElem (by omega)
   generalize S.σ.af[n]=x at hx
   obtain⟨p,hp,hv⟩:=h.view hx
   simp only[Zc]
   rw[ih (by omega),ZA (by omega),hv]
   simp only[Option.getD_some,Bool.true_and,LQ]
   have a1:(!(decide (p < -1)||decide ((n:Int)≤p)))=true:=by
    have:=h.pr n p hp
    have:¬p < -1∧¬(n:Int)≤p:=by omega
    simp[this]
   have a2:(⟨p,!x.free,x.err,x.cause,x.when,x.has⟩:View).code=true:=by
    unfold View.code
    rcases h.cd n x hx with⟨g1,g2⟩ | ⟨g1 | g1,g2⟩<;>simp[g1,g2]
   -- who is above
   have up:x.free=false→0≤p∧∃y,S.σ.af[p.toNat]?=some y∧∃p',Iz (yW S.σ ps ls S.σ.af.length) (⟨p,!x.free,x.err,x.cause,x.when,x.has⟩:View)=⟨p',!y.free,y.err,y.cause,y.when,y.has⟩:=by
    intro hf
    obtain⟨q,y,_,g1,g2,_⟩:=h.up n x hx hf
    rw[hp]at g1
    have:p=q:=by simpa using g1
    subst this
    obtain⟨p',_,uZ⟩:=h.view g2
    refine⟨by omega,y,by simpa using g2,p',?_⟩
    simp only[Iz,Int.toNat_natCast]
    rw[ZA (List.getElem?_eq_some_iff.1 g2).1,uZ];rfl
   have a3:(!Ie (⟨p,!x.free,x.err,x.cause,x.when,x.has⟩:View)||(⟨p,!x.free,x.err,x.cause,x.when,x.has⟩:View).bN (Iz (yW S.σ ps ls S.σ.af.length) (⟨p,!x.free,x.err,x.cause,x.when,x.has⟩:View)))=true:=by
    cases hf:x.free with
    | true=>simp[Ie]
    | false =>
     obtain⟨h0,y,hy,p',hu⟩:=up hf
     rw[hf]at hu
     rw[hu]
     obtain⟨g1,g2⟩:=h.hg n p.toNat x y hx hf (by rw[hp];congr 1;omega) hy
     have g1':y.err=0∨x.err≠0:=g1.resolve_left fun h=>h
     have b1:(decide (y.err=0)||!decide (x.err=0))=true:=by rcases g1' with g | g<;>simp[g]
     have b2:(!y.has||(x.has&&decide (x.when≤y.when)))=true:=by
      cases hb:y.has with
      | false=>rfl
      | true=>obtain⟨c1,c2⟩:=g2 hb;simp[c1,c2]
     simp only[View.bN,b1,b2,Bool.and_self,Bool.or_true]
   have a4:(!decide (x.err=2)||vv (yW S.σ ps ls S.σ.af.length) now (n+1) n||(Ie (⟨p,!x.free,x.err,x.cause,x.when,x.has⟩:View)&&decide ((Iz (yW S.σ ps ls S.σ.af.length) (⟨p,!x.free,x.err,x.cause,x.when,x.has⟩:View)).err=2)))=true:=by
    by_cases h2:x.err=2
    ·rcases h.ov n x hx h2 with⟨c1,c2⟩ | ⟨c1,q,y,c2,c3,c4⟩
     ·have:vv (yW S.σ ps ls S.σ.af.length) now (n+1) n=true:=by
       simp only[vv]
       rw[ZA (by omega),hv]
       simp[c1,c2]
      simp[this]
     ·obtain⟨h0,y',hy,p',hu⟩:=up c1
      rw[hu]
      rw[hp]at c2
      have:p=q:=by simpa using c2
      subst this
      rw[Int.toNat_natCast,c3]at hy
      cases hy
      simp[Ie,c1,c4]
    ·simp[h2]
   rw[a1,a2,a3,a4];rfl
 unfold Vn
 rw[hlen]
 exact key _ (Nat.le_refl _)
theorem zig (v:View)(L:Lg)(k:AV→Lg→Prop):za F (.eq true (.agg [(0,1),(1,0),(2,1),(3,1),(4,1),(5,0)])) [.agg (bJ v),.agg (bJ v)] L k=k (.b false) L:=by
 have:LN (bJ v) (bJ v) [(0,1),(1,0),(2,1),(3,1),(4,1),(5,0)]=some true:=by
  obtain⟨a,b,c,d,e,f⟩:=v
  cases b<;>cases f<;>simp[bJ,LN,P7,X9]
 rw[zbV,this];rfl
section
variable {L0:Lg} {b s c u m:Nat}
theorem CB.keep {L L2:Lg}{now:Int}{S S':CX}(h:CB L b s c u m now S S')(eb:L2 b=L b)(e:∀r P,L r=some (.abs P)→L2 r=some (.abs P)):CB L2 b s c u m now S S' :=
 ⟨by rw[eb];exact h.gy,e _ _ h.pe,⟨fun s' hs=>⟨(h.po.bQ s' hs).1,e _ _ (h.po.bQ s' hs).2⟩,fun o ho a ha=>⟨(h.po.bB o ho a ha).1,(h.po.bB o ho a ha).2.1,e _ _ (h.po.bB o ho a ha).2.2⟩⟩,e _ _ h.re,⟨fun s' hs=>⟨(h.ro.bQ s' hs).1,e _ _ (h.ro.bQ s' hs).2⟩,fun o ho a ha=>⟨(h.ro.bB o ho a ha).1,(h.ro.bB o ho a ha).2.1,e _ _ (h.ro.bB o ho a ha).2.2⟩⟩,h.t,h.t',h.ap⟩
theorem CB.N1 {L L2:Lg}{now:Int}{S S':CX}(h:CB L b s c u m now S S'){v:AV}{cs:List AV}{n z:Nat}(o:bu L v cs n z)(hb:au v≠some b)(k:vX (au v) L L2):CB L2 b s c u m now S S' :=
 h.keep (by rw[h.gy];exact k _ _ h.gy hb) (fun r P hr=>k r _ hr (fun h9=>by have:=o.block h9;rw[hr]at this;cases this))
structure BF (L0:Lg)(b s c u m:Nat)(a:AV)(i j:Nat)(E:Env)(K:Lg)(now:Int)(ρ:Nat→Nat)(S S':CX)(ps:List Int)(ls:List Bool):Prop where
 cb:CB K b s c u m now S S'
 cF:bx ρ S S'
 ci:CI S (100 * i)
 cn:S.τ.af.length≤i
 sv:SV S ps ls now ZL
 ro:∀q cs,L0 q=some (.raw (.ro cs))→K q=some (.raw (.ro cs))
 o5:bu K (E 5) (zl fI ps) ps.length 1
 o6:bu K (E 6) (zl TR ls) ls.length 1
 n5:au (E 5)≠some b
 n6:au (E 6)≠some b
 MC:∀q,au (E 5)=some q→au (E 6)≠some q
 e0:E 0=a
 e3:E 3=.p (some (b,0))
 e7:E 7=.i .i64 j
end
section
variable {L0:Lg} {b s c u m:Nat} {a:AV} {Q:AV→Lg→Prop}
theorem zbd (h4:iz F)(h5:iy F){i j:Nat}{E:Env}{K:Lg}{now:Int}{ρ:Nat→Nat}{S S':CX}{ps:List Int}{ls:List Bool}(li:BF L0 b s c u m a i j E K now ρ S S' ps ls)
  (hv:bu K (E 10) (zl bJ (yW S.σ ps ls S.σ.af.length)) S.σ.af.length 6) {k1:TK} (hk:∀E2:Env,BF L0 b s c u m a i j E2 K now ρ S S' ps ls→cP F Q k1 E2 K):fV F Q k1 E K:=by
 unfold fV kI
 have hwf:=li.ci.wf
 have hsz:=hwf.sz.1
 have hvl:(yW S.σ ps ls S.σ.af.length).length=S.σ.af.length:=by simp[yW]
 obtain⟨I,hI⟩:∃I:Nat→Env→Lg→Prop,I=fun q E2 K2=>∃k:Nat,q+k=S.σ.af.length∧K2=K∧BF L0 b s c u m a i j E2 K now ρ S S' ps ls∧E2 10=E 10∧E2 11=.i .i64 k:=⟨_,rfl⟩
 refine zN I S.σ.af.length ?_ ?_
 ·rw[hI]
  exact⟨0,by omega,rfl,⟨li.cb,li.cF,li.ci,li.cn,li.sv,li.ro,by simpa using li.o5,by simpa using li.o6,by simpa using li.n5,by simpa using li.n6,by simpa using li.MC,by simp[li.e0],by simp[li.e3],by simp[li.e7]⟩,by simp,by simp⟩
 intro q E2 t K2 hi
 rw[hI]at hi
 obtain⟨k,hq,rfl,l2,FZ,TT⟩:=hi
 unfold kH
 have sr:F4 K2 (E 10) (yW S.σ ps ls S.σ.af.length):=F4.bD (by rw[hvl];exact hv)
 have hl:=fun X k=>sr.len (F:=F) X k
 rw[hvl]at hl
 rw[FZ,TT]
 simp only[zf,hl,yP,zM]
 refine⟨fun hlt=>?_,fun _=>hk _ l2⟩
 have dA:k<S.σ.af.length:=by omega
 have hx:S.σ.af[k]?=some S.σ.af[k]:=List.getElem?_eq_getElem dA
 generalize S.σ.af[k]=x at hx
 obtain⟨p,hp,zqE⟩:=li.sv.view hx
 have hlk:=li.sv.lk k x hx
 unfold kF
 have wf':=li.cF.wf hwf
 have oa:=li.cF.zoG (k:Int)
 rw[l2.e3,TT]
 simp only[zf,zh,zk,Nat.zero_add,zt,li.cb.b3,zg]
 refine (zfp h4 li.cb.re wf'.nodes k).mono ?_
 rintro _ K3 ⟨rfl,rfl⟩
 simp only[zf,yi,List.getElem?_cons_zero,List.getElem?_cons_succ,zg]
 unfold kE
 obtain⟨E3,TH⟩:∃E3,E3=(Env.put (Env.put E2 12 (.i .i64 (Xj S'.σ k))) 13 (.i .i64 (xR S'.σ k))):=⟨_,rfl⟩
 have l3:BF L0 b s c u m a i j E3 K3 now ρ S S' ps ls:=by rw[TH];exact⟨l2.cb,l2.cF,l2.ci,l2.cn,l2.sv,l2.ro,by simpa using l2.o5,by simpa using l2.o6,by simpa using l2.n5,by simpa using l2.n6,by simpa using l2.MC,by simp[l2.e0],by simp[l2.e3],by simp[l2.e7]⟩
 have f10:E3 10=E 10:=by rw[TH];simp[FZ]
 have f11:E3 11=.i .i64 k:=by rw[TH];simp[TT]
 have f12:E3 12=.i .i64 (Xj S'.σ k):=by rw[TH];simp
 have f13:E3 13=.i .i64 (xR S'.σ k):=by rw[TH];simp
 rw[←TH]
 clear TH
 rw[l3.e3,f10,f11,f12,f13]
 simp only[zf,zh,zk,Nat.zero_add,zt,li.cb.b3,zg]
 refine (za0 h5 li.cb.re wf'.nodes k).mono ?_
 rintro _ K4 ⟨rfl,rfl⟩
 simp only[zf,yi,List.getElem?_cons_zero,List.getElem?_cons_succ,zg]
 obtain⟨b1,o1,g1,g2,_⟩:=sr.get (F:=F) (ZA dA)
 obtain⟨b5,o5,g3,g4,_⟩:=(cI.bD (fun _=>rfl) l3.o5:cI fI 1 K4 (E3 5) ps).get (F:=F) hp
 obtain⟨b6,o6,g5,g6,_⟩:=(cI.bD (fun _=>rfl) l3.o6:cI TR 1 K4 (E3 6) ls).get (F:=F) hlk
 have r1:=(g2 K4 (zQ.refl _)).2
 have r5:aq K4 (b5,o5) none=some (.i .i64 p):=(g4 K4 (zQ.refl _)).1 0 (by omega)
 have r6:aq K4 (b6,o6) none=some (.b (!x.free)):=(g6 K4 (zQ.refl _)).1 0 (by omega)
 have hb:∀κ:AV→Lg→Prop,za F (.build [.i .i64 0,.b false,.i .i64 0,.i .i64 0,.i .i64 0,.b false] [(0,1),(1,1),(2,1),(3,1),(4,1),(5,1)]) [.i .i64 p,.b (!x.free),.i .i64 (Xj S'.σ k),.i .i64 (xR S'.σ k),.i .i64 (ZK S'.σ k),.b (H8 S'.σ k)] K4 κ=κ (.agg (bJ (WL S.σ ps ls k))) K4:=by
  intro κ
  rw[oa.1,oa.2.1,oa.2.2.1,oa.2.2.2.1]
  simp[zF,zo,zp,zq,bJ,WL,hp,hlk]
 simp only[zf,g1,zt,r1,g3,r5,g5,r6,zg,hb,zig,zC]
 unfold kG
 have w1:wr .i64 ((k:Int)+1)=((k+1:Nat):Int):=by rw[zT (by omega) (by omega)];omega
 have j11:(Env.put (Env.put E3 15 (.i .i64 (ZK S'.σ k))) 16 (.b (H8 S'.σ k))) 11=.i .i64 k:=by simp[f11]
 rw[j11]
 simp only[zf,y6,w1]
 rw[hI]
 exact⟨q-1,by omega,k+1,by omega,rfl,⟨l3.cb,l3.cF,l3.ci,l3.cn,l3.sv,l3.ro,by simpa using l3.o5,by simpa using l3.o6,by simpa using l3.n5,by simpa using l3.n6,by simpa using l3.MC,by simp[l3.e0],by simp[l3.e3],by simp[l3.e7]⟩,by simp[f10],by simp⟩
theorem BF.env {i j:Nat}{E E2:Env}{K:Lg}{now:Int}{ρ:Nat→Nat}{S S':CX}{ps:List Int}{ls:List Bool}(l:BF L0 b s c u m a i j E K now ρ S S' ps ls)(h0:E2 0=E 0)(h3:E2 3=E 3)(h5:E2 5=E 5)(h6:E2 6=E 6)(h7:E2 7=E 7):BF L0 b s c u m a i j E2 K now ρ S S' ps ls :=
 ⟨l.cb,l.cF,l.ci,l.cn,l.sv,l.ro,by rw[h5];exact l.o5,by rw[h6];exact l.o6,by rw[h5];exact l.n5,by rw[h6];exact l.n6,by rw[h5,h6];exact l.MC,by rw[h0];exact l.e0,by rw[h3];exact l.e3,by rw[h7];exact l.e7⟩
theorem BF.mem {i j:Nat}{E:Env}{K K2:Lg}{now:Int}{ρ:Nat→Nat}{S S':CX}{ps:List Int}{ls:List Bool}(l:BF L0 b s c u m a i j E K now ρ S S' ps ls)(h:zQ K K2):BF L0 b s c u m a i j E K2 now ρ S S' ps ls :=
 ⟨l.cb.sub h,l.cF,l.ci,l.cn,l.sv,fun q cs hq=>h _ _ (l.ro q cs hq),l.o5.mono fun q hq=>by rw[l.o5.block hq];exact h _ _ (l.o5.block hq),l.o6.mono fun q hq=>by rw[l.o6.block hq];exact h _ _ (l.o6.block hq),l.n5,l.n6,l.MC,l.e0,l.e3,l.e7⟩
theorem zbe (h1:pG F)(h2:pg F)(h3:pF F)(h4:iz F)(h5:iy F){i j:Nat}{E:Env}{K:Lg}{now:Int}{ρ:Nat→Nat}{S S':CX}{ps:List Int}{ls:List Bool}(li:BF L0 b s c u m a i j E K now ρ S S' ps ls)
  {k1:TK} (hk:∀(E2:Env) (K2:Lg),BF L0 b s c u m a i j E2 K2 now ρ S S' ps ls→cP F Q k1 E2 K2):dH F Q k1 E K:=by
 unfold dH
 rw[li.e3]
 have hsz:=li.ci.wf.sz.1
 simp only[zf,zh,zk,Nat.zero_add,zt,li.cb.b1,zg]
 refine (zc6 h1 li.cb.pe (cI.bD (fun _=>rfl) li.o5) (cI.bD (fun _=>rfl) li.o6) (by omega)).mono ?_
 rintro v K2 ⟨ov,hs⟩
 unfold kJ
 have l2:BF L0 b s c u m a i j (Env.put E 10 v) K2 now ρ S S' ps ls:=(li.mem hs).env (by simp) (by simp) (by simp) (by simp) (by simp)
 have f10:(Env.put E 10 v) 10=v:=by simp
 generalize (Env.put E 10 v)=E2 at l2 f10
 have hvl:(yW S.σ ps ls S.σ.af.length).length=S.σ.af.length:=by simp[yW]
 have sr:F4 K2 v (yW S.σ ps ls S.σ.af.length):=F4.bD (by rw[hvl];exact ov)
 have hl:=fun X k=>sr.len (F:=F) X k
 rw[hvl]at hl
 rw[l2.e3,f10]
 simp only[zf,hl,zh,zk,Nat.zero_add,zt,l2.cb.b3,zg]
 refine (X6 h2 l2.cb.re).mono ?_
 rintro _ K3 ⟨rfl,rfl⟩
 have Si:S'.σ.af.length=S.σ.af.length:=li.cF.len
 rw[Si]
 have hdf:decide ((S.σ.af.length:Int)≠S.σ.af.length)=false:=by simp
 simp only[zf,wA]
 rw[hdf]
 simp only[zf,zw,yo,zh,zk,Nat.zero_add,zt,l2.cb.b4,zg,xy]
 refine (zdf h3 sr (by rw[hvl];omega) now).mono ?_
 rintro _ K4 ⟨rfl,rfl⟩
 rw[zgc li.sv]
 simp only[zf,yf,Bool.not_true,zw,yo,zW,zC]
 exact zbd h4 h5 l2 (by rw[f10];exact ov) fun E3 l3=>hk E3 _ l3
theorem ze0 (h0:BG F)(h1:pG F)(h2:pg F)(h3:pF F)(h4:iz F)(h5:iy F){i:Nat}(hi:i<60){j:Nat}{E:Env}{K:Lg}{now:Int}{ρ:Nat→Nat}{S S':CX}{ps:List Int}{ls:List Bool}(li:BF L0 b s c u m a i j E K now ρ S S' ps ls)
  {x8:Nat} {kd n d:Int} (e8:E 8=.p (some (x8,0))) (hx:K x8=some (.raw (.cells [.i .i64 kd,.i .i64 n,.i .i64 d]))) (hb8:x8≠b) (TL:au (E 5)≠some x8) (TJ:au (E 6)≠some x8) (hk9:kd≠9)
  {k1:TK} (hk:∀(E2:Env) (K2:Lg) (zoH:Int) (ρ2:Nat→Nat) (S2 S2':CX) (ps2:List Int) (ls2:List Bool),BF L0 b s c u m a (i+1) j E2 K2 zoH ρ2 S2 S2' ps2 ls2→cP F Q k1 E2 K2):fW F Q k1 E K:=by
 unfold fW
 rw[li.e3]
 simp only[zf,zh,zk,Nat.zero_add,zt,li.cb.b3,zg]
 refine (X6 h2 li.cb.re).mono ?_
 rintro _ K3 ⟨rfl,rfl⟩
 unfold kL
 rw[li.cF.len]
 have l2:BF L0 b s c u m a i j (Env.put E 9 (.i .i64 S.σ.af.length)) K3 now ρ S S' ps ls:=li.env (by simp) (by simp) (by simp) (by simp) (by simp)
 have f8:(Env.put E 9 (.i .i64 S.σ.af.length)) 8=.p (some (x8,0)):=by simp[e8]
 have f9:(Env.put E 9 (.i .i64 S.σ.af.length)) 9=.i .i64 S.σ.af.length:=by simp
 have f5:(Env.put E 9 (.i .i64 S.σ.af.length)) 5=E 5:=by simp
 have f6:(Env.put E 9 (.i .i64 S.σ.af.length)) 6=E 6:=by simp
 rw[←f5]at TL
 rw[←f6]at TJ
 generalize (Env.put E 9 (.i .i64 S.σ.af.length))=E2 at l2 f8 f9 TL TJ
 have r8:aq K3 (x8,0) (some 3)=some (.agg [.i .i64 kd,.i .i64 n,.i .i64 d]):=by rw[yc hx (by simp)];rfl
 rw[l2.e3,f8]
 simp only[zf,zt,r8,zg]
 refine (zaA (L0:=K3) (b:=b) (s:=s) (c:=c) (u:=u) (m:=m) (k:=100 * i) (cn:=i) h0 (ps:=ps) (ls:=ls) ⟨⟨now,ρ,S,S',l2.cb,l2.cF,l2.ci,l2.cn,l2.sv⟩,fun _ _ _ h=>h⟩ (by omega) (by omega) kd n d hk9).mono ?_
 rintro _ K4 ⟨rfl,⟨⟨HA,ρ4,S4,S4',F2,zj6,ci4,cn4,NK⟩,keep⟩⟩
 have nb5:∀q,au (E2 5)=some q→q≠b:=fun q hq=>by rintro rfl;exact l2.n5 hq
 have nb6:∀q,au (E2 6)=some q→q≠b:=fun q hq=>by rintro rfl;exact l2.n6 hq
 have o5:=l2.o5.mono (K':=K4) fun q hq=>by rw[l2.o5.block hq];exact keep _ _ (nb5 q hq) (l2.o5.block hq)
 have o6:=l2.o6.mono (K':=K4) fun q hq=>by rw[l2.o6.block hq];exact keep _ _ (nb6 q hq) (l2.o6.block hq)
 have Bq:=keep _ _ hb8 hx
 have ro4:∀q cs,L0 q=some (.raw (.ro cs))→K4 q=some (.raw (.ro cs)):=fun q cs hq=>keep _ _ (by rintro rfl;have:=l2.ro _ _ hq;rw[l2.cb.gy]at this;cases this) (l2.ro q cs hq)
 have hsz:=ci4.wf.sz.1
 have zo4:=l2.ci.wf.sz.1
 simp only[zf,yf,Bool.not_true,zC]
 unfold kK
 rw[l2.e3,f8,f9]
 simp only[zf,zh,zk,Nat.zero_add,zt,F2.b3,zg]
 refine (X6 h2 F2.re).mono ?_
 rintro _ K5 ⟨rfl,rfl⟩
 rw[zj6.len]
 simp only[zf,vT,zM]
 have l4:∀(E6:Env) (K6:Lg) (ps6:List Int) (ls6:List Bool),CB K6 b s c u m HA S4 S4'→SV S4 ps6 ls6 HA ZL→(∀q cs,L0 q=some (.raw (.ro cs))→K6 q=some (.raw (.ro cs)))→bu K6 (E6 5) (zl fI ps6) ps6.length 1→bu K6 (E6 6) (zl TR ls6) ls6.length 1→au (E6 5)≠some b→au (E6 6)≠some b→(∀q,au (E6 5)=some q→au (E6 6)≠some q)→E6 0=E2 0→E6 3=E2 3→E6 7=E2 7→dH F Q k1 E6 K6 :=
  fun E6 K6 ps6 ls6 a1 a2 a3 a4 a5 a6 a7 a8 a9 b1 b2=>zbe h1 h2 h3 h4 h5 (i:=i+1) ⟨a1,zj6,ci4,cn4,a2,a3,a4,a5,a6,a7,a8,by rw[a9];exact l2.e0,by rw[b1];exact l2.e3,by rw[b2];exact l2.e7⟩ fun E7 K7 l7=>hk E7 K7 _ _ _ _ _ _ l7
 have oU:=l2.sv.l1
 rcases NK with NK | NK
 ·have hle:=NK.l1
  refine⟨fun h9=>by exfalso;omega,fun _=>?_⟩
  exact l4 E2 _ ps ls F2 NK ro4 o5 o6 l2.n5 l2.n6 l2.MC rfl rfl rfl
 ·have hle:=NK.l1
  rw[List.length_append]at hle
  simp only[List.length_cons,List.length_nil]at hle
  refine⟨fun _=>?_,fun h9=>by exfalso;omega⟩
  have r80:aq K5 (x8,0) none=some (.i .i64 kd):=by rw[zj Bq];rfl
  have r81:aq K5 (x8,1) none=some (.i .i64 n):=by rw[zj Bq];rfl
  simp only[zf,zk,Nat.zero_add,zt,r81,zg]
  refine mI o5 (x:=.i .i64 n) rfl (by omega) (by omega) ?_
  intro v5 K6 q5 kp5 Jw
  have hp5:∀q,au (E2 5)=some q→K5 q=some (.raw (.cells (zl fI ps))):=fun q hq=>o5.block hq
  have zpr:au (E2 5)≠some x8:=TL
  have Ad:K6 x8=some (.raw (.cells [.i .i64 kd,.i .i64 n,.i .i64 d])):=kp5 _ _ Bq zpr
  have zk3:aq K6 (x8,0) none=some (.i .i64 kd):=by rw[zj Ad];rfl
  have o6':bu K6 (E2 6) (zl TR ls) ls.length 1:=kp5.aW o6 (fun q hq h9=>l2.MC q h9 hq)
  have cb6:CB K6 b s c u m HA S4 S4':=F2.N1 o5 l2.n5 kp5
  have ro6:∀q cs,L0 q=some (.raw (.ro cs))→K6 q=some (.raw (.ro cs)):=fun q cs hq=>kp5 _ _ (ro4 q cs hq) (fun h9=>by have:=o5.block h9;rw[ro4 q cs hq]at this;cases this)
  simp only[zf,zk,Nat.zero_add,zt,zk3,zg,wA]
  have FM:=l2.sv.l2
  refine mI o6' (x:=.b (decide (kd≠3))) rfl (by omega) (by omega) ?_
  intro v6 K7 q6 kp6 kj
  have MM:K7 x8=some (.raw (.cells [.i .i64 kd,.i .i64 n,.i .i64 d])):=kp6 _ _ Ad TJ
  have zoa:∀q,au v5=some q→au (E2 6)≠some q:=fun q hq h9=>by have:=Jw q hq;rw[o6.block h9]at this;cases this
  have q5':bu K7 v5 (zl fI ps++[.i .i64 n]) (ps.length+1) 1:=kp6.aW q5 (fun q hq h9=>zoa q hq h9)
  have cb7:CB K7 b s c u m HA S4 S4':=cb6.N1 o6' l2.n6 kp6
  have ro7:∀q cs,L0 q=some (.raw (.ro cs))→K7 q=some (.raw (.ro cs)):=fun q cs hq=>kp6 _ _ (ro6 q cs hq) (fun h9=>by have:=o6'.block h9;rw[ro6 q cs hq]at this;cases this)
  refine⟨⟨?_,trivial⟩,?_⟩
  ·simp[yb,yC,XT,r80,zk3,ve,Yg,wE,eP]
  ·refine l4 _ K7 (ps++[n]) (ls++[decide (kd≠3)]) cb7 NK ro7 ?_ ?_ ?_ ?_ ?_ (by simp) (by simp) (by simp)
   ·rw[zU,List.length_append];simpa[zl,fI]using q5'
   ·rw[zU,List.length_append];simpa[zl,TR]using q6
   ·have:au v5≠some b:=fun h9=>by have:=Jw b h9;rw[F2.gy]at this;cases this
    simpa using this
   ·have:au v6≠some b:=fun h9=>by have:=kj b h9;rw[cb6.gy]at this;cases this
    simpa using this
   ·intro q hq
    have hq':au v5=some q:=by simpa using hq
    have:au v6≠some q:=fun h9=>by have:=kj q h9;rw[q5.block hq']at this;cases this
    simpa using this
end
theorem WU (code:F oM=some (JC))(aw:F Bp=some zds)(h0:Gc F)(h1:BG F)(h2:pG F)(h3:pg F)(h4:pF F)(h5:iz F)(h6:iy F)
  {L0:Lg} (l:List (Int×Int×Int)) (a:AV) (ha:NG L0 a (Qg l) l.length 3):zd F oM [a] L0 fun v _=>v=.b true:=by
 refine zr ?_
 intro Q hQ
 have fin:∀L,zm (some (.b true)) Q L:=fun L=>⟨L,zx.refl _,hQ _ _ rfl⟩
 have awk:∀L,zd F Bp [] L fun Ml ku=>zm (some Ml) Q ku:=by
  intro L
  refine (zbj aw _).mono ?_
  rintro _ _ ⟨rfl,rfl⟩
  exact fin _
 apply Qn code
 generalize hE:zI [a] 0=E
 have e0:E 0=a:=by rw[←hE];simp[zI]
 clear hE
 unfold qg qf
 have f0:(Env.put E 2 (.b false)) 0=a:=by simp[e0]
 generalize Env.put E 2 (.b false)=E1 at f0
 rw[f0]
 simp only[zf,ha.len,vT,zM]
 refine⟨fun _=>awk _,fun hlen=>?_⟩
 unfold qe
 refine (Uo h0 L0).mono ?_
 rintro _ K0 ⟨b,s,c,u,m,hb0,rfl,⟨⟨now,ρ,S,S',cb,cF,ci,cn,sv⟩,keep⟩⟩
 simp only[zf,yi,List.getElem?_cons_zero,List.getElem?_cons_succ,zg]
 unfold qd
 have g0:(Env.put (Env.put E1 3 (.p (some (b,0)))) 4 (.b true)) 0=a:=by simp[f0]
 have g3:(Env.put (Env.put E1 3 (.p (some (b,0)))) 4 (.b true)) 3=.p (some (b,0)):=by simp
 have g4:(Env.put (Env.put E1 3 (.p (some (b,0)))) 4 (.b true)) 4=.b true:=by simp
 generalize (Env.put (Env.put E1 3 (.p (some (b,0)))) 4 (.b true))=E2 at g0 g3 g4
 rw[g4]
 simp only[zf,yf,Bool.not_true,zC]
 unfold qc
 refine zjh rfl ?_
 intro v5 K1 o5 k5 Jw
 unfold qb
 refine zjh rfl ?_
 intro v6 K2 o6 k6 kj
 unfold pZ kP
 have s1:zQ K0 K1:=fun r d hr=>k5.none_ hr
 have s2:zQ K1 K2:=fun r d hr=>k6.none_ hr
 have Ic:bu K2 v5 [.i .i64 (-1)] 1 1:=o5.mono fun q hq=>by rw[o5.block hq];exact s2 _ _ (o5.block hq)
 have li0:BF L0 b s c u m a 0 0 (Env.put (Env.put (Env.put E2 5 v5) 6 v6) 7 (.i .i64 0)) K2 now ρ S S' [-1] [false]:=by
  refine⟨cb.sub (s1.trans s2),cF,ci,cn,sv,fun q cs hq=>(s1.trans s2) _ _ (keep _ _ (by rintro rfl;rw[hb0]at hq;cases hq) hq),by simpa[zl,fI]using Ic,by simpa[zl,TR]using o6,?_,?_,?_,by simp[g0],by simp[g3],by simp⟩
  ·have:au v5≠some b:=fun h9=>by have:=Jw b h9;rw[cb.gy]at this;cases this
   simpa using this
  ·have:au v6≠some b:=fun h9=>by have:=kj b h9;rw[s1 _ _ cb.gy]at this;cases this
   simpa using this
  ·intro q hq
   have hq':au v5=some q:=by simpa using hq
   have:au v6≠some q:=fun h9=>by have:=kj q h9;rw[o5.block hq']at this;cases this
   simpa using this
 obtain⟨I,hI⟩:∃I:Nat→Env→Lg→Prop,I=fun n E K=>∃(i:Nat) (now:Int) (ρ:Nat→Nat) (S S':CX) (ps:List Int) (ls:List Bool),n+i=l.length∧BF L0 b s c u m a i i E K now ρ S S' ps ls:=⟨_,rfl⟩
 refine zN I l.length ?_ ?_
 ·rw[hI];exact⟨0,_,_,_,_,_,_,by omega,li0⟩
 clear li0 cb cF ci cn sv keep o5 o6 Ic s1 s2 k5 k6 Jw kj
 intro n0 E t K hi
 rw[hI]at hi
 obtain⟨i,now,ρ,S,S',ps,ls,hm,li⟩:=hi
 unfold kO
 rw[li.e0,li.e7]
 simp only[zf,ha.len,yP,zM]
 refine⟨fun bK=>?_,fun bK=>?_⟩
 rotate_left
 ·unfold qa
  exact awk _
 have zlL:i<l.length:=by omega
 have zqW:l.length≤60:=by omega
 obtain⟨bq,cap,rfl,Oh⟩:=ha.get zlL
 have hx:l[i]?=some l[i]:=List.getElem?_eq_getElem zlL
 obtain⟨⟨kd,n,d⟩,R5⟩:∃x,x=l[i]:=⟨_,rfl⟩
 rw[←R5]at hx
 have Sp:∀(X:Lg) (k:AV→Lg→Prop),za F (.aX 3) [.sl (some (bq,0)) l.length cap 0,.i .i64 i] X k=k (.p (some (bq,i * 3))) X:=fun X k=>by
  rw[yn F X k 3 bq 0 l.length cap 0 .i64 i (by omega) (by omega)];simp
 have hcs:=ha.1
 have cells:∀j,j<3→(Qg l)[i * 3+j]?=(t3 (kd,n,d))[j]?:=fun j hj=>zb3 l i j _ hx hj
 have r3:aq K (bq,i * 3) (some 3)=some (.agg [.i .i64 kd,.i .i64 n,.i .i64 d]):=by
  rw[V7 (li.ro _ _ Oh) (by omega)]
  have h0:=cells 0 (by omega);have h1:=cells 1 (by omega);have h2:=cells 2 (by omega)
  simp only[t3]at h0 h1 h2
  congr 2
  apply List.ext_getElem?
  intro j
  by_cases hj:j<3
  ·rw[List.getElem?_take_of_lt hj,List.getElem?_drop]
   have:j=0∨j=1∨j=2:=by omega
   rcases this with rfl | rfl | rfl
   ·exact h0
   ·exact h1
   ·exact h2
  ·rw[List.getElem?_eq_none (by simp;omega),List.getElem?_eq_none (by simp;omega)]
 unfold kN
 rw[li.e0,li.e7]
 simp only[zf,Sp,zt,r3,zg,y4]
 intro x8 GL
 rw[yj,zu (ze _ _ _) (by simp) (by simp) (by simp),zA]
 have zo5:zo [AV.i .i64 0,.i .i64 0,.i .i64 0] 0 [AV.i .i64 kd,.i .i64 n,.i .i64 d]=[.i .i64 kd,.i .i64 n,.i .i64 d]:=by simp[zo]
 rw[zo5]
 unfold kM
 have l2:BF L0 b s c u m (.sl (some (bq,0)) l.length cap 0) i i (Env.put E 8 (.p (some (x8,0)))) (K.put x8 (.raw (.cells [.i .i64 kd,.i .i64 n,.i .i64 d]))) now ρ S S' ps ls:=(li.mem (xW GL _)).env (by simp) (by simp) (by simp) (by simp) (by simp)
 have f8:(Env.put E 8 (.p (some (x8,0)))) 8=.p (some (x8,0)):=by simp
 have f5:(Env.put E 8 (.p (some (x8,0)))) 5=E 5:=by simp
 have f6:(Env.put E 8 (.p (some (x8,0)))) 6=E 6:=by simp
 have h8b:x8≠b:=by rintro rfl;rw[li.cb.gy]at GL;cases GL
 have TL:au (E 5)≠some x8:=fun h9=>by have:=li.o5.block h9;rw[GL]at this;cases this
 have TJ:au (E 6)≠some x8:=fun h9=>by have:=li.o6.block h9;rw[GL]at this;cases this
 rw[←f5]at TL
 rw[←f6]at TJ
 have hx:(K.put x8 (.raw (.cells [.i .i64 kd,.i .i64 n,.i .i64 d]))) x8=some (.raw (.cells [.i .i64 kd,.i .i64 n,.i .i64 d])):=ze _ _ _
 generalize (Env.put E 8 (.p (some (x8,0))))=E3 at l2 f8 TL TJ
 generalize (K.put x8 (.raw (.cells [.i .i64 kd,.i .i64 n,.i .i64 d])))=K3 at l2 hx
 have r80:aq K3 (x8,0) none=some (.i .i64 kd):=by rw[zj hx];rfl
 have w1:wr .i64 ((i:Int)+1)=((i+1:Nat):Int):=by rw[zT (by omega) (by omega)];omega
 rw[f8]
 simp only[zf,zk,Nat.zero_add,zt,r80,zg,xw,zM]
 refine⟨fun _=>?_,fun h9=>?_⟩
 ·unfold cP
  rw[l2.e7]
  simp only[zf,y6,w1]
  rw[hI]
  refine⟨n0-1,by omega,i+1,now,ρ,S,S',ps,ls,by omega,?_⟩
  exact⟨l2.cb,l2.cF,l2.ci.mono (by omega),by have:=l2.cn;omega,l2.sv,l2.ro,by simpa using l2.o5,by simpa using l2.o6,by simpa using l2.n5,by simpa using l2.n6,by simpa using l2.MC,by simp[l2.e0],by simp[l2.e3],by simp⟩
 ·refine ze0 h1 h2 h3 h4 h5 h6 (by omega) l2 f8 hx h8b TL TJ h9 ?_
  intro E4 K4 HA ρ4 S4 S4' ps4 ls4 l4
  unfold cP
  rw[l4.e7]
  simp only[zf,y6,w1]
  rw[hI]
  refine⟨n0-1,by omega,i+1,HA,ρ4,S4,S4',ps4,ls4,by omega,?_⟩
  exact⟨l4.cb,l4.cF,l4.ci,l4.cn,l4.sv,l4.ro,by simpa using l4.o5,by simpa using l4.o6,by simpa using l4.n5,by simpa using l4.n6,by simpa using l4.MC,by simp[l4.e0],by simp[l4.e3],by simp⟩
end
end Go.AM
