/- The texts LibCtxO, LibCtxP, LibLaw, LibLapseA, LibScriptA, LibScriptB, LibScriptC, LibScriptD, LibLapseD, LibScriptE, LibScriptF, LibRefB, LibRefC, LibRefD, LibRefE, LibRefG, LibRefH, LibRefI, LibRefJ, LibCtxQ, LibCtxR, LibRefK, LibGO of a proof of LapseSound, merged. -/
import Derived.Test.YtbpoekdljkkkpaaGreatLapseSoundG5
set_option linter.unusedVariables false
set_option linter.unusedSimpArgs false
namespace Go.AM
section
theorem gH.back {ns ms:List Nd}{parent:Int}{lk:Bool}(h:gH ns parent lk ms){j:Nat}{m:Nd}(hm:ms[j]?=some m):(j<ns.length∧∃n,ns[j]?=some n∧m.parent=n.parent∧m.linked=n.linked)∨(j=ns.length∧m.parent=parent∧m.linked=lk):=by
 have hj:j<ms.length:=(List.getElem?_eq_some_iff.1 hm).1
 rw[h.len]at hj
 by_cases e:j<ns.length
 ·obtain⟨m',h1,h2,h3⟩:=h.old j _ (List.getElem?_eq_getElem e)
  rw[hm]at h1;cases h1
  exact .inl ⟨e,_,List.getElem?_eq_getElem e,h2,h3⟩
 ·have:j=ns.length:=by omega
  subst this
  obtain⟨m',h1,h2,h3⟩:=h.new
  rw[hm]at h1;cases h1
  exact .inr ⟨rfl,h2,h3⟩
theorem gH.kids {ns ms:List Nd}{parent:Int}{lk:Bool}(h:gH ns parent lk ms){k:Int}(hk:zK ns k=[])(hp:parent≠k∨lk=false):zK ms k=[]:=by
 rw[List.eq_nil_iff_forall_not_mem]
 intro i hi
 obtain⟨m,h1,h2,h3⟩:=xK.1 hi
 rcases h.back h1 with⟨_,n,e1,e2,e3⟩ | ⟨_,e2,e3⟩
 ·have:i∈zK ns k:=xK.2 ⟨n,e1,by rw[←e3];exact h2,by rw[←e2];exact h3⟩
  rw[hk]at this;cases this
 ·rcases hp with hp | hp
  ·exact hp (by rw[←e2];exact h3)
  ·rw[h2]at e3;rw[hp]at e3;cases e3
theorem WF.node {S:CX}(h:WF S){p:Nat}{up:One}(aI:S.σ.af[p]?=some up):YQ S.σ.tree up.node=true∧up.node≠-1:=by
 obtain⟨k,h1,h2,_⟩:=h.bS p up aI
 refine⟨?_,by omega⟩
 simp[YQ,h1];omega
theorem WF.Bm {S:CX}(h:WF S){p j:Nat}{up:One}{x:cK}(aI:S.σ.af[p]?=some up)(hx:S.σ.ai[j]?=some x):up.node≠x.node:=by
 intro e
 obtain⟨k,h1,h2,h3⟩:=h.bS p up aI
 obtain⟨k',g1,g2,g3,_⟩:=h.eJ j x hx
 have:k=k':=by omega
 subst this
 rw[h3]at g3;simp at g3;omega
theorem WF.add {S:CX}(h:WF S){p:Nat}{up o:One}{Aa:Nat→Ch}(aI:S.σ.af[p]?=some up)(hlen:S.σ.af.length<64)(ho:o.err=0)
  (hχ:∀a n,(S.χ a).recvs.length+(S.χ a).aF.length≤n→(Aa a).recvs.length+(Aa a).aF.length≤n) (hc:∀a,o.c=some a→(Aa a).recvs.length+(Aa a).aF.length≤1000000) :
  WF ({ S with σ:=S.σ.add o up.node,χ:=Aa }:CX)∧(S.σ.add o up.node).af=S.σ.af++[{ o with node:=S.σ.tree.length,timer:=-1 }]∧gH S.σ.tree up.node (!o.free) (S.σ.add o up.node).tree∧(S.σ.add o up.node).who=yM S.σ.who S.σ.tree.length (some (S.σ.af.length:Int)):=by
 have hn:=h.node aI
 have hlt:S.σ.tree.length<1000:=by have:=h.len;have:=h.sz;omega
 obtain⟨ms,e,had⟩:=Vf (linked:=!o.free) h.tr hlt (.inr hn.1)
 have hlk:((!o.free)&&decide (up.node≠-1))=!o.free:=by simp[hn.2]
 rw[hlk]at had
 have eo:(S.σ.add o up.node).af=S.σ.af++[{ o with node:=S.σ.tree.length,timer:=-1 }]:=by simp[Cs.add,e]
 have et:(S.σ.add o up.node).tree=ms:=by simp[Cs.add,e]
 have ew:(S.σ.add o up.node).who=yM S.σ.who S.σ.tree.length (some (S.σ.af.length:Int)):=by simp[Cs.add,e]
 have ea:(S.σ.add o up.node).ai=S.σ.ai:=rfl
 have og:∀(w:Nat) (x:One),(S.σ.add o up.node).af[w]?=some x→(w<S.σ.af.length∧S.σ.af[w]?=some x)∨(w=S.σ.af.length∧x={ o with node:=S.σ.tree.length,timer:=-1 }):=by
  intro w x hx
  rw[eo]at hx
  by_cases hw:w<S.σ.af.length
  ·rw[List.getElem?_append_left hw]at hx;exact .inl ⟨hw,hx⟩
  ·rw[List.getElem?_append_right (by omega)]at hx
   have hz:w-S.σ.af.length=0:=by
    rcases Nat.eq_zero_or_pos (w-S.σ.af.length)with h9 | h9
    ·exact h9
    ·rw[List.getElem?_eq_none (by simp;omega)]at hx;cases hx
   rw[hz]at hx;simp at hx
   exact .inr ⟨by omega,hx.symm⟩
 have RO:∀(w:Nat) (x:One),S.σ.af[w]?=some x→(S.σ.add o up.node).af[w]?=some x:=by
  intro w x hx
  have hw:w<S.σ.af.length:=(List.getElem?_eq_some_iff.1 hx).1
  rw[eo,List.getElem?_append_left hw];exact hx
 have dD:∀k:Nat,k<S.σ.tree.length→(S.σ.add o up.node).who k=S.σ.who k:=by
  intro k hk
  rw[ew];unfold yM
  rw[if_neg (by omega)]
 refine⟨⟨by rw[et];exact had.ok,⟨by rw[eo];simp;omega,h.sz.2⟩,?_,?_,?_,?_,?_,?_,?_,h.Fq⟩,eo,by rw[et];exact had,ew⟩
 ·show (S.σ.add o up.node).tree.length=(S.σ.add o up.node).af.length+S.σ.ai.length
  rw[et,had.len,eo,h.len];simp;omega
 ·intro w x hx
  show ∃k,_∧k<(S.σ.add o up.node).tree.length∧(S.σ.add o up.node).who k=_
  rw[et,had.len]
  rcases og w x hx with⟨_,h1⟩ | ⟨rfl,rfl⟩
  ·obtain⟨k,k1,k2,k3⟩:=h.bS w x h1
   exact⟨k,k1,by omega,by rw[dD k k2];exact k3⟩
  ·exact⟨S.σ.tree.length,rfl,by omega,by rw[ew];simp[yM]⟩
 ·intro w x hx
  show ∃k,_∧k<(S.σ.add o up.node).tree.length∧(S.σ.add o up.node).who k=_∧zK (S.σ.add o up.node).tree k=[]
  rw[et,had.len]
  obtain⟨k,k1,k2,k3,k4⟩:=h.eJ w x hx
  refine⟨k,k1,by omega,by rw[dD k k2];exact k3,had.kids k4 (.inl ?_)⟩
  have:=h.Bm aI hx
  omega
 ·intro k hk
  have hk':k<(S.σ.add o up.node).tree.length:=hk
  rw[et,had.len]at hk'
  by_cases e1:k<S.σ.tree.length
  ·rcases h.cover k e1 with⟨w,x,c1,c2,c3⟩ | ⟨w,x,c1,c2,c3⟩
   ·exact .inl ⟨w,x,by show (S.σ.add o up.node).who k=_;rw[dD k e1];exact c1,RO w x c2,c3⟩
   ·exact .inr ⟨w,x,by show (S.σ.add o up.node).who k=_;rw[dD k e1];exact c1,c2,c3⟩
  ·have:k=S.σ.tree.length:=by omega
   subst this
   refine .inl ⟨S.σ.af.length,{ o with node:=S.σ.tree.length,timer:=-1 },?_,?_,rfl⟩
   ·show (S.σ.add o up.node).who _=_
    rw[ew];simp[yM]
   ·show (S.σ.add o up.node).af[_]?=_
    rw[eo];simp
 ·intro w k x n hx hk hn2
  have Sg:ms[k]?=some n:=by rw[←et];exact hn2
  rcases had.back Sg with⟨b1,m,b2,b3,b4⟩ | ⟨b1,b3,b4⟩
  ·rcases og w x hx with⟨_,h1⟩ | ⟨rfl,rfl⟩
   ·rw[b4];exact h.live w k x m h1 hk b2
   ·simp at hk;omega
  ·rcases og w x hx with⟨_,h1⟩ | ⟨rfl,rfl⟩
   ·obtain⟨k2,k3,k4,_⟩:=h.bS w x h1
    omega
   ·rw[b4];simp[ho]
 ·intro x hx a ha
  obtain⟨w,hw⟩:=List.mem_iff_getElem?.1 hx
  rcases og w x hw with⟨_,h1⟩ | ⟨rfl,rfl⟩
  ·exact hχ a _ (h.bB x (List.mem_of_getElem? h1) a ha)
  ·exact hc a ha
 ·intro x hx s o2 hs j6
  obtain⟨w,hw⟩:=List.mem_iff_getElem?.1 hx
  rcases og w x hw with⟨_,h1⟩ | ⟨rfl,rfl⟩
  ·exact h.bQ x (List.mem_of_getElem? h1) s o2 hs j6
  ·simp[bk.one,bk.has]at j6
theorem Ve (χ:Nat→Ch)(a b n:Nat)(h:(χ b).recvs.length+(χ b).aF.length≤n):(xd χ a .sg b).recvs.length+(xd χ a .sg b).aF.length≤n:=by
 unfold xd
 split
 ·simp[Ch.sg]
 ·exact h
theorem WF.bM {S:CX}(h:WF S):S.bM=true:=by
 have:=h.sz
 simp[CX.bM,h.tr.Em];omega
theorem zi6 (t:Option Nat)(τ:bk)(χ:Nat→Ch)(IX:τ.x.l.length≤1000000):WF ⟨Cs.new t,τ,χ⟩:=by
 have e:zP [] (-1) false=([⟨-1,false,[]⟩],0,0):=by simp[zP]
 have ew:(Cs.new t).who=yM (fun _=>none) 0 (some 0):=by simp[Cs.new,Cs.add,One.zero,e]
 have eo:(Cs.new t).af=[{ One.zero with free:=true,timer:=-1 }]:=by simp[Cs.new,Cs.add,One.zero,e]
 have et:(Cs.new t).tree=[⟨-1,false,[]⟩]:=by simp[Cs.new,Cs.add,One.zero,e]
 have ea:(Cs.new t).ai=[]:=rfl
 refine⟨⟨by rw[et];simp,?_,?_⟩,by simp[eo,ea],by simp[et,eo,ea],?_,?_,?_,?_,?_,?_,IX⟩
 ·intro k n hn
  simp only[et]at hn ⊢
  cases k with
  | zero=>simp at hn;subst hn;rfl
  | succ k=>simp at hn
 ·intro k n hn hl
  simp only[et]at hn
  cases k with
  | zero=>simp at hn;subst hn;cases hl
  | succ k=>simp at hn
 ·intro i x hx
  simp only[eo]at hx
  cases i with
  | zero=>simp at hx;subst hx;exact⟨0,rfl,by simp[et],by simp[ew,yM]⟩
  | succ k=>simp at hx
 ·intro i x hx;simp only[ea]at hx;simp at hx
 ·intro k hk
  simp only[et]at hk
  simp at hk;subst hk
  exact .inl ⟨0,{ One.zero with free:=true,timer:=-1 },by simp[ew,yM],by simp[eo],rfl⟩
 ·intro i k x n hx hk hn
  simp only[eo]at hx
  simp only[et]at hn
  cases i with
  | zero =>
   simp at hx;subst hx
   cases k with
   | zero=>simp at hn;subst hn;simp
   | succ k=>simp at hn
  | succ k=>simp at hx
 ·intro x hx a ha
  simp only[eo]at hx
  simp at hx;subst hx;simp[One.zero]at ha
 ·intro x hx s o hs ho
  simp only[eo]at hx
  simp at hx;subst hx
  simp[bk.one,bk.has]at ho
theorem WF.cm {S:CX}(h:WF S){p:Nat}{up:One}(aI:S.σ.af[p]?=some up)(hlen:S.σ.ai.length<64)(prog:Int) :
  WF ({ S with σ:=S.σ.cm up prog }:CX)∧(S.σ.cm up prog).ai=S.σ.ai++[⟨S.σ.tree.length,prog,false⟩]∧gH S.σ.tree up.node true (S.σ.cm up prog).tree∧(S.σ.cm up prog).who=yM S.σ.who S.σ.tree.length (some (-(S.σ.ai.length:Int)-1)):=by
 have hn:=h.node aI
 have hlt:S.σ.tree.length<1000:=by have:=h.len;have:=h.sz;omega
 obtain⟨ms,e,had⟩:=Vf (linked:=true) h.tr hlt (.inr hn.1)
 have hlk:(true&&decide (up.node≠-1))=true:=by simp[hn.2]
 rw[hlk]at had
 have eo:(S.σ.cm up prog).ai=S.σ.ai++[⟨S.σ.tree.length,prog,false⟩]:=by simp[Cs.cm,e]
 have et:(S.σ.cm up prog).tree=ms:=by simp[Cs.cm,e]
 have ew:(S.σ.cm up prog).who=yM S.σ.who S.σ.tree.length (some (-(S.σ.ai.length:Int)-1)):=by simp[Cs.cm,e]
 have ea:(S.σ.cm up prog).af=S.σ.af:=rfl
 have og:∀(w:Nat) (x:cK),(S.σ.cm up prog).ai[w]?=some x→(w<S.σ.ai.length∧S.σ.ai[w]?=some x)∨(w=S.σ.ai.length∧x=⟨S.σ.tree.length,prog,false⟩):=by
  intro w x hx
  rw[eo]at hx
  by_cases hw:w<S.σ.ai.length
  ·rw[List.getElem?_append_left hw]at hx;exact .inl ⟨hw,hx⟩
  ·rw[List.getElem?_append_right (by omega)]at hx
   have hz:w-S.σ.ai.length=0:=by
    rcases Nat.eq_zero_or_pos (w-S.σ.ai.length)with h9 | h9
    ·exact h9
    ·rw[List.getElem?_eq_none (by simp;omega)]at hx;cases hx
   rw[hz]at hx;simp at hx
   exact .inr ⟨by omega,hx.symm⟩
 have RO:∀(w:Nat) (x:cK),S.σ.ai[w]?=some x→(S.σ.cm up prog).ai[w]?=some x:=by
  intro w x hx
  have hw:w<S.σ.ai.length:=(List.getElem?_eq_some_iff.1 hx).1
  rw[eo,List.getElem?_append_left hw];exact hx
 have dD:∀k:Nat,k<S.σ.tree.length→(S.σ.cm up prog).who k=S.σ.who k:=by
  intro k hk
  rw[ew];unfold yM
  rw[if_neg (by omega)]
 have kn:zK S.σ.tree (S.σ.tree.length:Int)=[]:=by
  rw[List.eq_nil_iff_forall_not_mem]
  intro i hi
  have:=yY h.tr hi
  omega
 obtain⟨kp,zpC,zpB,_⟩:=h.bS p up aI
 refine⟨⟨by rw[et];exact had.ok,⟨h.sz.1,by rw[eo];simp;omega⟩,?_,?_,?_,?_,?_,h.bB,h.bQ,h.Fq⟩,eo,by rw[et];exact had,ew⟩
 ·show (S.σ.cm up prog).tree.length=S.σ.af.length+(S.σ.cm up prog).ai.length
  rw[et,had.len,eo,h.len];simp;omega
 ·intro w x hx
  show ∃k,_∧k<(S.σ.cm up prog).tree.length∧(S.σ.cm up prog).who k=_
  rw[et,had.len]
  obtain⟨k,k1,k2,k3⟩:=h.bS w x hx
  exact⟨k,k1,by omega,by rw[dD k k2];exact k3⟩
 ·intro w x hx
  show ∃k,_∧k<(S.σ.cm up prog).tree.length∧(S.σ.cm up prog).who k=_∧zK (S.σ.cm up prog).tree k=[]
  rw[et,had.len]
  rcases og w x hx with⟨_,h1⟩ | ⟨rfl,rfl⟩
  ·obtain⟨k,k1,k2,k3,k4⟩:=h.eJ w x h1
   refine⟨k,k1,by omega,by rw[dD k k2];exact k3,had.kids k4 (.inl ?_)⟩
   have:=h.Bm aI h1
   omega
  ·exact⟨S.σ.tree.length,rfl,by omega,by rw[ew];simp[yM],had.kids kn (.inl (by omega))⟩
 ·intro k hk
  have hk':k<(S.σ.cm up prog).tree.length:=hk
  rw[et,had.len]at hk'
  by_cases e1:k<S.σ.tree.length
  ·rcases h.cover k e1 with⟨w,x,c1,c2,c3⟩ | ⟨w,x,c1,c2,c3⟩
   ·exact .inl ⟨w,x,by show (S.σ.cm up prog).who k=_;rw[dD k e1];exact c1,c2,c3⟩
   ·exact .inr ⟨w,x,by show (S.σ.cm up prog).who k=_;rw[dD k e1];exact c1,RO w x c2,c3⟩
  ·have:k=S.σ.tree.length:=by omega
   subst this
   refine .inr ⟨S.σ.ai.length,⟨S.σ.tree.length,prog,false⟩,?_,?_,rfl⟩
   ·show (S.σ.cm up prog).who _=_
    rw[ew];simp[yM]
   ·show (S.σ.cm up prog).ai[_]?=_
    rw[eo];simp
 ·intro w k x n hx hk hn2
  have Sg:ms[k]?=some n:=by rw[←et];exact hn2
  rcases had.back Sg with⟨b1,m,b2,b3,b4⟩ | ⟨b1,b3,b4⟩
  ·rw[b4];exact h.live w k x m hx hk b2
  ·obtain⟨k2,k3,k4,_⟩:=h.bS w x hx
   omega
theorem WF.bI {S:CX}(h:WF S){p:Nat}{up:One}(aI:S.σ.af[p]?=some up)(hlen:S.σ.ai.length<64)(he:up.err=0){prog:Int}(hp:0≤prog) :
  S.bI p prog=some ({ S with σ:=S.σ.cm up prog },(S.σ.ai.length:Int),[],0):=by
 have j5:p<S.σ.af.length:=(List.getElem?_eq_some_iff.1 aI).1
 have hh:S.σ.has p=true:=by unfold Cs.has;simp;omega
 unfold CX.bI
 rw[if_neg (by simp[hh]),if_neg (by omega),if_neg (by omega),if_pos h.tr.Em]
 simp only[Int.toNat_natCast,aI]
 rw[if_neg (by simp[he])]
end
section
def chW (S:CX):Option Nat→List Wk
 | none=>[]
 | some a=>(S.χ a).cB.2
section
variable {c:Nat} {S S':CX} {L L2:Lg}
theorem eZ.raw (h:eZ c S S' L L2)(e:L c=some (.abs (YG c S.σ)))(ho:aY c S L){r:Nat}{x:AB}(hr:L r=some (.raw x)):L2 r=some (.raw x):=by
 rw[h.fr r (by rw[hr];simp) (by rintro rfl;rw[hr]at e;cases e) (fun h9=>by have:=(ho.bQ r h9).2;rw[hr]at this;cases this) (fun o h8 h9=>by have:=(ho.bB o h8 r h9).2.2;rw[hr]at this;cases this)]
 exact hr
end
theorem zbj {F:Nat→Option aT}{f:Nat}(h:F f=some zds)(L:Lg):zd F f [] L fun v L'=>v=.b true∧L'=L:=by
 apply WH h
 show fin _ _ _ _ _
 exact⟨L,zx.refl _,rfl,rfl⟩
theorem aY.chan {c:Nat}{S:CX}{L:Lg}(ho:aY c S L){a:Nat}(hm:∃o∈S.σ.af,o.c=some a)(y:Ch):aY c ({ S with χ:=xd S.χ a y }:CX) (L.put a (.abs (yy a y))):=by
 obtain⟨o1,h1,h2⟩:=hm
 have hs:=ho.bB o1 h1 a h2
 refine⟨fun s ht=>?_,fun o2 j6 a2 By=>?_⟩
 ·have:=ho.bQ s ht
  refine⟨this.1,?_⟩
  rw[zb];exact this.2
  rintro rfl;exact hs.2.1 ht
 ·have:=ho.bB o2 j6 a2 By
  refine⟨this.1,this.2.1,?_⟩
  by_cases e:a2=a
  ·subst e;rw[ze];simp[xd]
  ·rw[zb _ _ _ e];simp[xd,e,this.2.2]
end
section
variable {F:Nat→Option aT}
def vX (o:Option Nat)(K K1:Lg):Prop:=∀r d,K r=some d→o≠some r→K1 r=some d
theorem vX.none_ {K K1:Lg}(h:vX none K K1){r:Nat}{d:LC}(hr:K r=some d):K1 r=some d:=h r d hr (by simp)
theorem mI {K:Lg}{v x z:AV}{cs:List AV}{n bytes:Nat}(h:bu K v cs n 1)(hx:x.cellsOf=some [x])(hb:bytes≤1000)(hn:n≤1000000){k:AV→Lg→Prop}
  (hk:∀(v':AV) (K1:Lg),bu K1 v' (cs++[x]) (n+1) 1→vX (au v) K K1→(∀b,au v'=some b→K b=none)→k v' K1) :
  za F (.aC [z] 1 1 [0]) [x] K fun s L=>za F (.app 1 bytes) [v,s] L k:=by
 have hone:x.one=true:=by have:=vM hx;simpa using this
 rw[vt,yg (c:=[x]) _ _ (by simp[y7,zF,zo,zp,zq,hx]) (by simp[hone])]
 intro b1 bP
 rw[Xz]
 have g1:(K.put b1 (.raw (.cells [x]))) b1=some (.raw (.cells [x])):=ze _ _ _
 have h1:bu (K.put b1 (.raw (.cells [x]))) v cs n 1:=h.mono fun b G1=>zb _ _ _ (by rintro rfl;have:=h.block G1;rw[bP]at this;cases this)
 refine h1.app (m:=1) (by omega) rfl (by omega) (new:=[x]) (by simp[zH,AB.read,cut,zp]) rfl (by simp[hone]) (by have:(n+1) * bytes≤1000001 * 1000:=Nat.mul_le_mul (by omega) hb;omega) ?_
 intro b2 K1 g hO
 have f2:b2≠b1∧K b2=none:=by
  have:=g.fresh
  have n1:b2≠b1:=by rintro rfl;rw[ze]at this;cases this
  rw[zb _ _ _ n1]at this
  exact⟨n1,this⟩
 refine hk _ _ hO ?_ ?_
 ·intro r d hr hne
  have r1:r≠b1:=by rintro rfl;rw[bP]at hr;cases hr
  have r2:r≠b2:=by rintro rfl;rw[f2.2]at hr;cases hr
  rw[g.same r r2 hne,zb _ _ _ r1];exact hr
 ·intro b G1;simp[au]at G1;subst G1;exact f2.2
theorem zjh {K:Lg}{x z:AV}(hx:x.cellsOf=some [x]){k:AV→Lg→Prop}(hk:∀(v':AV) (K1:Lg),bu K1 v' [x] 1 1→vX none K K1→(∀b,au v'=some b→K b=none)→k v' K1):za F (.aC [z] 1 1 [0]) [x] K k:=by
 have hone:x.one=true:=by have:=vM hx;simpa using this
 rw[vt,yg (c:=[x]) _ _ (by simp[y7,zF,zo,zp,zq,hx]) (by simp[hone])]
 intro b1 bP
 refine hk _ _ (.inr ⟨b1,0,by omega,rfl,.inl rfl,ze _ _ _,rfl⟩) ?_ ?_
 ·intro r d hr _
  rw[zb];exact hr
  rintro rfl;rw[bP]at hr;cases hr
 ·intro b G1;simp[au]at G1;subst G1;exact bP
theorem vX.aW {o:Option Nat}{K K1:Lg}(h:vX o K K1){v:AV}{cs:List AV}{n size:Nat}(s:bu K v cs n size)(hn:∀b,au v=some b→o≠some b):bu K1 v cs n size:=s.mono fun b hb=>by rw[s.block hb];exact h b _ (s.block hb) (hn b hb)
end
section
variable {F:Nat→Option aT}
def zQ (K K':Lg):Prop:=∀r d,K r=some d→K' r=some d
theorem zQ.refl (K:Lg):zQ K K:=fun _ _ h=>h
theorem zQ.trans {A B C:Lg}(h:zQ A B)(k:zQ B C):zQ A C:=fun r d e=>k r d (h r d e)
theorem zQ.put {K K':Lg}(h:zQ K K'){b:Nat}(hb:K' b=none)(x:LC):zQ K (K'.put b x):=fun r d e=>by
 have:=h r d e
 rw[zb];exact this
 rintro rfl;rw[hb]at this;cases this
theorem zQ.cj {K K':Lg}(h:zQ K K'):zx K' K:=zx.drop h
structure View where
 par:Int
 link:Bool
 err:Int
 cause:Int
 dl:Int
 has:Bool
instance:Inhabited View:=⟨⟨0,false,0,0,0,false⟩⟩
def bJ (v:View):List AV:=[.i .i64 v.par,.b v.link,.i .i64 v.err,.i .i64 v.cause,.i .i64 v.dl,.b v.has]
def View.code (v:View):Bool:=if v.err=0 then decide (v.cause=0)else if v.err=1 then decide (1≤v.cause)else if v.err=2 then decide (1≤v.cause)else false
def View.bN (v up:View):Bool:=(decide (up.err=0)||!decide (v.err=0))&&(!up.has||(v.has&&decide (v.dl≤up.dl)))
def F4 (K:Lg)(v:AV)(l:List View):Prop:=∃a cap ex,v=.sl a l.length cap ex∧(l=[]∨∃b off cs,a=some (b,off)∧(K b=some (.raw (.cells cs))∨K b=some (.raw (.ro cs)))∧∀(i:Nat) (x:View),l[i]?=some x→off+i * 6+6≤cs.length∧(cs.drop (off+i * 6)).take 6=bJ x)
theorem F4.len {K:Lg}{v:AV}{l:List View}(h:F4 K v l)(X:Lg)(k:AV→Lg→Prop):za F .ax [v] X k=k (.i .i64 l.length) X:=by
 obtain⟨a,cap,ex,rfl,_⟩:=h
 simp
theorem F4.mono {K K':Lg}{v:AV}{l:List View}(h:F4 K v l)(e:zQ K K'):F4 K' v l:=by
 obtain⟨a,cap,ex,rfl,h1 | ⟨b,off,cs,rfl,h2,h3⟩⟩:=h
 ·exact⟨_,_,_,rfl,.inl h1⟩
 ·exact⟨_,_,_,rfl,.inr ⟨b,off,cs,rfl,h2.imp (e _ _) (e _ _),h3⟩⟩
theorem ZG {cs:List AV}{o n:Nat}{f:List AV}(h:(cs.drop o).take n=f){j:Nat}(hj:j<n):cs[o+j]?=f[j]?:=by
 rw[←h,List.getElem?_take_of_lt hj,List.getElem?_drop]
theorem F4.get {K:Lg}{v:AV}{l:List View}(h:F4 K v l){i:Nat}{x:View}(hi:l[i]?=some x):∃b o,(∀(X:Lg) (k:AV→Lg→Prop),za F (.aX 6) [v,.i .i64 i] X k=k (.p (some (b,o))) X) ∧
  (∀X:Lg,zQ K X→(∀j,j<6→aq X (b,o+j) none=(bJ x)[j]?)∧aq X (b,o) (some 6)=some (.agg (bJ x)))∧K b≠none:=by
 obtain⟨a,cap,ex,rfl,h1 | ⟨b,off,cs,rfl,h2,h3⟩⟩:=h
 ·subst h1;simp at hi
 ·have hl:=(List.getElem?_eq_some_iff.1 hi).1
  obtain⟨h4,h5⟩:=h3 i x hi
  refine⟨b,off+i * 6,fun X k=>?_,fun X hX=>?_,?_⟩
  ·rw[yn F X k 6 b off l.length cap ex .i64 i (by omega) (by omega)]
   simp
  ·rcases h2 with h2 | h2
   ·refine⟨fun j hj=>?_,?_⟩
    ·rw[zj (hX _ _ h2),ZG h5 hj]
    ·rw[yc (hX _ _ h2) h4,h5]
   ·refine⟨fun j hj=>?_,?_⟩
    ·rw[zez (hX _ _ h2),ZG h5 hj]
    ·rw[V7 (hX _ _ h2) h4,h5]
  ·rcases h2 with h2 | h2<;>rw[h2]<;>simp
theorem F4.bD {K:Lg}{v:AV}{l:List View}(h:bu K v (zl bJ l) l.length 6):F4 K v l:=by
 rcases h with⟨h2,h1,rfl⟩ | ⟨b,ex,h1,rfl,_,h2,h3⟩
 ·refine⟨none,0,0,by rw[h2],.inl (List.length_eq_zero_iff.1 h2)⟩
 ·refine⟨some (b,0),l.length,ex,rfl,.inr ⟨b,0,zl bJ l,rfl,.inl h2,fun i x hi=>?_⟩⟩
  have:=xT (f:=bJ) (k:=6) (fun _=>rfl) l i x hi
  simpa using ⟨this.2,this.1⟩
theorem zfF (hf:Gb F)(K:Lg)(v:View):zd F jK [.agg (bJ v)] K fun r K'=>r=.b v.code∧K'=K:=by
 refine zr ?_
 intro Q hQ
 apply QL hf.code
 unfold sG
 rw[vu,zL _ _ _ rfl]
 intro b hb
 have g:(K.put b (.raw (.cells (bJ v)))) b=some (.raw (.cells (bJ v))):=ze _ _ _
 have fin:∀x,x=v.code→zm (some (.b x)) Q (K.put b (.raw (.cells (bJ v)))):=fun x hx=>⟨K,((zQ.refl K).put hb _).cj,hQ _ _ ⟨by rw[hx],rfl⟩⟩
 have q2:aq (K.put b (.raw (.cells (bJ v)))) (b,2) none=some (.i .i64 v.err):=by rw[zj g];rfl
 have q3:aq (K.put b (.raw (.cells (bJ v)))) (b,3) none=some (.i .i64 v.cause):=by rw[zj g];rfl
 simp only[zf,zk,Nat.zero_add,zt,q2,zg,xw,zM,q3,vg]
 unfold View.code at fin
 refine⟨fun h=>fin _ (by simp[h]),fun h=>⟨fun h1=>⟨fun _=>fin _ (by simp[h,h1]),fun h2=>absurd h1 h2⟩,fun h1=>⟨fun h2=>fin _ (by simp[h,h1,h2]),fun h2=>fin _ (by simp[h,h1,h2])⟩⟩⟩
theorem zdy (hf:Ga F)(K:Lg)(v up:View):zd F jJ [.agg (bJ v),.agg (bJ up)] K fun r K'=>r=.b (v.bN up)∧K'=K:=by
 refine zr ?_
 intro Q hQ
 apply QK hf.code
 unfold sF
 rw[vu,zL _ _ _ rfl]
 intro b hb
 rw[vu,zL _ _ _ rfl]
 intro b2 bT
 obtain⟨K2,gE⟩:∃K2,K2=(K.put b (.raw (.cells (bJ v)))).put b2 (.raw (.cells (bJ up))):=⟨_,rfl⟩
 rw[←gE]
 have hne:b≠b2:=by rintro rfl;rw[ze]at bT;cases bT
 have g:K2 b=some (.raw (.cells (bJ v))):=by rw[gE,zb _ _ _ hne,ze]
 have g2:K2 b2=some (.raw (.cells (bJ up))):=by rw[gE,ze]
 have sub:zQ K K2:=by rw[gE];exact ((zQ.refl K).put hb _).put bT _
 clear gE
 have fin:∀x,x=v.bN up→zm (some (.b x)) Q K2:=fun x hx=>⟨K,sub.cj,hQ _ _ ⟨by rw[hx],rfl⟩⟩
 have q2:aq K2 (b,2) none=some (.i .i64 v.err):=by rw[zj g];rfl
 have q4:aq K2 (b,4) none=some (.i .i64 v.dl):=by rw[zj g];rfl
 have q5:aq K2 (b,5) none=some (.b v.has):=by rw[zj g];rfl
 have p2:aq K2 (b2,2) none=some (.i .i64 up.err):=by rw[zj g2];rfl
 have p4:aq K2 (b2,4) none=some (.i .i64 up.dl):=by rw[zj g2];rfl
 have p5:aq K2 (b2,5) none=some (.b up.has):=by rw[zj g2];rfl
 unfold View.bN at fin
 have e1:up.err=0∨up.err≠0:=by omega
 have e2:v.err=0∨v.err≠0:=by omega
 have e3:v.dl≤up.dl∨¬v.dl≤up.dl:=by omega
 rcases e1 with e1 | e1<;>rcases e2 with e2 | e2<;>rcases e3 with e3 | e3<;>cases h1:up.has<;>cases h2:v.has <;>
  simp[q2,q4,q5,p2,p4,p5,e1,e2,e3,h1,h2]at fin ⊢<;>exact fin
theorem zbH {x:View}{L:Lg}{z1 z2 z3 z4 z5 z6:AV}{k:AV→Lg→Prop}(h:∀b,L b=none→k (.p (some (b,0))) (L.put b (.raw (.cells (bJ x))))):za F (.alloc [z1,z2,z3,z4,z5,z6]) [] L fun v3 L3=>za F (.st 6) [v3,.agg (bJ x)] L3 fun _ L4=>k v3 L4:=by
 rw[y4]
 intro b hb
 rw[yj,zu (n:=6) (ze _ _ _) rfl rfl (by simp),zA]
 exact h b hb
def vv (l:List View)(now:Int):Nat→Nat→Bool
 | 0,_=>false
 | f+1,id=>match l[id]? with
  | none=>false
  | some v=>(v.has&&decide (v.dl≤now))||(v.link&&decide (0≤v.par)&&decide (v.par<id)&&vv l now f v.par.toNat)
theorem Vu (l:List View)(now:Int):∀(f g id:Nat),id<f→id<g→vv l now f id=vv l now g id
 | 0,_,_,h,_=>by omega
 | _+1,0,_,_,h=>by omega
 | f+1,g+1,id,h1,h2=>by
  simp only[vv]
  cases l[id]? with
  | none=>rfl
  | some v =>
   simp only[]
   congr 1
   by_cases h3:0≤v.par∧v.par<id
   ·rw[Vu l now f g v.par.toNat (by omega) (by omega)]
   ·have:(decide (0≤v.par)&&decide (v.par<id))=false:=by
     simp;omega
    cases v.link<;>simp[this]
theorem zad (hf:F9 F){K:Lg}{a:AV}{l:List View}(h:F4 K a l){id:Nat}(hid:id<l.length)(now:Int):zd F jI [a,.i .i64 id,.i .i64 now] K fun r K'=>r=.b (vv l now (id+1) id)∧K'=K:=by
 refine zr ?_
 intro Q hQ
 apply QJ hf.code
 unfold sE sy
 obtain⟨I,hI⟩:∃I:Nat→Env→Lg→Prop,I=fun m E K'=>m<l.length∧E 0=a∧E 1=.i .i64 (m:Nat)∧E 2=.i .i64 now∧zQ K K'∧vv l now (id+1) id=vv l now (m+1) m:=⟨_,rfl⟩
 refine zN I id ?_ ?_
 ·rw[hI];exact⟨hid,by simp[zI],by simp[zI],by simp[zI],zQ.refl _,rfl⟩
 intro m E t K' hi
 rw[hI]at hi
 obtain⟨hm,e0,e1,e2,hs,ho⟩:=hi
 have hx:l[m]?=some l[m]:=List.getElem?_eq_getElem hm
 generalize l[m]=x at hx
 have fin:∀b,b=vv l now (id+1) id→∀K2,zQ K K2→zm (some (.b b)) Q K2:=fun b hb K2 h2=>⟨K,h2.cj,hQ _ _ ⟨by rw[hb],rfl⟩⟩
 rw[ho]at fin
 have HN:vv l now (m+1) m=((x.has&&decide (x.dl≤now))||(x.link&&decide (0≤x.par)&&decide (x.par<m)&&vv l now m x.par.toNat)):=by
  simp only[vv,hx]
 unfold sx
 rw[e0,e1,e2]
 obtain⟨b,o,g1,g2,_⟩:=h.get (F:=F) hx
 simp only[zf,g1,zt,(g2 K' hs).2,zg]
 refine zbH ?_
 intro q hq
 have gv:=hs.put hq (.raw (.cells (bJ x)))
 have hg:(K'.put q (.raw (.cells (bJ x)))) q=some (.raw (.cells (bJ x))):=ze _ _ _
 generalize K'.put q (.raw (.cells (bJ x)))=K2 at gv hg
 have q0:aq K2 (q,0) none=some (.i .i64 x.par):=by rw[zj hg];rfl
 have q1:aq K2 (q,1) none=some (.b x.link):=by rw[zj hg];rfl
 have q4:aq K2 (q,4) none=some (.i .i64 x.dl):=by rw[zj hg];rfl
 have q5:aq K2 (q,5) none=some (.b x.has):=by rw[zj hg];rfl
 have e3:x.dl≤now∨¬x.dl≤now:=by omega
 by_cases hyes:x.has=true∧x.dl≤now
 ·obtain⟨y1,y2⟩:=hyes
  simp[q5,q4,y1,y2]
  exact fin _ (by simp[HN,y1,y2]) _ gv
 have hno:(x.has&&decide (x.dl≤now))=false:=by
  cases h1:x.has<;>simp
  exact Int.not_le.1 fun h2=>hyes ⟨h1,h2⟩
 rw[hno,Bool.false_or]at HN
 have step:∀(P:AV→Lg→Prop),P (.b false) K2→(za F (.aj 5) [.p (some (q,0))] K2 fun v5 L5=>za F (.ld none) [v5] L5 fun v6 L6=>zi F v6 true (.aj 4) [.p (some (q,0))] L6 fun v7 L7=>zi F v6 true (.ld none) [v7] L7 fun v8 L8=>zi F v6 true .mv [.i .i64 now] L8 fun v9 L9=>zi F v6 true (.bin .leq) [v8,v9] L9 fun v10 dG=>za F .pick [v6,v10,(.b false)] dG P):=by
  intro P hP
  cases h1:x.has with
  | false=>simpa[q5,q4,h1]using hP
  | true =>
   have:¬x.dl≤now:=fun h2=>hyes ⟨h1,h2⟩
   simpa[q5,q4,h1,this]using hP
 refine step _ ?_
 simp only[zf,zC]
 cases hl:x.link with
 | false =>
  simp[q1,hl]
  exact fin _ (by simp[HN,hl]) _ gv
 | true =>
  by_cases h0:x.par<0
  ·simp[q1,q0,hl,h0]
   exact fin _ (by rw[HN];simp[hl];omega) _ gv
  ·by_cases h1:x.par<m
   ·have h2:¬(m:Int)≤x.par:=by omega
    simp[q1,q0,hl,h0,h2]
    rw[hI]
    obtain⟨p,hp⟩:=Int.eq_ofNat_of_zero_le (Int.not_lt.1 h0)
    refine⟨p,by omega,by omega,by simp[e0],by simp[hp],by simp[e2],gv,?_⟩
    rw[ho,HN,hl,hp]
    have f1:vv l now m p=vv l now (p+1) p:=Vu l now m (p+1) p (by omega) (by omega)
    have a1:decide (0≤(p:Int))=true:=by simp
    have a2:decide ((p:Int)<m)=true:=by simp;omega
    rw[a1,a2,Int.toNat_natCast,f1];rfl
   ·have h2:(m:Int)≤x.par:=by omega
    simp[q1,q0,hl,h0,h2]
    exact fin _ (by rw[HN];simp[hl,h1]) _ gv
def Ie (v:View):Bool:=v.link&&decide (0≤v.par)
def Iz (l:List View)(v:View):View:=l[v.par.toNat]?.getD default
def LQ (l:List View)(now:Int)(i:Nat)(v:View):Bool :=
 !(decide (v.par < -1)||decide ((i:Int)≤v.par))&&v.code&&(!Ie v||v.bN (Iz l v))&&(!decide (v.err=2)||vv l now (i+1) i||(Ie v&&decide ((Iz l v).err=2)))
def Zc (l:List View)(now:Int):Nat→Bool
 | 0=>true
 | n+1=>Zc l now n&&LQ l now n (l[n]?.getD default)
def Vn (l:List View)(now:Int):Bool:=Zc l now l.length
theorem Yf {l:List View}{now:Int}{i:Nat}{x:View}(hx:l[i]?=some x)(h:LQ l now i x=false):∀n,i<n→Zc l now n=false
 | 0,h1=>by omega
 | n+1,h1=>by
  simp only[Zc]
  by_cases e:i=n
  ·subst e;rw[hx];simp[h]
  ·rw[Yf hx h n (by omega)];rfl
theorem zdf (hf:pF F){K:Lg}{a:AV}{l:List View}(h:F4 K a l)(hlen:l.length≤1000000)(now:Int):zd F jH [a,.i .i64 now] K fun r K'=>r=.b (Vn l now)∧K'=K:=by
 refine zr ?_
 intro Q hQ
 have fin:∀b,b=Vn l now→∀K2,zQ K K2→zm (some (.b b)) Q K2:=fun b hb K2 h2=>⟨K,h2.cj,hQ _ _ ⟨by rw[hb],rfl⟩⟩
 apply QI hf.code
 unfold su sn sk
 simp[zI,h.len]
 obtain⟨I,hI⟩:∃I:Nat→Env→Lg→Prop,I=fun m E K'=>∃i:Nat,m+i=l.length∧E 0=a∧E 1=.i .i64 now∧E 8=a∧E 9=.i .i64 l.length∧E 10=.i .i64 i∧zQ K K'∧Zc l now i=true:=⟨_,rfl⟩
 refine zN I l.length ?_ ?_
 ·rw[hI];exact⟨0,by omega,by simp,by simp,by simp,by simp,by simp,zQ.refl _,rfl⟩
 intro m E t K' hi
 rw[hI]at hi
 obtain⟨i,hm,e0,e1,e8,e9,FZ,hs,ho⟩:=hi
 unfold sj si
 rw[e9,FZ]
 simp only[zf,yP,zM]
 refine⟨fun hlt=>?_,fun Bu=>?_⟩
 rotate_left
 ·have:i=l.length:=by omega
  subst this
  unfold so
  exact fin _ (by unfold Vn;rw[ho]) _ hs
 have bK:i<l.length:=by omega
 have hx:l[i]?=some l[i]:=List.getElem?_eq_getElem bK
 generalize l[i]=x at hx
 have w1:wr .i64 ((i:Int)+1)=((i+1:Nat):Int):=by rw[zT (by omega) (by omega)];omega
 have bad:LQ l now i x=false→∀K2,zQ K K2→zm (some (.b false)) Q K2:=fun hb=>fin _ (by unfold Vn;rw[Yf hx hb _ bK])
 unfold mo
 rw[e8,FZ]
 obtain⟨b,o,g1,g2,_⟩:=h.get (F:=F) hx
 simp only[zf,g1,zt,(g2 K' hs).2,zg]
 refine zbH ?_
 intro q hq
 have gv:=hs.put hq (.raw (.cells (bJ x)))
 have hg:(K'.put q (.raw (.cells (bJ x)))) q=some (.raw (.cells (bJ x))):=ze _ _ _
 generalize K'.put q (.raw (.cells (bJ x)))=K2 at gv hg
 have q0:aq K2 (q,0) none=some (.i .i64 x.par):=by rw[zj hg];rfl
 have q1:aq K2 (q,1) none=some (.b x.link):=by rw[zj hg];rfl
 have q2:aq K2 (q,2) none=some (.i .i64 x.err):=by rw[zj hg];rfl
 have q6:aq K2 (q,0) (some 6)=some (.agg (bJ x)):=by rw[yc hg (by simp[bJ])];rfl
 have next:LQ l now i x=true→∀E2:Env,E2 0=a→E2 1=.i .i64 now→E2 8=a→E2 9=.i .i64 l.length→E2 10=.i .i64 i→gl F Q (fun l L=>∃m_1,m_1<m∧I m_1 l L) E2 K2:=by
  intro hok E2 y0 y1 y8 y9 y10
  unfold gl
  rw[y10]
  simp only[zf,y6,w1]
  rw[hI]
  refine⟨m-1,by omega,i+1,by omega,by simp[y0],by simp[y1],by simp[y8],by simp[y9],by simp,gv,?_⟩
  simp only[Zc,ho,hx,Option.getD_some,hok,Bool.and_self]
 unfold mm
 simp only[Env.ah,if_true,if_false,reduceIte,Nat.reduceEqDiff]
 by_cases c1:x.par < -1
 ·simp[q0,c1]
  exact bad (by simp[LQ,c1]) _ gv
 by_cases c2:(i:Int)≤x.par
 ·simp[q0,c1,c2]
  exact bad (by simp[LQ,c2]) _ gv
 have Np:¬(x.par≥(i:Int)):=c2
 simp only[zf,zk,Nat.zero_add,zt,q0,zg,yP,c1,decide_false,zw,yo,vg,Np,zW,q6,xy]
 refine (zfF hf.f165 _ x).mono ?_
 rintro _ K3 ⟨rfl,rfl⟩
 cases hc:x.code with
 | false =>
  simp
  exact bad (by simp[LQ,hc]) _ gv
 | true =>
  simp only[zf,zw,yf,Bool.not_true,zW,zC]
  unfold mj
  have c1':decide (x.par < -1)=false:=by simp[c1]
  have zqp:decide ((i:Int)≤x.par)=false:=by simp[c2]
  have hok:LQ l now i x=((!Ie x||x.bN (Iz l x))&&(!decide (x.err=2)||vv l now (i+1) i||(Ie x&&decide ((Iz l x).err=2)))):=by
   unfold LQ;rw[hc,c1',zqp];simp
  have ext:∀(P:AV→Lg→Prop),P (.b (Ie x)) K3→(za F (.aj 1) [.p (some (q,0))] K3 fun v1 L1=>za F (.ld none) [v1] L1 fun v2 L2=>zi F v2 true (.aj 0) [.p (some (q,0))] L2 fun v3 L3=>zi F v2 true (.ld none) [v3] L3 fun v4 L4=>zi F v2 true (.bin .geq) [v4,(.i .i64 0)] L4 fun v5 L5=>za F .pick [v2,v5,(.b false)] L5 P):=by
   intro P hP
   unfold Ie at hP
   cases h1:x.link with
   | false=>simpa[q1,q0,h1]using hP
   | true=>simpa[q1,q0,h1]using hP
  simp only[Env.ah,if_true,if_false,reduceIte,Nat.reduceEqDiff]
  refine ext _ ?_
  unfold mh
  simp only[Env.ah,if_true,if_false,reduceIte,Nat.reduceEqDiff,e0,e1]
  cases hl:Ie x with
  | false =>
   rw[hl]at hok
   simp only[zf,vI,zW,zC,zk,Nat.zero_add,zt,q2,zg,xw]
   by_cases h2:x.err=2
   ·simp only[h2,decide_true,zf,zw,yo,xy]
    refine (zad hf.f167 (h.mono gv) bK now).mono ?_
    rintro _ K4 ⟨rfl,rfl⟩
    cases HN:vv l now (i+1) i with
    | true =>
     simp[h2]
     exact next (by rw[hok,HN];simp) _ (by simp[e0]) (by simp[e1]) (by simp[e8]) (by simp[e9]) (by simp[FZ])
    | false =>
     simp[h2]
     exact bad (by rw[hok,HN];simp[h2]) _ gv
   ·simp[h2]
    exact next (by rw[hok];simp[h2]) _ (by simp[e0]) (by simp[e1]) (by simp[e8]) (by simp[e9]) (by simp[FZ])
  | true =>
   rw[hl]at hok
   have FM:x.link=true∧0≤x.par:=by simpa[Ie]using hl
   obtain⟨p,hp⟩:=Int.eq_ofNat_of_zero_le FM.2
   have j5:p<l.length:=by omega
   have hu:l[p]?=some (Iz l x):=by unfold Iz;rw[hp,Int.toNat_natCast,List.getElem?_eq_getElem j5];rfl
   generalize Iz l x=up at hu hok
   obtain⟨b2,o2,r1,r2,_⟩:=h.get (F:=F) hu
   have r3:=(r2 K3 gv).2
   have r4:aq K3 (b2,o2+2) none=some (.i .i64 up.err):=(r2 K3 gv).1 2 (by omega)
   simp only[zf,zw,zk,Nat.zero_add,zt,q6,q0,zg,yo,hp,r1,r3,xy]
   refine (zdy hf.f166 _ x up).mono ?_
   rintro _ K4 ⟨rfl,rfl⟩
   cases hh:x.bN up with
   | false =>
    simp
    exact bad (by rw[hok,hh];simp) _ gv
   | true =>
    simp only[zf,zw,yf,Bool.not_true,zV,zC,zk,Nat.zero_add,zt,q2,zg,xw]
    by_cases h2:x.err=2
    ·simp only[h2,decide_true,zf,zw,yo,xy]
     refine (zad hf.f167 (h.mono gv) bK now).mono ?_
     rintro _ K4 ⟨rfl,rfl⟩
     cases HN:vv l now (i+1) i with
     | true =>
      simp[h2]
      exact next (by rw[hok,HN,hh];simp) _ (by simp[e0]) (by simp[e1]) (by simp[e8]) (by simp[e9]) (by simp[FZ])
     | false =>
      by_cases h3:up.err=2
      ·simp[q0,hp,r1,r4,h3,h2]
       exact next (by rw[hok,HN,hh];simp[h3]) _ (by simp[e0]) (by simp[e1]) (by simp[e8]) (by simp[e9]) (by simp[FZ])
      ·simp[q0,hp,r1,r4,h3,h2]
       exact bad (by rw[hok,HN,hh];simp[h2,h3]) _ gv
    ·simp[h2]
     exact next (by rw[hok,hh];simp[h2]) _ (by simp[e0]) (by simp[e1]) (by simp[e8]) (by simp[e9]) (by simp[FZ])
end
section
variable {F:Nat→Option aT}
def cI {α:Type}(f:α→List AV)(z:Nat)(K:Lg)(v:AV)(l:List α):Prop:=∃a cap ex,v=.sl a l.length cap ex∧l.length≤cap∧(ex=0∨ex=z)∧((l=[]∧a=none)∨∃b off cs,a=some (b,off)∧(K b=some (.raw (.cells cs))∨K b=some (.raw (.ro cs)))∧off+l.length * z≤cs.length∧∀(i:Nat) (x:α),l[i]?=some x→(cs.drop (off+i * z)).take z=f x)
section
variable {α:Type} {f:α→List AV} {z:Nat}
theorem cI.len {K:Lg}{v:AV}{l:List α}(h:cI f z K v l)(X:Lg)(k:AV→Lg→Prop):za F .ax [v] X k=k (.i .i64 l.length) X:=by
 obtain⟨a,cap,ex,rfl,_⟩:=h
 simp
theorem cI.mono {K K':Lg}{v:AV}{l:List α}(h:cI f z K v l)(e:zQ K K'):cI f z K' v l:=by
 obtain⟨a,cap,ex,rfl,hc,he,h1 | ⟨b,off,cs,rfl,h2,h3⟩⟩:=h
 ·exact⟨_,_,_,rfl,hc,he,.inl h1⟩
 ·exact⟨_,_,_,rfl,hc,he,.inr ⟨b,off,cs,rfl,h2.imp (e _ _) (e _ _),h3⟩⟩
theorem zg2 {i n z off m:Nat}(hi:i<n)(h:off+n * z≤m):off+i * z+z≤m:=by
 have:i * z+z≤n * z:=by rw[←Nat.succ_mul];exact Nat.mul_le_mul_right _ hi
 omega
theorem cI.get {K:Lg}{v:AV}{l:List α}(h:cI f z K v l){i:Nat}{x:α}(hi:l[i]?=some x):∃b o,(∀(X:Lg) (k:AV→Lg→Prop),za F (.aX z) [v,.i .i64 i] X k=k (.p (some (b,o))) X) ∧
  (∀X:Lg,zQ K X→(∀j,j<z→aq X (b,o+j) none=(f x)[j]?)∧aq X (b,o) (some z)=some (.agg (f x)))∧K b≠none:=by
 obtain⟨a,cap,ex,rfl,hc,he,⟨h1,_⟩ | ⟨b,off,cs,rfl,h2,h6,h3⟩⟩:=h
 ·subst h1;simp at hi
 ·have hl:=(List.getElem?_eq_some_iff.1 hi).1
  have h4:=zg2 hl h6
  have h5:=h3 i x hi
  refine⟨b,off+i * z,fun X k=>?_,fun X hX=>?_,?_⟩
  ·rw[yn F X k z b off l.length cap ex .i64 i (by omega) (by omega)]
   simp
  ·rcases h2 with h2 | h2
   ·refine⟨fun j hj=>?_,?_⟩
    ·rw[zj (hX _ _ h2),ZG h5 hj]
    ·rw[yc (hX _ _ h2) h4,h5]
   ·refine⟨fun j hj=>?_,?_⟩
    ·rw[zez (hX _ _ h2),ZG h5 hj]
    ·rw[V7 (hX _ _ h2) h4,h5]
  ·rcases h2 with h2 | h2<;>rw[h2]<;>simp
theorem cI.bD {K:Lg}{v:AV}{l:List α}(hf:∀x,(f x).length=z)(h:bu K v (zl f l) l.length z):cI f z K v l:=by
 rcases h with⟨h2,h1,rfl⟩ | ⟨b,ex,h1,rfl,he,h2,h3⟩
 ·exact⟨none,0,0,by rw[h2],by omega,.inl rfl,.inl ⟨List.length_eq_zero_iff.1 h2,rfl⟩⟩
 ·refine⟨some (b,0),l.length,ex,rfl,Nat.le_refl _,he,.inr ⟨b,0,zl f l,rfl,.inl h2,by omega,fun i x hi=>?_⟩⟩
  have:=xT (f:=f) (k:=z) hf l i x hi
  simpa using this.1
theorem cI.from {K:Lg}{v:AV}{l:List α}(h:cI f z K v l){k:Nat}(hk:k≤l.length):∃v',Fm z true false false [v,.i .i64 k]=some v'∧cI f z K v' (l.drop k):=by
 obtain⟨a,cap,ex,rfl,hc,he,h1⟩:=h
 have hex:(Nat.beq ex 0||Nat.beq ex z)=true:=by
  rcases he with rfl | rfl
  ·simp[zq]
  ·simp[zq]
 refine⟨.sl (a.map fun (n,o)=>(n,o+k * z)) (l.length-k) (cap-k) ex,?_,a.map fun (n,o)=>(n,o+k * z),cap-k,ex,by rw[List.length_drop],by rw[List.length_drop];omega,he,?_⟩
 ·show Fm z true false false [.sl a l.length cap ex,.i .i64 (Int.ofNat k)]=_
  simp[Fm,wX,idx,zp,hex,hk,hc]
 ·rcases h1 with⟨h1,rfl⟩ | ⟨b,off,cs,rfl,h2,h6,h3⟩
  ·exact .inl ⟨by rw[h1];simp,rfl⟩
  ·refine .inr ⟨b,off+k * z,cs,rfl,h2,?_,fun i x hi=>?_⟩
   ·rw[List.length_drop,Nat.sub_mul]
    have:k * z≤l.length * z:=Nat.mul_le_mul_right _ hk
    omega
   ·rw[List.getElem?_drop]at hi
    have:=h3 (k+i) x hi
    have e:off+(k+i) * z=off+k * z+i * z:=by rw[Nat.add_mul];omega
    rw[e]at this
    exact this
theorem cI.upto {K:Lg}{v:AV}{l:List α}(h:cI f z K v l){k:Nat}(hk:k≤l.length):∃v',Fm z false true false [v,.i .i64 k]=some v'∧cI f z K v' (l.take k):=by
 obtain⟨a,cap,ex,rfl,hc,he,h1⟩:=h
 have hex:(Nat.beq ex 0||Nat.beq ex z)=true:=by
  rcases he with rfl | rfl
  ·simp[zq]
  ·simp[zq]
 refine⟨.sl a k cap ex,?_,a,cap,ex,by rw[List.length_take,Nat.min_eq_left hk],by rw[List.length_take];omega,he,?_⟩
 ·show Fm z false true false [.sl a l.length cap ex,.i .i64 (Int.ofNat k)]=_
  have hkc:k≤cap:=by omega
  simp[Fm,wX,idx,zp,hex,hkc]
 ·rcases h1 with⟨h1,rfl⟩ | ⟨b,off,cs,rfl,h2,h6,h3⟩
  ·exact .inl ⟨by rw[h1];simp,rfl⟩
  ·refine .inr ⟨b,off,cs,rfl,h2,?_,fun i x hi=>?_⟩
   ·rw[List.length_take,Nat.min_eq_left hk]
    have:k * z≤l.length * z:=Nat.mul_le_mul_right _ hk
    omega
   ·have hi':i<k:=by have:=(List.getElem?_eq_some_iff.1 hi).1;simp at this;omega
    rw[List.getElem?_take_of_lt hi']at hi
    exact h3 i x hi
theorem cI.all {K:Lg}{v:AV}{l:List α}(hf:∀x,(f x).length=z)(h:cI f z K v l):∃a cap ex,v=.sl a l.length cap ex∧∀X:Lg,zQ K X→zH X a (l.length * z)=some (zl f l):=by
 obtain⟨a,cap,ex,rfl,hc,he,⟨h1,rfl⟩ | ⟨b,off,cs,rfl,h2,h6,h3⟩⟩:=h
 ·subst h1
  exact⟨none,cap,ex,rfl,fun X _=>by simp[zH,zl]⟩
 ·refine⟨_,cap,ex,rfl,fun X hX=>?_⟩
  have dZ:∀(l:List α) (o:Nat),o+l.length * z≤cs.length→(∀(i:Nat) (x:α),l[i]?=some x→(cs.drop (o+i * z)).take z=f x)→(cs.drop o).take (l.length * z)=zl f l:=by
   intro l
   induction l with
   | nil=>intro o _ _;simp[zl]
   | cons x r ih =>
    intro o ho hg
    have h0:=hg 0 x rfl
    have e1:(x::r).length * z=z+r.length * z:=by rw[List.length_cons,Nat.add_mul,Nat.one_mul];omega
    rw[e1]at ho ⊢
    rw[List.take_add,List.drop_drop]
    rw[ih (o+z) (by omega) (fun i y hy=>by
     have:=hg (i+1) y hy
     have e2:o+(i+1) * z=o+z+i * z:=by rw[Nat.add_mul];omega
     rw[e2]at this;exact this)]
    simp only[Nat.zero_mul,Nat.add_zero]at h0
    rw[h0];rfl
  have Sw:cut cs off (l.length * z)=some (zl f l):=by
   simp[cut,zp,h6,dZ l off h6 h3]
  rcases h2 with h2 | h2<;>simp[zH,hX _ _ h2,AB.read,Sw]
end
def bt (n:Int)(i:Nat):Int:=wr .u8 ((wr .u64 n).fdiv (2 ^ (8 * i)))
def b8 (n:Int):List Int:=(List.range 8).map (bt n)
abbrev Ent:=Int×Int×Int
def e3 (x:Ent):List AV:=[.i .i64 x.1,.i .i64 x.2.1,.i .i64 x.2.2]
end
section
def isB (b:Int):Prop:=0≤b∧b<256
end
section
variable {F:Nat→Option aT}
end
section
def MJ (n:Int):Prop:=-9223372036854775808≤n∧n<9223372036854775808
def inE (x:Ent):Prop:=MJ x.1∧MJ x.2.1∧MJ x.2.2
end
section
open Go.RowKit
end
section
open Go.RowKit
variable {F:Nat→Option aT}
def zqw:={ x:Ent // inE x }
instance:Inhabited zqw:=⟨⟨(0,0,0),by unfold inE MJ;simp⟩⟩
def zqx:={ x:Int // isB x }
instance:Inhabited zqx:=⟨⟨0,by unfold isB;simp⟩⟩
end
section
variable {F:Nat→Option aT}
def dj (K:Lg)(v:AV)(cs:List AV)(n size:Nat):Prop:=bu K v cs n size∨(n=0∧cs=[]∧∃b,v=.sl (some (b,0)) 0 0 0∧K b=some (.raw (.cells [])))
theorem dj.block {K:Lg}{v:AV}{cs:List AV}{n size:Nat}(h:dj K v cs n size){b:Nat}(e:au v=some b):K b=some (.raw (.cells cs)):=by
 rcases h with h | ⟨_,rfl,b',rfl,h⟩
 ·exact h.block e
 ·simp[au]at e;subst e;exact h
theorem dj.El {α:Type}{f:α→List AV}{z:Nat}{K:Lg}{v:AV}{l:List α}(hf:∀x,(f x).length=z)(h:dj K v (zl f l) l.length z):cI f z K v l:=by
 rcases h with h | ⟨h1,h2,b,rfl,h3⟩
 ·exact cI.bD hf h
 ·have:=List.length_eq_zero_iff.1 h1
  subst this
  exact⟨some (b,0),0,0,rfl,by simp,.inl rfl,.inr ⟨b,0,[],rfl,.inl h3,by simp,fun i x hi=>by simp at hi⟩⟩
theorem zoN {K:Lg}{z:List AV}{size:Nat}{k:AV→Lg→Prop}(hk:∀(v':AV) (K1:Lg),dj K1 v' [] 0 size→zQ K K1→(∀b,au v'=some b→K b=none)→k v' K1):za F (.aC z 0 size []) [] K k:=by
 rw[vt,yg (c:=[]) _ _ (by simp[y7,zF]) rfl]
 intro b1 bP
 refine hk _ _ (.inr ⟨rfl,rfl,b1,rfl,ze _ _ _⟩) ((zQ.refl K).put bP _) ?_
 intro b hb;simp[au]at hb;subst hb;exact bP
theorem dj.app {α:Type}{f:α→List AV}{z bytes n:Nat}{K:Lg}{v src:AV}{cs:List AV}{l:List α}(hf:∀x,(f x).length=z)(h1:∀x,(f x).all AV.one=true)(hz:0<z)(h:dj K v cs n z)(hs:cI f z K src l)(hb:(n+l.length) * bytes≤70368744177664)
  {k:AV→Lg→Prop} (hk:∀(v':AV) (K1:Lg),dj K1 v' (cs++zl f l) (n+l.length) z→vX (au v) K K1→(∀b,au v'=some b→K b=none∨au v=some b)→k v' K1):za F (.app z bytes) [v,src] K k:=by
 obtain⟨a,cap,ex,rfl,hall⟩:=hs.all hf
 have hr:=hall K (zQ.refl K)
 rw[Xz]
 by_cases h0:l.length=0
 ·have hl:=List.length_eq_zero_iff.1 h0
  subst hl
  have same:k v K:=hk v K (by simpa[zl]using h) (fun r d hr _=>hr) (fun b hb=>.inr hb)
  simp only[List.length_nil,Nat.zero_mul]at hr
  rcases h with h | ⟨_,_,b,rfl,_⟩
  ·exact h.znz rfl (by simpa[zl]using hr) same
  ·simp only[Xp,List.length_nil,Nat.zero_mul,hr,Ia]
   simpa[zl]using same
 ·have hlen:=zY (f:=f) (k:=z) hf l
  rcases h with h | ⟨rfl,rfl,b,rfl,hb'⟩
  ·refine h.app (m:=l.length) hz rfl (by omega) hr hlen (Yw h1 l) hb ?_
   intro b K1 g hO
   refine hk _ _ (.inl hO) ?_ ?_
   ·intro r d hr hne
    have r2:r≠b:=by rintro rfl;rw[g.fresh]at hr;cases hr
    rw[g.same r r2 hne];exact hr
   ·intro q hq;simp[au]at hq;subst hq;exact .inl g.fresh
  ·refine w9 (L':=K) (old:=[]) hr (Yw h1 l) (by omega) hb (by simp[zH,hb',AB.read,cut,zp]) (by simp[Zn]) ?_
   intro q hq
   refine hk _ _ (.inl (.inr ⟨q,z,by omega,rfl,.inr rfl,ze _ _ _,by simp[hlen]⟩)) ?_ ?_
   ·intro r d hr _
    rw[zb];exact hr
    rintro rfl;rw[hq]at hr;cases hr
   ·intro q' hq';simp[au]at hq';subst hq';exact .inl hq
end
section
variable {F:Nat→Option aT}
def Xl (id:Int):List It→Nat→Int
 | [],_=>-1
 | x::r,k=>if x.id=id then (k:Int)else Xl id r (k+1)
theorem zdC {id:Int}{l:List It}{i:Nat}{x:It}(h:l[i]?=some x):Xl id (l.drop i) i=if x.id=id then (i:Int)else Xl id (l.drop (i+1)) (i+1):=by
 have hi:=(List.getElem?_eq_some_iff.1 h)
 obtain⟨h1,h2⟩:=hi
 rw[List.drop_eq_getElem_cons h1,h2]
 rfl
theorem We (id:Int):∀(l:List It) (k:Nat),(Xl id l k=-1∧yQ id l=none∧yS id l=l)∨∃(j:Nat) (x:It),Xl id l k=((k+j:Nat):Int)∧l[j]?=some x∧x.id=id∧yQ id l=some x∧((l.map It.id).Nodup→l.take j++l.drop (j+1)=yS id l)
 | [],k=>.inl ⟨rfl,rfl,rfl⟩
 | x::r,k=>by
  by_cases h:x.id=id
  ·refine .inr ⟨0,x,by simp[Xl,h],rfl,h,by simp[yQ,h],fun nd=>?_⟩
   simp only[List.map_cons,List.nodup_cons]at nd
   have:yS id r=r:=by
    unfold yS
    rw[List.filter_eq_self]
    intro y hy
    have:¬y.id=id:=fun h9=>nd.1 (by rw[h,←h9];exact List.mem_map_of_mem hy)
    simp[this]
   simp only[yS]at this
   simp[yS,h,this]
  ·rcases We id r (k+1)with⟨h1,h2,h3⟩ | ⟨j,y,h1,h2,h3,h4,h5⟩
   ·left
    refine⟨by simp[Xl,h,h1],by simp only[yQ]at h2 ⊢;simp[h,h2],?_⟩
    simp only[yS]at h3 ⊢
    simp[h,h3]
   ·right
    refine⟨j+1,y,by simp[Xl,h,h1];omega,by simpa using h2,h3,by simp only[yQ]at h4 ⊢;simp[h,h4],fun nd=>?_⟩
    simp only[List.map_cons,List.nodup_cons]at nd
    have:=h5 nd.2
    simp only[yS]at this ⊢
    simp[h,this]
theorem zhb {x:It}:∀(A B:List It),(∀y∈A,¬x.lt y)→(∀y∈B,x.lt y)→ins x (A++B)=A++x::B
 | [],[],_,_=>rfl
 | [],y::r,_,h=>by simp[ins,h y (by simp)]
 | a::A,B,h1,h2=>by
  simp only[List.cons_append,ins]
  rw[if_neg (h1 a (by simp)),zhb A B (fun y hy=>h1 y (by simp[hy])) h2]
def Iu (p:Int×Int):List AV:=[.i .i64 p.1,.i .i64 p.2,.i .i64 0]
def vV (id:Int):List (Int×Int)→Option Int
 | []=>none
 | p::r=>if p.1=id then some p.2 else vV id r
def ff (id:Int):List (Int×Int)→List (Int×Int)
 | []=>[]
 | p::r=>if p.1=id then r else p::ff id r
theorem zg4 {id:Int}:∀{l:List (Int×Int)} {j:Nat} {x:Int×Int},l[j]?=some x→x.1=id→(∀i y,i<j→l[i]?=some y→y.1≠id)→ff id l=l.take j++l.drop (j+1)
 | [],j,x,h,_,_=>by simp at h
 | a::r,0,x,h,hx,_=>by simp at h;subst h;simp[ff,hx]
 | a::r,j+1,x,h,hx,hn=>by
  have h0:=hn 0 a (by omega) rfl
  have:=zg4 (l:=r) (j:=j) (x:=x) (by simpa using h) hx (fun i y hi hy=>hn (i+1) y (by omega) (by simpa using hy))
  simp[ff,h0,this]
theorem zg3 {id:Int}:∀{l:List (Int×Int)},(∀y∈l,y.1≠id)→ff id l=l
 | [],_=>rfl
 | a::r,h=>by simp[ff,h a (by simp),zg3 (l:=r) (fun y hy=>h y (by simp[hy]))]
theorem zcp {id:Int}:∀{l:List (Int×Int)} {j:Nat} {x:Int×Int},l[j]?=some x→x.1=id→(∀i y,i<j→l[i]?=some y→y.1≠id)→vV id l=some x.2
 | [],j,x,h,_,_=>by simp at h
 | a::r,0,x,h,hx,_=>by simp at h;subst h;simp[vV,hx]
 | a::r,j+1,x,h,hx,hn=>by
  have h0:=hn 0 a (by omega) rfl
  have:=zcp (l:=r) (j:=j) (x:=x) (by simpa using h) hx (fun i y hi hy=>hn (i+1) y (by omega) (by simpa using hy))
  simp[vV,h0,this]
theorem Uc {id:Int}:∀{l:List (Int×Int)},(∀y∈l,y.1≠id)→vV id l=none
 | [],_=>rfl
 | a::r,h=>by simp[vV,h a (by simp),Uc (l:=r) (fun y hy=>h y (by simp[hy]))]
theorem zeu {id:Int}:∀{l:List (Int×Int)} {y:Int×Int},y∈ff id l→y∈l
 | [],y,h=>by simp[ff]at h
 | a::r,y,h=>by
  simp only[ff]at h
  split at h
  ·simp[h]
  ·rcases List.mem_cons.1 h with h | h
   ·simp[h]
   ·simp[zeu h]
theorem zet {id:Int}:∀{l:List (Int×Int)},(l.map (·.1)).Nodup→((ff id l).map (·.1)).Nodup∧(∀y∈ff id l,y.1≠id)∧∀j,vV j (ff id l)=yM (fun k=>vV k l) id none j
 | [],_=>⟨by simp[ff],by simp[ff],fun j=>by simp[ff,vV,yM]⟩
 | a::r,nd=>by
  simp only[List.map_cons,List.nodup_cons]at nd
  obtain⟨h1,h2,h3⟩:=zet (id:=id) nd.2
  by_cases h:a.1=id
  ·have hn:∀y∈r,y.1≠id:=fun y hy h9=>nd.1 (by rw[h,←h9];exact List.mem_map_of_mem hy)
   refine⟨by simpa[ff,h]using nd.2,by simpa[ff,h]using hn,fun j=>?_⟩
   simp only[ff,h,if_true,yM,vV]
   by_cases hj:id=j
   ·subst hj;simp[Uc hn]
   ·simp[hj]
  ·refine⟨?_,?_,fun j=>?_⟩
   ·simp only[ff,h,if_false,List.map_cons,List.nodup_cons]
    refine⟨fun h9=>?_,h1⟩
    obtain⟨y,hy,he⟩:=List.mem_map.1 h9
    exact nd.1 (by rw[←he];exact List.mem_map_of_mem (zeu hy))
   ·intro y hy
    simp only[ff,h,if_false]at hy
    rcases List.mem_cons.1 hy with rfl | hy
    ·exact h
    ·exact h2 y hy
   ·have:=h3 j
    simp only[yM]at this
    simp only[ff,h,if_false,yM,vV,this]
    by_cases hj:id=j
    ·subst hj;simp[h]
    ·simp[hj]
theorem Y4 {id p j:Int}:∀{l:List (Int×Int)},(∀y∈l,y.1≠id)→vV j (l++[(id,p)])=yM (fun k=>vV k l) id (some p) j
 | [],_=>by simp[vV,yM]
 | a::r,h=>by
  have:=Y4 (id:=id) (p:=p) (j:=j) (l:=r) (fun y hy=>h y (by simp[hy]))
  have h0:=h a (by simp)
  simp only[yM]at this
  simp only[List.cons_append,vV,this,yM]
  by_cases hj:id=j
  ·subst hj;simp[h0]
  ·simp[hj]
structure aA (L:Lg)(u:Nat)(σ:bk)(aK:List (Int×Int))(sv pv ov:AV)(K:Lg):Prop where
 root:K u=some (.raw (.cells [sv,.i .i64 σ.x.seq,pv,ov,.i .i64 σ.named]))
 hs:dj K sv (zl It.cells σ.x.l) σ.x.l.length 3
 ps:dj K pv (zl Iu aK) aK.length 3
 os:bu K ov (zl On.cells σ.af) σ.af.length 4
 a1:∀b,au sv=some b→b≠u∧L b=none
 a2:∀b,au pv=some b→b≠u∧L b=none∧au sv≠some b
 a3:∀b,au ov=some b→b≠u∧L b=none∧au sv≠some b∧au pv≠some b
 old:∀r d,r≠u→L r=some d→K r=some d
theorem dj.one {K:Lg}{v:AV}{cs:List AV}{n size:Nat}(h:dj K v cs n size):v.one=true:=by
 rcases h with h | ⟨_,_,b,rfl,_⟩
 ·exact h.one
 ·rfl
theorem dj.cellsOf {K:Lg}{v:AV}{cs:List AV}{n size:Nat}(h:dj K v cs n size):v.cellsOf=some [v]:=by
 rcases h with h | ⟨_,_,b,rfl,_⟩
 ·exact h.cellsOf
 ·rfl
theorem dj.same {K:Lg}{v:AV}{cs:List AV}{n size:Nat}(h:dj K v cs n size):ve v v=true:=by
 rcases h with (⟨_,_,rfl⟩ | ⟨b,ex,_,rfl,_⟩) | ⟨_,_,b,rfl,_⟩<;>simp
theorem dj.mono {K K':Lg}{v:AV}{cs:List AV}{n size:Nat}(h:dj K v cs n size)(e:∀b,au v=some b→K' b=K b):dj K' v cs n size:=by
 rcases h with h | ⟨h1,h2,b,rfl,h3⟩
 ·exact .inl (h.mono e)
 ·exact .inr ⟨h1,h2,b,rfl,by rw[e b rfl];exact h3⟩
theorem dj.sub {K K':Lg}{v:AV}{cs:List AV}{n size:Nat}(h:dj K v cs n size)(e:∀b d,au v=some b→K b=some d→K' b=some d):dj K' v cs n size :=
 h.mono fun b hb=>by rw[h.block hb];exact e b _ hb (h.block hb)
theorem bu.sub {K K':Lg}{v:AV}{cs:List AV}{n size:Nat}(h:bu K v cs n size)(e:∀b d,au v=some b→K b=some d→K' b=some d):bu K' v cs n size :=
 h.mono fun b hb=>by rw[h.block hb];exact e b _ hb (h.block hb)
theorem zbc {z cs:List AV}{size:Nat}{K:Lg}{k:AV→Lg→Prop}(hz:z.length=size)(hc:cs.length=size)(h1:cs.all AV.one=true)(hk:∀(v:AV) (K1:Lg),bu K1 v cs 1 size→zQ K K1→(∀b,au v=some b→K b=none)→k v K1) :
  Xw (Zx z 1 size [0]) [.agg cs] K k:=by
 rw[yg (c:=cs) _ _ (by simp[y7,zF,zo,zp,zq,hz,hc,vN cs h1]) h1]
 intro b1 bP
 refine hk _ _ (.inr ⟨b1,0,by omega,rfl,.inl rfl,ze _ _ _,by simp[hc]⟩) ((zQ.refl K).put bP _) ?_
 intro b hb;simp[au]at hb;subst hb;exact bP
theorem zak {z cs:List AV}{size:Nat}{K:Lg}{k:AV→Lg→Prop}(hz:z.length=size)(hc:cs.length=size)(h1:cs.all AV.one=true)(hk:∀(v:AV) (K1:Lg),bu K1 v cs 1 size→zQ K K1→(∀b,au v=some b→K b=none)→k v K1) :
  za F (.aC z 1 size [0]) [.agg cs] K k:=by
 rw[vt]
 exact zbc hz hc h1 hk
end
section
variable {F:Nat→Option aT}
structure cJ (K0:Lg)(v:AV)(cs:List AV)(n z:Nat)(K1:Lg):Prop where
 o:dj K1 v cs n z
 s:zQ K0 K1
 f:∀b,au v=some b→K0 b=none
theorem zQ.none {K0 K1:Lg}(h:zQ K0 K1){b:Nat}(hb:K1 b=Option.none):K0 b=Option.none:=by
 cases hk:K0 b with
 | none=>rfl
 | some d=>rw[h b d hk]at hb;cases hb
theorem cJ.start {K:Lg}{zs:List AV}{z:Nat}{k:AV→Lg→Prop}(hk:∀(v:AV) (K1:Lg),cJ K v [] 0 z K1→k v K1):za F (.aC zs 0 z []) [] K k :=
 zoN fun v K1 h1 h2 h3=>hk v K1 ⟨h1,h2,h3⟩
theorem cJ.app {α:Type}{f:α→List AV}{z bytes n:Nat}{K0 K:Lg}{v src:AV}{cs:List AV}{l:List α}(h:cJ K0 v cs n z K)(hf:∀x,(f x).length=z)(h1:∀x,(f x).all AV.one=true)(hz:0<z)(hs:cI f z K src l)(hb:(n+l.length) * bytes≤70368744177664)
  {k:AV→Lg→Prop} (hk:∀(v':AV) (K1:Lg),cJ K0 v' (cs++zl f l) (n+l.length) z K1→k v' K1):za F (.app z bytes) [v,src] K k:=by
 refine h.o.app hf h1 hz hs hb ?_
 intro v' K1 h2 h3 h4
 refine hk v' K1 ⟨h2,fun r d hr=>h3 r d (h.s r d hr) (fun h9=>by have:=h.f r h9;rw[hr]at this;cases this),fun b hb'=>?_⟩
 rcases h4 b hb' with h9 | h9
 ·exact h.s.none h9
 ·exact h.f b h9
theorem cJ.mono {z n:Nat}{K0 K K':Lg}{v:AV}{cs:List AV}(h:cJ K0 v cs n z K)(hs:zQ K K'):cJ K0 v cs n z K':=⟨h.o.sub fun b d _ hd=>hs b d hd,h.s.trans hs,h.f⟩
theorem It.dQ (x:It):x.cells.length=3:=rfl
theorem It.eA (x:It):x.cells.all AV.one=true:=rfl
theorem Yl (x:Int×Int):(Iu x).length=3:=rfl
theorem Ud (x:Int×Int):(Iu x).all AV.one=true:=rfl
section
variable {L K:Lg} {u:Nat} {σ:bk} {aK:List (Int×Int)} {sv pv ov:AV}
theorem aA.ne (o:aA L u σ aK sv pv ov K){b:Nat}(hb:K b=none):b≠u∧L b=none∧au sv≠some b∧au pv≠some b∧au ov≠some b:=by
 have h1:b≠u:=by rintro rfl;have:=o.root;rw[hb]at this;cases this
 refine⟨h1,?_,?_,?_,?_⟩
 ·cases h:L b with
  | none=>rfl
  | some d=>rw[o.old b d h1 h]at hb;cases hb
 ·intro h;have:=o.hs.block h;rw[hb]at this;cases this
 ·intro h;have:=o.ps.block h;rw[hb]at this;cases this
 ·intro h;have:=o.os.block h;rw[hb]at this;cases this
theorem aA.sub (o:aA L u σ aK sv pv ov K){K':Lg}(h:zQ K K'):aA L u σ aK sv pv ov K' :=
 ⟨h _ _ o.root,o.hs.sub fun b d _ hd=>h b d hd,o.ps.sub fun b d _ hd=>h b d hd,o.os.sub fun b d _ hd=>h b d hd,o.a1,o.a2,o.a3,fun r d hr hd=>h r d (o.old r d hr hd)⟩
theorem aA.bW (o:aA L u σ aK sv pv ov K){b:Nat}(hb:K b=none)(d:LC):aA (L.put b d) u σ aK sv pv ov (K.put b d):=by
 obtain⟨n1,n2,n3,n4,n5⟩:=o.ne hb
 have key:∀{r:Nat} {v:AV},au v=some r→au v≠some b→(L.put b d) r=L r:=fun {r} {v} h1 h2=>zb _ _ _ (by rintro rfl;exact h2 h1)
 have o':=o.sub ((zQ.refl K).put hb d)
 refine⟨o'.root,o'.hs,o'.ps,o'.os,fun r h=>?_,fun r h=>?_,fun r h=>?_,fun r e hr he=>?_⟩
 ·rw[key h n3];exact o.a1 r h
 ·rw[key h n4];exact o.a2 r h
 ·rw[key h n5];exact o.a3 r h
 ·rw[Lg.ah]at he ⊢
  split
  ·rename_i h9;rw[if_pos h9]at he;exact he
  ·rename_i h9;rw[if_neg h9]at he;exact o.old r e hr he
theorem aA.below (o:aA L u σ aK sv pv ov K){L0:Lg}(h:∀r d,r≠u→L0 r=some d→L r=some d):aA L0 u σ aK sv pv ov K:=by
 have key:∀b,b≠u→L b=none→L0 b=none:=fun b h1 h2=>by
  cases h3:L0 b with
  | none=>rfl
  | some d=>rw[h b d h1 h3]at h2;cases h2
 exact⟨o.root,o.hs,o.ps,o.os,fun b hb=>⟨(o.a1 b hb).1,key b (o.a1 b hb).1 (o.a1 b hb).2⟩,fun b hb=>⟨(o.a2 b hb).1,key b (o.a2 b hb).1 (o.a2 b hb).2.1,(o.a2 b hb).2.2⟩,
  fun b hb=>⟨(o.a3 b hb).1,key b (o.a3 b hb).1 (o.a3 b hb).2.1,(o.a3 b hb).2.2⟩,fun r d hr hd=>o.old r d hr (h r d hr hd)⟩
theorem aA.zk6 (o:aA L u σ aK sv pv ov K){v:AV}{l:List It}{K1:Lg}(h:cJ K v (zl It.cells l) l.length 3 K1) :
  aA L u { σ with x:={ σ.x with l:=l } } aK v pv ov (K1.put u (.raw (.cells [v,.i .i64 σ.x.seq,pv,ov,.i .i64 σ.named]))):=by
 have fr:=fun b hb=>o.ne (h.f b hb)
 have kp:∀{b:Nat} {d:LC},b≠u→K b=some d→(K1.put u (.raw (.cells [v,.i .i64 σ.x.seq,pv,ov,.i .i64 σ.named]))) b=some d:=fun {b d} h1 h2=>by rw[zb _ _ _ h1];exact h.s b d h2
 refine⟨ze _ _ _,h.o.mono fun b hb=>zb _ _ _ (fr b hb).1,o.ps.sub fun b d hb hd=>kp (o.a2 b hb).1 hd,o.os.sub fun b d hb hd=>kp (o.a3 b hb).1 hd,
  fun b hb=>⟨(fr b hb).1,(fr b hb).2.1⟩,fun b hb=>⟨(o.a2 b hb).1,(o.a2 b hb).2.1,fun h9=>(fr b h9).2.2.2.1 hb⟩,fun b hb=>⟨(o.a3 b hb).1,(o.a3 b hb).2.1,fun h9=>(fr b h9).2.2.2.2 hb,(o.a3 b hb).2.2.2⟩,
  fun r d hr hd=>kp hr (o.old r d hr hd)⟩
theorem aA.zk5 (o:aA L u σ aK sv pv ov K){v:AV}{l:List (Int×Int)}{K1:Lg}(h1:dj K1 v (zl Iu l) l.length 3)(h2:vX (au pv) K K1)(h3:∀b,au v=some b→K b=none∨au pv=some b) :
  aA L u σ l sv v ov (K1.put u (.raw (.cells [sv,.i .i64 σ.x.seq,v,ov,.i .i64 σ.named]))):=by
 have fr:∀b,au v=some b→b≠u∧L b=none∧au sv≠some b∧au ov≠some b:=fun b hb=>by
  rcases h3 b hb with h | h
  ·have:=o.ne h;exact⟨this.1,this.2.1,this.2.2.1,this.2.2.2.2⟩
  ·have:=o.a2 b h;exact⟨this.1,this.2.1,this.2.2,fun h9=>(o.a3 b h9).2.2.2 h⟩
 have kp:∀{b:Nat} {d:LC},b≠u→au pv≠some b→K b=some d→(K1.put u (.raw (.cells [sv,.i .i64 σ.x.seq,v,ov,.i .i64 σ.named]))) b=some d:=fun {b d} g1 g2 g3=>by rw[zb _ _ _ g1];exact h2 b d g3 g2
 refine⟨ze _ _ _,o.hs.sub fun b d hb hd=>kp (o.a1 b hb).1 (fun h9=>(o.a2 b h9).2.2 hb) hd,h1.mono fun b hb=>zb _ _ _ (fr b hb).1,o.os.sub fun b d hb hd=>kp (o.a3 b hb).1 (o.a3 b hb).2.2.2 hd,
  o.a1,fun b hb=>⟨(fr b hb).1,(fr b hb).2.1,(fr b hb).2.2.1⟩,fun b hb=>⟨(o.a3 b hb).1,(o.a3 b hb).2.1,(o.a3 b hb).2.2.1,fun h9=>(fr b h9).2.2.2 hb⟩,
  fun r d hr hd=>kp hr (fun h9=>by have:=(o.a2 r h9).2.1;rw[hd]at this;cases this) (o.old r d hr hd)⟩
theorem aA.seq (o:aA L u σ aK sv pv ov K)(q:Int):aA L u { σ with x:={ σ.x with seq:=q } } aK sv pv ov (K.put u (.raw (.cells [sv,.i .i64 q,pv,ov,.i .i64 σ.named]))) :=
 ⟨ze _ _ _,o.hs.mono fun b hb=>zb _ _ _ (o.a1 b hb).1,o.ps.mono fun b hb=>zb _ _ _ (o.a2 b hb).1,o.os.mono fun b hb=>zb _ _ _ (o.a3 b hb).1,o.a1,o.a2,o.a3,
  fun r d hr hd=>by rw[zb _ _ _ hr];exact o.old r d hr hd⟩
theorem aA.pf (o:aA L u σ aK sv pv ov K)(f:Int→Option Int):aA L u { σ with x:={ σ.x with pf:=f } } aK sv pv ov K:=⟨o.root,o.hs,o.ps,o.os,o.a1,o.a2,o.a3,o.old⟩
theorem aA.El (o:aA L u σ aK sv pv ov K):cI It.cells 3 K sv σ.x.l:=dj.El It.dQ o.hs
theorem aA.slP (o:aA L u σ aK sv pv ov K):cI Iu 3 K pv aK:=dj.El Yl o.ps
theorem aA.slO (o:aA L u σ aK sv pv ov K):cI On.cells 4 K ov σ.af:=cI.bD (fun _=>rfl) o.os
theorem aA.r0 (o:aA L u σ aK sv pv ov K):aq K (u,0) none=some sv:=by rw[zj o.root];rfl
theorem aA.r1 (o:aA L u σ aK sv pv ov K):aq K (u,1) none=some (.i .i64 σ.x.seq):=by rw[zj o.root];rfl
theorem aA.r2 (o:aA L u σ aK sv pv ov K):aq K (u,2) none=some pv:=by rw[zj o.root];rfl
theorem aA.r3 (o:aA L u σ aK sv pv ov K):aq K (u,3) none=some ov:=by rw[zj o.root];rfl
theorem aA.st (o:aA L u σ aK sv pv ov K){K1:Lg}(h:zQ K K1){i:Nat}(hi:i<5){w:AV}(hw:w.cellsOf=some [w]){k:AV→Lg→Prop}
  (hk:k .bad (K1.put u (.raw (.cells ([sv,.i .i64 σ.x.seq,pv,ov,.i .i64 σ.named].set i w))))):jy 1 K1 k [.p (some (u,i)),w]:=by
 rw[zD (h _ _ o.root) (by simpa using hi) hw];exact hk
theorem aA.RC (o:aA L u σ aK sv pv ov K){b:Nat}(h1:b≠u)(h2:L b=none)(h3:au sv≠some b)(h4:au pv≠some b)(h5:au ov≠some b)(d:LC):aA L u σ aK sv pv ov (K.put b d):=by
 have ne:∀{r:Nat} {v:AV},au v=some r→au v≠some b→r≠b:=fun {r} {v} g1 g2=>by rintro rfl;exact g2 g1
 exact⟨by rw[zb _ _ _ (Ne.symm h1)];exact o.root,o.hs.mono fun r hr=>zb _ _ _ (ne hr h3),o.ps.mono fun r hr=>zb _ _ _ (ne hr h4),o.os.mono fun r hr=>zb _ _ _ (ne hr h5),o.a1,o.a2,o.a3,
  fun r e hr he=>by rw[zb _ _ _ (by rintro rfl;rw[h2]at he;cases he)];exact o.old r e hr he⟩
theorem zdD (hf:KZ F)(o:aA L u σ aK sv pv ov K)(hl:σ.x.l.length≤1000000)(id:Int):zd F AA [.p (some (u,0)),.i .i64 id] K fun w K'=>w=.i .i64 (Xl id σ.x.l 0)∧K'=K:=by
 refine zr ?_
 intro Q hQ
 apply zkr hf.code
 unfold C1 CZ CY
 obtain⟨l,Fg⟩:∃l,l=σ.x.l:=⟨_,rfl⟩
 obtain⟨I,hI⟩:∃I:Nat→Env→Lg→Prop,I=fun m E K'=>∃i:Nat,m+i=l.length∧E 0=.p (some (u,0))∧E 1=.i .i64 id∧E 5=.i .i64 i∧K'=K∧Xl id l 0=Xl id (l.drop i) i:=⟨_,rfl⟩
 refine zN I l.length ?_ ?_
 ·rw[hI];exact⟨0,by omega,by simp[zI],by simp[zI],by simp,rfl,rfl⟩
 intro m E t K' hi
 rw[hI]at hi
 obtain⟨i,hm,e0,e1,e5,rfl,kf⟩:=hi
 have fin:∀w,w=Xl id l 0→zm (some (.i .i64 w)) Q K':=fun w hw=>⟨K',zx.refl _,hQ _ _ ⟨by rw[hw,Fg],rfl⟩⟩
 have r0:=o.r0
 have sg:=o.El
 rw[←Fg]at sg hl
 have hlen:=fun X k=>sg.len (F:=F) X k
 unfold CW
 rw[e0,e1,e5]
 simp only[zf,zh,zk,Nat.zero_add,zt,r0,zg,hlen,yP,zM]
 refine⟨fun hlt=>?_,fun Bu=>?_⟩
 rotate_left
 ·unfold C0
  refine fin _ ?_
  rw[kf,List.drop_eq_nil_iff.2 (by omega)];rfl
 have bK:i<l.length:=by omega
 have hx:l[i]?=some l[i]:=List.getElem?_eq_getElem bK
 generalize l[i]=x at hx
 have w1:wr .i64 ((i:Int)+1)=((i+1:Nat):Int):=by rw[zT (by omega) (by omega)];omega
 obtain⟨b,q,q1,q2,_⟩:=sg.get (F:=F) hx
 have rid:aq K' (b,q) none=some (.i .i64 x.id):=(q2 K' (zQ.refl _)).1 0 (by omega)
 have hstep:=zdC (id:=id) hx
 rw[hstep]at kf
 simp only[zf,zh,zk,Nat.add_zero,Nat.zero_add,zt,r0,zg,q1,rid,xw,zM]
 refine⟨fun heq=>fin _ ?_,fun hne=>?_⟩
 ·rw[kf,if_pos heq]
 ·simp only[zf,y6,w1]
  rw[hI]
  refine⟨m-1,by omega,i+1,by omega,by simp[e0],by simp[e1],by simp,rfl,?_⟩
  rw[kf,if_neg hne]
theorem zgB (hf:KY F)(o:aA L u σ aK sv pv ov K)(nd:(σ.x.l.map It.id).Nodup)(hl:σ.x.l.length≤1000000)(id:Int) :
  zd F Az [.p (some (u,0)),.i .i64 id] K fun v K'=>v=wF (yQ id σ.x.l)∧∃ey,aA L u { σ with x:={ σ.x with l:=yS id σ.x.l } } aK ey pv ov K':=by
 refine zr ?_
 intro Q hQ
 apply zkq hf.code
 unfold CV CU
 simp
 intro rc hrc
 obtain⟨K1,ki⟩:∃K1,K1=K.put rc (.raw (.cells [.i .i64 0,.i .i64 0,.i .i64 0])):=⟨_,rfl⟩
 have s1:zQ K K1:=by rw[ki];exact (zQ.refl K).put hrc _
 have HE:K1 rc=some (.raw (.cells [.i .i64 0,.i .i64 0,.i .i64 0])):=by rw[ki,ze]
 have mJ:=o.ne hrc
 rw[←ki]
 have o1:=o.sub s1
 refine (zdD hf.f66 o1 hl id).mono ?_
 rintro _ K2 ⟨rfl,gE⟩
 rw[gE]
 unfold CT
 rcases We id σ.x.l 0 with⟨h1,h2,h3⟩ | ⟨j,x,h1,h2,h3,h4,h5⟩
 ·rw[h1]
  simp[zF]
  rw[zu HE (by simp) (by simp) (by simp),zX _ _ (ze _ _ _) (by simp[zo])]
  refine⟨K,?_,hQ _ _ ⟨by rw[h2];simp[zo,wF,It.zero,It.av,It.cells],sv,?_⟩⟩
  ·rw[ki,zA];exact ((zQ.refl K).put hrc _).cj
  ·rw[h3];exact o
 ·have hj:=(List.getElem?_eq_some_iff.1 h2).1
  have e1:((0+j:Nat):Int)=(j:Int):=by omega
  rw[h1,e1]
  obtain⟨b,q,q1,q2,_⟩:=o1.El.get (F:=F) h2
  have hr:=(q2 K1 (zQ.refl _)).2
  have w1:wr .i64 ((j:Int)+1)=((j+1:Nat):Int):=by rw[zT (by omega) (by omega)];omega
  simp only[zf,yP,zM]
  refine⟨fun h9=>absurd h9 (by omega),fun _=>?_⟩
  simp only[zf,zh,zk,Nat.add_zero,zt,o1.r0,zg,q1,hr,y4]
  intro x9 N4
  have n9:x9≠rc:=by rintro rfl;rw[HE]at N4;cases N4
  have n9u:=o1.ne N4
  rw[yj,zu (ze _ _ _) (It.eA x) (It.dQ x) (by simp),zA,show zo [AV.i .i64 0,.i .i64 0,.i .i64 0] 0 x.cells=x.cells by simp[zo,It.cells]]
  obtain⟨K4,Ng⟩:∃K4,K4=K1.put x9 (.raw (.cells x.cells)):=⟨_,rfl⟩
  have s4:zQ K1 K4:=by rw[Ng];exact (zQ.refl K1).put N4 _
  have k9:K4 x9=some (.raw (.cells x.cells)):=by rw[Ng,ze]
  rw[←Ng]
  have o4:=o1.sub s4
  refine cJ.start ?_
  intro v11 K5 l5
  have o5:=o4.sub l5.s
  obtain⟨va,e2,sa⟩:=o5.El.upto (k:=j) (by omega)
  simp only[zf,zh,zk,Nat.add_zero,zt,o5.r0,zg,YX,e2]
  refine l5.app It.dQ It.eA (by omega) sa (by simp;omega) ?_
  intro v16 K6 l6
  have o6:=o4.sub l6.s
  obtain⟨vb,e3,sb⟩:=o6.El.from (k:=j+1) (by omega)
  simp only[zf,zh,zk,Nat.add_zero,zt,o6.r0,zg,y6,w1,YX,e3]
  refine l6.app It.dQ It.eA (by omega) sb (by simp;omega) ?_
  intro LP K7 l7
  have hfl:[]++zl It.cells (σ.x.l.take j)++zl It.cells (σ.x.l.drop (j+1))=zl It.cells (yS id σ.x.l):=by
   rw[List.nil_append,←zU,h5 nd]
  have Si:0+(σ.x.l.take j).length+(σ.x.l.drop (j+1)).length=(yS id σ.x.l).length:=by
   rw[←h5 nd,List.length_append];omega
  rw[hfl,Si]at l7
  have o8:=o4.zk6 l7
  simp only[zf,zh,zk,Nat.add_zero,yj]
  refine o4.st l7.s (by omega) l7.o.cellsOf ?_
  refine⟨⟨by simp[yb,yC,XT,o6.r0,o4.r0,o.hs.same],trivial⟩,?_⟩
  have zqP:rc≠u:=mJ.1
  have kk:∀{b:Nat} {d:LC},b≠u→K4 b=some d→(K7.put u (.raw (.cells [LP,.i .i64 σ.x.seq,pv,ov,.i .i64 σ.named]))) b=some d:=fun {b d} g1 g2=>by rw[zb _ _ _ g1];exact l7.s b d g2
  have r9:=yc (o:=0) (n:=3) (kk n9u.1 k9) (by simp[It.cells])
  have Qk:=kk mJ.1 (s4 _ _ HE)
  have ta:(AV.agg (List.take 3 (List.drop 0 x.cells)))=.agg x.cells:=rfl
  rw[ta]at r9
  rw[List.set_cons_zero]
  simp only[zf,zt,r9,zg]
  rw[yj,zu Qk (It.eA x) (It.dQ x) (by simp),zX _ _ (ze _ _ _) (by simp[zo,It.cells])]
  refine⟨_,zx.refl _,hQ _ _ ⟨by rw[h4];simp[zo,It.cells,It.av,wF],LP,?_⟩⟩
  exact o8.RC mJ.1 mJ.2.1 (fun h9=>by have:=l7.f rc h9;rw[s4 _ _ HE]at this;cases this) mJ.2.2.2.1 mJ.2.2.2.2 _
end
end
section
variable {F:Nat→Option aT}
structure cD (aK:List (Int×Int))(x:Xs):Prop where
 pm:(aK.map (·.1)).Perm (x.l.map It.id)
 eq:∀j,x.pf j=vV j aK
theorem zev {id:Int}:∀{l:List (Int×Int)},(l.map (·.1)).Nodup→(ff id l).map (·.1)=(l.map (·.1)).filter fun j=>!decide (j=id)
 | [],_=>rfl
 | a::r,nd=>by
  simp only[List.map_cons,List.nodup_cons]at nd
  by_cases h:a.1=id
  ·have:(r.map (·.1)).filter (fun j=>!decide (j=id))=r.map (·.1):=by
    rw[List.filter_eq_self]
    intro j hj
    have:¬j=id:=fun h9=>nd.1 (by rw[h,←h9];exact hj)
    simp[this]
   simp only[ff,h,if_true,List.map_cons]
   rw[List.filter_cons_of_neg (by simp),this]
  ·have:=zev (id:=id) nd.2
   simp only[ff,h,if_false,List.map_cons]
   rw[List.filter_cons_of_pos (by simp[h]),this]
theorem zgk (id:Int)(l:List It):(yS id l).map It.id=(l.map It.id).filter fun j=>!decide (j=id):=by
 unfold yS
 rw[List.filter_map];rfl
theorem cD.nd {aK:List (Int×Int)}{x:Xs}(h:cD aK x)(nd:(x.l.map It.id).Nodup):(aK.map (·.1)).Nodup:=h.pm.nodup_iff.2 nd
theorem cD.len {aK:List (Int×Int)}{x:Xs}(h:cD aK x):aK.length=x.l.length:=by simpa using h.pm.length_eq
theorem cD.stop {aK:List (Int×Int)}{x:Xs}(h:cD aK x)(nd:(x.l.map It.id).Nodup)(id:Int):cD (ff id aK) (x.stop id):=by
 have n1:=h.nd nd
 refine⟨?_,fun j=>?_⟩
 ·simp only[Xs.stop]
  rw[zev n1,zgk];exact h.pm.filter _
 ·rw[(zet (id:=id) n1).2.2 j]
  simp only[Xs.stop,yM,h.eq]
theorem cD.aP {aK:List (Int×Int)}{x:Xs}(h:cD aK x)(nd:(x.l.map It.id).Nodup)(id w p:Int):cD (ff id aK++[(id,p)]) (x.aP id w p):=by
 have n1:=h.nd nd
 have hs:=h.stop nd id
 refine⟨?_,fun j=>?_⟩
 ·simp only[Xs.aP,List.map_append,List.map_cons,List.map_nil]
  refine List.Perm.trans ?_ ((vm _ _).map It.id).symm
  simp only[List.map_cons]
  refine List.Perm.trans List.perm_append_comm ?_
  exact hs.pm.cons _
 ·rw[Y4 (zet n1).2.1]
  simp only[Xs.aP,yM]
  have:=hs.eq j
  simp only[Xs.stop,yM]at this
  rw[this]
theorem zgl (o:Option It):wF o=.ay [(o.getD It.zero).av,.b o.isSome]:=by cases o<;>rfl
section
variable {L K:Lg} {u:Nat} {σ:bk} {aK:List (Int×Int)} {sv pv ov:AV}
theorem zlv (hf:KX F)(o:aA L u σ aK sv pv ov K)(hs:σ.x.l.Pairwise It.lt)(hb:∀y∈σ.x.l,y.s≤σ.x.seq)(hl:σ.x.l.length<1000000)(hq:0≤σ.x.seq∧σ.x.seq<4611686018427387904)(id when:Int) :
  zd F Ay [.p (some (u,0)),.i .i64 id,.i .i64 when] K fun v K'=>v=.ay []∧∃ey,aA L u { σ with x:={ σ.x with l:=ins ⟨id,when,σ.x.seq+1⟩ σ.x.l,seq:=σ.x.seq+1 } } aK ey pv ov K':=by
 refine zr ?_
 intro Q hQ
 apply zko hf.code
 generalize hE:zI [AV.p (some (u,0)),.i .i64 id,.i .i64 when] 0=E
 have e0:E 0=.p (some (u,0)):=by rw[←hE];simp[zI]
 have e1:E 1=.i .i64 id:=by rw[←hE];simp[zI]
 have e2:E 2=.i .i64 when:=by rw[←hE];simp[zI]
 clear hE
 obtain⟨l,Fg⟩:∃l,l=σ.x.l:=⟨_,rfl⟩
 have zqV:l.length<1000000:=by rw[Fg];exact hl
 obtain⟨s,hss⟩:∃s,s=σ.x.seq:=⟨_,rfl⟩
 have w1:wr .i64 (s+1)=s+1:=by rw[zT (by omega) (by omega)]
 have r1:=o.r1
 rw[←hss]at r1
 unfold CM
 simp only[zf,e0,zh,zk,Nat.zero_add,zt,r1,zg,y6,w1,yj]
 refine o.st (zQ.refl _) (by omega) rfl ?_
 have o1:=o.seq (s+1)
 simp only[List.set_cons_succ,List.set_cons_zero]
 generalize (K.put u (.raw (.cells [sv,.i .i64 (s+1),pv,ov,.i .i64 σ.named])))=K1 at o1
 have sg:=o1.El
 simp only[←Fg]at sg
 have hlen:=fun X k=>sg.len (F:=F) X k
 unfold CK CJ
 simp only[zf,e0,zh,zk,Nat.zero_add,zt,o1.r0,zg,hlen]
 obtain⟨I,hI⟩:∃I:Nat→Env→Lg→Prop,I=fun m E K'=>E 0=.p (some (u,0))∧E 1=.i .i64 id∧E 2=.i .i64 when∧E 6=.i .i64 m∧K'=K1∧m≤l.length∧∀y∈l.drop m,when<y.w:=⟨_,rfl⟩
 refine zN I l.length ?_ ?_
 ·rw[hI];exact⟨by simp[e0],by simp[e1],by simp[e2],by simp,rfl,Nat.le_refl _,by simp⟩
 intro m E t K' hi
 rw[hI]at hi
 obtain⟨e0,e1,e2,e6,rfl,hm,hd⟩:=hi
 have w0:∀i:Nat,0<i→i≤l.length→wr .i64 ((i:Int)-1)=((i-1:Nat):Int):=fun i h1 h2=>by rw[zT (by omega) (by omega)];omega
 have key:(∀y∈l.take m,¬when<y.w)→nC F Q (.p (some (u,0))) (.i .i64 id) (.i .i64 when) (.i .i64 m) K':=by
  intro hA
  obtain⟨x,hx⟩:∃x:It,x=⟨id,when,s+1⟩:=⟨_,rfl⟩
  have zlK:ins x l=l.take m++x::l.drop m:=by
   have:=zhb (x:=x) (l.take m) (l.drop m) (fun y hy=>?_) (fun y hy=>?_)
   ·rwa [List.take_append_drop]at this
   ·have h1:=hA y hy
    have h2:=hb y (by rw[←Fg];exact List.mem_of_mem_take hy)
    rw[hx];unfold It.lt;simp only;omega
   ·have h1:=hd y hy
    rw[hx];unfold It.lt;simp only;omega
  unfold nC
  refine cJ.start ?_
  intro v1 K2 l2
  have o2:=o1.sub l2.s
  have sg2:=o2.El
  simp only[←Fg]at sg2
  obtain⟨va,c2,sa⟩:=sg2.upto (k:=m) hm
  simp only[zf,zh,zk,Nat.zero_add,zt,o2.r0,zg,YX,c2]
  have hlt:(l.take m).length=m:=by simp;omega
  refine l2.app It.dQ It.eA (by omega) sa (by rw[hlt];omega) ?_
  intro v6 K3 l3
  have o3:=o1.sub l3.s
  have r13:=o3.r1
  simp only at r13
  simp only[zf,zh,zk,Nat.zero_add,zt,r13,zg]
  simp[zF,zo,zp,zq]
  rw[show [AV.i .i64 id,.i .i64 when,.i .i64 (s+1)]=x.cells by rw[hx];rfl]
  refine zbc rfl (It.dQ x) (It.eA x) ?_
  intro v11 K4 o11 s4 f11
  have l4:=l3.mono s4
  have s11:cI It.cells 3 K4 v11 [x]:=cI.bD (f:=It.cells) It.dQ (by simpa[zl]using o11)
  refine l4.app It.dQ It.eA (by omega) s11 (by rw[hlt];simp;omega) ?_
  intro v12 K5 l5
  have o5:=o1.sub l5.s
  have sg5:=o5.El
  simp only[←Fg]at sg5
  obtain⟨vb,c5,sb⟩:=sg5.from (k:=m) hm
  simp only[zf,zh,zk,Nat.zero_add,zt,o5.r0,zg,YX,c5]
  refine l5.app It.dQ It.eA (by omega) sb (by simp;omega) ?_
  intro Ml K6 l6
  have hfl:[]++zl It.cells (l.take m)++zl It.cells [x]++zl It.cells (l.drop m)=zl It.cells (ins x l):=by
   rw[List.nil_append,←zU,←zU,zlK];simp
  have Si:0+(l.take m).length + [x].length+(l.drop m).length=(ins x l).length:=by rw[zlK];simp;omega
  rw[hfl,Si]at l6
  have o6:=o1.zk6 l6
  simp only[zf,zh,zk,Nat.zero_add,yj]
  refine o1.st l6.s (by omega) l6.o.cellsOf ?_
  have o4:=o1.sub l4.s
  have r12:=o2.r1
  have r11:=o1.r1
  simp only at r12 r11
  refine⟨⟨?_,?_,?_,trivial⟩,?_⟩
  ·simp[yb,yC,XT,r13,r11]
  ·simp[yb,yC,XT,o5.r0,o1.r0,o.hs.same]
  ·simp[yb,yC,XT,o5.r0,o3.r0,o.hs.same]
  ·refine⟨_,zx.refl _,hQ _ _ ⟨rfl,Ml,?_⟩⟩
   rw[←Fg,←hss,←hx]
   exact o6
 unfold CH
 rw[e0,e1,e2,e6]
 by_cases hm0:m=0
 ·have c:¬(0:Int)<(m:Int):=by omega
  simp only[zf,vT,c,decide_false,vI,xD,zW,zC]
  exact key (by simp[hm0])
 ·have c:(0:Int)<(m:Int):=by omega
  have hx:l[m-1]?=some l[m-1]:=List.getElem?_eq_getElem (by omega)
  generalize l[m-1]'(by omega)=y at hx
  obtain⟨b,q,q1,q2,_⟩:=sg.get (F:=F) hx
  have rw_:aq K' (b,q+1) none=some (.i .i64 y.w):=(q2 K' (zQ.refl _)).1 1 (by omega)
  simp only[zf,vT,c,decide_true,zw,yo,zh,zk,Nat.zero_add,zt,o1.r0,zg,zbU,w0 m (by omega) hm,q1,rw_,zV,zM]
  refine⟨fun hlt=>?_,fun Bu=>?_⟩
  ·rw[hI]
   refine⟨m-1,by omega,by simp[e0],by simp[e1],by simp[e2],by simp,rfl,by omega,?_⟩
   have:l.drop (m-1)=y::l.drop m:=by
    have h9:=List.getElem?_eq_some_iff.1 hx
    rw[List.drop_eq_getElem_cons h9.1,h9.2,show m-1+1=m by omega]
   rw[this]
   intro z hz
   rcases List.mem_cons.1 hz with rfl | hz
   ·exact hlt
   ·exact hd z hz
  ·refine key ?_
   intro z hz
   rw[←Fg]at hs
   obtain⟨i,hi⟩:=List.mem_iff_getElem?.1 hz
   have hi1:=(List.getElem?_eq_some_iff.1 hi).1
   rw[List.length_take]at hi1
   have hi2:i<m:=by omega
   rw[List.getElem?_take_of_lt hi2]at hi
   by_cases hie:i=m-1
   ·rw[hie,hx]at hi;cases hi;exact Bu
   ·have h8:=List.getElem?_eq_some_iff.1 hi
    have h9:=List.getElem?_eq_some_iff.1 hx
    have:=(List.pairwise_iff_getElem.1 hs) i (m-1) h8.1 h9.1 (by omega)
    rw[h8.2,h9.2]at this
    unfold It.lt at this
    omega
theorem zga (hf:KT F)(o:aA L u σ aK sv pv ov K)(hl:aK.length≤1000000)(id:Int):zd F Au [.p (some (u,0)),.i .i64 id] K fun w K'=>w=.i .i64 ((vV id aK).getD (-1))∧K'=K:=by
 refine zr ?_
 intro Q hQ
 apply zkk hf.code
 unfold CD CA Cz
 obtain⟨I,hI⟩:∃I:Nat→Env→Lg→Prop,I=fun m E K'=>∃i:Nat,m+i=aK.length∧E 0=.p (some (u,0))∧E 1=.i .i64 id∧E 5=.i .i64 i∧K'=K∧∀j y,j<i→aK[j]?=some y→y.1≠id:=⟨_,rfl⟩
 refine zN I aK.length ?_ ?_
 ·rw[hI];exact⟨0,by omega,by simp[zI],by simp[zI],by simp,rfl,fun j y h=>by omega⟩
 intro m E t K' hi
 rw[hI]at hi
 obtain⟨i,hm,e0,e1,e5,rfl,kf⟩:=hi
 have r2:=o.r2
 have sg:=o.slP
 have hlen:=fun X k=>sg.len (F:=F) X k
 unfold Cy
 rw[e0,e1,e5]
 simp only[zf,zh,zk,Nat.zero_add,zt,r2,zg,hlen,yP,zM]
 refine⟨fun hlt=>?_,fun Bu=>?_⟩
 rotate_left
 ·unfold CC
  refine⟨K',zx.refl _,hQ _ _ ⟨?_,rfl⟩⟩
  rw[Uc (fun y hy=>by
   obtain⟨j,hj⟩:=List.mem_iff_getElem?.1 hy
   exact kf j y (by have:=(List.getElem?_eq_some_iff.1 hj).1;omega) hj)]
  rfl
 have bK:i<aK.length:=by omega
 have hx:aK[i]?=some aK[i]:=List.getElem?_eq_getElem bK
 generalize aK[i]=x at hx
 have w1:wr .i64 ((i:Int)+1)=((i+1:Nat):Int):=by rw[zT (by omega) (by omega)];omega
 obtain⟨b,q,q1,q2,_⟩:=sg.get (F:=F) hx
 have ra:aq K' (b,q) none=some (.i .i64 x.1):=(q2 K' (zQ.refl _)).1 0 (by omega)
 have rb:aq K' (b,q+1) none=some (.i .i64 x.2):=(q2 K' (zQ.refl _)).1 1 (by omega)
 simp only[zf,zh,zk,Nat.add_zero,Nat.zero_add,zt,r2,zg,q1,ra,xw,zM]
 refine⟨fun heq=>?_,fun hne=>?_⟩
 ·simp only[zf,zh,zk,Nat.add_zero,Nat.zero_add,zt,r2,zg,q1,rb]
  exact⟨K',zx.refl _,hQ _ _ ⟨by rw[zcp hx heq kf];rfl,rfl⟩⟩
 ·simp only[zf,y6,w1]
  rw[hI]
  refine⟨m-1,by omega,i+1,by omega,by simp[e0],by simp[e1],by simp,rfl,fun j y hj hy=>?_⟩
  by_cases h9:j=i
  ·subst h9;rw[hx]at hy;cases hy;exact hne
  ·exact kf j y (by omega) hy
theorem zeb (hf:EU F)(o:aA L u σ aK sv pv ov K)(nd:(σ.x.l.map It.id).Nodup)(hl:σ.x.l.length≤1000000)(hp:aK.length≤1000000)(id:Int) :
  zd F mK [.p (some (u,0)),.i .i64 id] K fun v K'=>v=.b (yQ id σ.x.l).isSome∧∃ey fP,aA L u { σ with x:=σ.x.stop id } (ff id aK) ey fP ov K':=by
 refine zr ?_
 intro Q hQ
 apply zkp hf.code
 generalize hE:zI [AV.p (some (u,0)),.i .i64 id] 0=E
 have e0:E 0=.p (some (u,0)):=by rw[←hE];simp[zI]
 have e1:E 1=.i .i64 id:=by rw[←hE];simp[zI]
 clear hE
 unfold CS CR
 have p0:(Env.put E 4 (.b false)) 0=.p (some (u,0)):=by simp[e0]
 have p1:(Env.put E 4 (.b false)) 1=.i .i64 id:=by simp[e1]
 generalize Env.put E 4 (.b false)=E1 at p0 p1
 simp only[zf,p0,p1,zh,zk,Nat.add_zero]
 refine (zgB hf.f67 o nd hl id).mono ?_
 rintro _ K2 ⟨rfl,ey,o2⟩
 rw[zgl]
 simp only[zf,yi,List.getElem?_cons_zero,List.getElem?_cons_succ,zg,y4]
 intro x6 Ad
 rw[yj]
 rw[show (yQ id σ.x.l |>.getD It.zero).av=.agg ((yQ id σ.x.l |>.getD It.zero).cells)from rfl,zu (ze _ _ _) (It.eA _) (It.dQ _) (by simp),zA]
 generalize zo [AV.i .i64 0,.i .i64 0,.i .i64 0] 0 (yQ id σ.x.l |>.getD It.zero).cells=cs6
 have o3:=o2.sub ((zQ.refl K2).put Ad (.raw (.cells cs6)))
 generalize K2.put x6 (.raw (.cells cs6))=K3 at o3
 clear Ad x6
 obtain⟨was,hw⟩:∃was,was=(yQ id σ.x.l).isSome:=⟨_,rfl⟩
 rw[←hw]at hQ ⊢
 obtain⟨σ2,h2⟩:∃σ2:bk,σ2={ σ with x:={ σ.x with l:=yS id σ.x.l } }:=⟨_,rfl⟩
 rw[←h2]at o3
 have q0:(Env.put E1 6 (.b was)) 0=.p (some (u,0)):=by simp[p0]
 have q1:(Env.put E1 6 (.b was)) 1=.i .i64 id:=by simp[p1]
 have q6:(Env.put E1 6 (.b was)) 6=.b was:=by simp
 generalize Env.put E1 6 (.b was)=E2 at q0 q1 q6
 have fin:∀(K':Lg) (fP:AV),aA L u σ2 (ff id aK) ey fP ov K'→zm (some (.b was)) Q K':=by
  intro K' fP o'
  refine⟨K',zx.refl _,hQ _ _ ⟨rfl,ey,fP,?_⟩⟩
  rw[h2]at o'
  exact o'.pf _
 unfold CQ CP
 obtain⟨I,hI⟩:∃I:Nat→Env→Lg→Prop,I=fun m E K'=>∃i:Nat,m+i=aK.length∧E 0=.p (some (u,0))∧E 1=.i .i64 id∧E 6=.b was∧E 7=.i .i64 i∧K'=K3∧∀j y,j<i→aK[j]?=some y→y.1≠id:=⟨_,rfl⟩
 refine zN I aK.length ?_ ?_
 ·rw[hI];exact⟨0,by omega,by simp[q0],by simp[q1],by simp[q6],by simp,rfl,fun j y h=>by omega⟩
 intro m E t K' hi
 rw[hI]at hi
 obtain⟨i,hm,e0,e1,e6,e7,rfl,kf⟩:=hi
 have r2:=o3.r2
 have sg:=o3.slP
 have hlen:=fun X k=>sg.len (F:=F) X k
 unfold CN
 rw[e0,e1,e6,e7]
 unfold nD
 simp only[zf,zh,zk,Nat.zero_add,zt,r2,zg,hlen,yP,zM]
 refine⟨fun hlt=>?_,fun Bu=>?_⟩
 rotate_left
 ·refine fin K' pv ?_
  rw[zg3 (fun y hy=>by
   obtain⟨j,hj⟩:=List.mem_iff_getElem?.1 hy
   exact kf j y (by have:=(List.getElem?_eq_some_iff.1 hj).1;omega) hj)]
  exact o3
 have bK:i<aK.length:=by omega
 have hx:aK[i]?=some aK[i]:=List.getElem?_eq_getElem bK
 generalize aK[i]=x at hx
 have w1:wr .i64 ((i:Int)+1)=((i+1:Nat):Int):=by rw[zT (by omega) (by omega)];omega
 obtain⟨b,q,g1,g2,_⟩:=sg.get (F:=F) hx
 have ra:aq K' (b,q) none=some (.i .i64 x.1):=(g2 K' (zQ.refl _)).1 0 (by omega)
 simp only[zf,zh,zk,Nat.add_zero,Nat.zero_add,zt,r2,zg,g1,ra,xw,zM]
 refine⟨fun heq=>?_,fun hne=>?_⟩
 ·refine cJ.start ?_
  intro v13 K5 l5
  have o5:=o3.sub l5.s
  obtain⟨va,c2,sa⟩:=o5.slP.upto (k:=i) (by omega)
  simp only[zf,zh,zk,Nat.zero_add,zt,o5.r2,zg,YX,c2]
  refine l5.app Yl Ud (by omega) sa (by simp;omega) ?_
  intro nY K6 l6
  have o6:=o3.sub l6.s
  obtain⟨vb,c3,sb⟩:=o6.slP.from (k:=i+1) (by omega)
  simp only[zf,zh,zk,Nat.zero_add,zt,o6.r2,zg,y6,w1,YX,c3]
  refine l6.app Yl Ud (by omega) sb (by simp;omega) ?_
  intro v24 K7 l7
  have iD:=zg4 hx heq kf
  have hfl:[]++zl Iu (aK.take i)++zl Iu (aK.drop (i+1))=zl Iu (ff id aK):=by
   rw[List.nil_append,←zU,iD]
  have Si:0+(aK.take i).length+(aK.drop (i+1)).length=(ff id aK).length:=by
   rw[iD,List.length_append];omega
  rw[hfl,Si]at l7
  have o8:=o3.zk5 l7.o (fun r d hr _=>l7.s r d hr) (fun b hb=>.inl (l7.f b hb))
  simp only[zf,zh,zk,Nat.zero_add,yj]
  refine o3.st l7.s (by omega) l7.o.cellsOf ?_
  refine⟨⟨by simp[yb,yC,XT,o6.r2,o3.r2,o.ps.same],trivial⟩,?_⟩
  exact fin _ v24 o8
 ·simp only[zf,y6,w1]
  rw[hI]
  refine⟨m-1,by omega,i+1,by omega,by simp[e0],by simp[e1],by simp[e6],by simp,rfl,fun j y hj hy=>?_⟩
  by_cases h9:j=i
  ·subst h9;rw[hx]at hy;cases hy;exact hne
  ·exact kf j y (by omega) hy
end
end
section
variable {F:Nat→Option aT}
section
variable {L K:Lg} {u:Nat} {σ:bk} {aK:List (Int×Int)} {sv pv ov:AV}
structure eY (σ:bk)(aK:List (Int×Int))(B:Int):Prop where
 g:XG σ.x B
 b:B<1000000
 p:cD aK σ.x
theorem eY.l {B:Int}(h:eY σ aK B):σ.x.l.length<1000000:=by have:=h.g.len;have:=h.b;omega
theorem eY.pl {B:Int}(h:eY σ aK B):aK.length<1000000:=by rw[h.p.len];exact h.l
theorem eY.q {B:Int}(h:eY σ aK B):0≤σ.x.seq∧σ.x.seq<4611686018427387904:=by have:=h.g.pos;have:=h.g.seq;have:=h.b;omega
theorem zi8 (hf:G7 F)(o:aA L u σ aK sv pv ov K){B:Int}(fi:eY σ aK B)(id when period:Int) :
  zd F oB [.p (some (u,0)),.i .i64 id,.i .i64 when,.i .i64 period] K fun v K'=>v=.i .i64 (σ.x.arm id when period).2∧∃dP ey fP,aA L u { σ with x:=(σ.x.arm id when period).1 } dP ey fP ov K'∧cD dP (σ.x.arm id when period).1:=by
 refine zr ?_
 intro Q hQ
 apply zkn hf.code
 unfold CG
 have bad:Iq when period=true→zm (some (.i .i64 1)) Q K:=fun h=>⟨K,zx.refl _,hQ _ _ ⟨by simp[Xs.arm,h],aK,sv,pv,by simpa[Xs.arm,h]using o,by simpa[Xs.arm,h]using fi.p⟩⟩
 by_cases c1:when<0
 ·simp[c1];exact bad (by simp[Iq];omega)
 by_cases c2:4611686018427387904<when
 ·simp[c1,c2];exact bad (by simp[Iq];omega)
 by_cases c3:period<0
 ·simp[c1,c2,c3];exact bad (by simp[Iq];omega)
 by_cases c4:4611686018427387904<period
 ·simp[c1,c2,c3,c4];exact bad (by simp[Iq];omega)
 have hb:Iq when period=false:=by simp[Iq];omega
 simp only[zf,yP,vT,c1,c2,c3,c4,decide_false,zw,yo,zV,zW,zC]
 have pl:=fi.pl
 have ll:=fi.l
 refine (zeb hf.f68 o fi.g.nd (by omega) (by omega) id).mono ?_
 rintro _ K2 ⟨rfl,sv2,pv2,o2⟩
 simp only[zf,zh,zk,Nat.add_zero]
 have gs:=fi.g.stop id
 have hq:=fi.q
 have hls:(σ.x.stop id).l.length<1000000:=by have:=vC id σ.x.l;simp only[Xs.stop];omega
 refine (zlv hf.f69 o2 gs.sorted gs.below hls hq id when).mono ?_
 rintro _ K3 ⟨rfl,sv3,o3⟩
 simp only[zf,zh,zk,Nat.zero_add,zt,o3.r2,zg]
 simp[zF,zo,zp,zq]
 refine zbc (cs:=Iu (id,period)) rfl rfl rfl ?_
 intro Ib K4 o19 s4 f19
 have s19:cI Iu 3 K4 Ib [(id,period)]:=cI.bD (f:=Iu) Yl (by simpa[zl]using o19)
 have o4:=o3.sub s4
 have hrl:(ff id aK).length≤aK.length:=by
  have:=fi.p.stop fi.g.nd id
  rw[this.len,fi.p.len];exact vC _ _
 refine o4.ps.app Yl Ud (by omega) s19 (by simp;omega) ?_
 intro v20 K5 p5 k5 f5
 have o5:=o4.zk5 (v:=v20) (l:=ff id aK++[(id,period)]) (by rw[zU];simpa using p5) k5 f5
 simp only[zf,zh,zk,Nat.zero_add,yj]
 have kr:K5 u=some (.raw (.cells [sv3,.i .i64 (σ.x.seq+1),pv2,ov,.i .i64 σ.named])):=k5 u _ o4.root (fun h9=>(o4.a2 u h9).1 rfl)
 rw[zD kr (by simp) p5.cellsOf]
 refine⟨_,zx.refl _,hQ _ _ ⟨by simp[Xs.arm,hb],ff id aK++[(id,period)],sv3,v20,?_,?_⟩⟩
 ·simp only[Xs.arm,hb]
  exact o5.pf _
 ·simp only[Xs.arm,hb]
  exact fi.p.aP fi.g.nd id when period
theorem zhr (a b:Int)(X:Lg)(k:AV→Lg→Prop):za F .min [.i .i64 a,.i .i64 b] X k=k (.i .i64 (min a b)) X:=by simp
theorem zdo {w p now:Int}(hp:0<p):(if (zy w p (min now 4611686018427387904)).2=0∧now<(zy w p (min now 4611686018427387904)).1 then true else false)=(if (zy w p now).2=0∧now<(zy w p now).1 then true else false)∧((zy w p now).2=0∧now<(zy w p now).1→(zy w p (min now 4611686018427387904)).1=(zy w p now).1):=by
 by_cases h:now≤4611686018427387904
 ·rw[Int.min_eq_left h];exact⟨rfl,fun _=>rfl⟩
 ·rw[Int.min_eq_right (by omega)]
  have h1:zy w p now=(0,1):=by unfold zy;rw[if_pos (by omega)]
  have h2:¬((zy w p 4611686018427387904).2=0∧now<(zy w p 4611686018427387904).1):=by
   intro ⟨_,h3⟩
   unfold zy at h3
   split at h3
   ·simp at h3;omega
   ·split at h3
    ·simp at h3;omega
    ·simp at h3
     unfold zB yx at h3;omega
  rw[if_neg h2,h1]
  simp
theorem zgY (hf:KR F)(o:aA L u σ aK sv pv ov K){B:Int}(fi:eY σ aK B)(now:Int) :
  zd F Ar [.p (some (u,0)),.i .i64 now] K fun v K'=>v=vU (σ.x.take now).2.1 (σ.x.take now).2.2∧∃dP ey fP,aA L u { σ with x:=(σ.x.take now).1 } dP ey fP ov K'∧cD dP (σ.x.take now).1:=by
 refine zr ?_
 intro Q hQ
 apply zki hf.code
 unfold Cu Ct
 simp only[zf,y4]
 intro rc hrc
 obtain⟨K1,ki⟩:∃K1,K1=K.put rc (.raw (.cells [.i .i64 0,.i .i64 0,.i .i64 0])):=⟨_,rfl⟩
 obtain⟨L1,BC⟩:∃L1,L1=L.put rc (.raw (.cells [.i .i64 0,.i .i64 0,.i .i64 0])):=⟨_,rfl⟩
 have HE:K1 rc=some (.raw (.cells [.i .i64 0,.i .i64 0,.i .i64 0])):=by rw[ki,ze]
 have mJ:=o.ne hrc
 have o1:aA L1 u σ aK sv pv ov K1:=by rw[ki,BC];exact o.bW hrc _
 have lrc:L1 rc=some (.raw (.cells [.i .i64 0,.i .i64 0,.i .i64 0])):=by rw[BC,ze]
 have low:∀r d,r≠u→L r=some d→L1 r=some d:=fun r d _ hd=>by
  rw[BC,zb _ _ _ (by rintro rfl;rw[mJ.2.1]at hd;cases hd)];exact hd
 rw[←ki]
 have idle:σ.x.take now=(σ.x,(0,0,0),false)→jy 3 K1 (fun _ G6=>zm (yz Env.nil Env.nil G6 [.cell (.c (.p (some (rc,0)))) (some 3),.tmp (.c (.b false))]) Q G6) [.p (some (rc,0)),.agg [.i .i64 0,.i .i64 0,.i .i64 0]]:=by
  intro gu
  rw[zu HE (by simp) (by simp) (by simp),zX _ _ (ze _ _ _) (by simp[zo])]
  refine⟨K,?_,hQ _ _ ⟨by rw[gu];simp[zo,vU],aK,sv,pv,by rw[gu];exact o,by rw[gu];exact fi.p⟩⟩
  rw[ki,zA];exact ((zQ.refl K).put hrc _).cj
 have sg:=o1.El
 have hlen:=fun X k=>sg.len (F:=F) X k
 by_cases c1:now<0
 ·have gu:σ.x.take now=(σ.x,(0,0,0),false):=by
   unfold Xs.take;split
   ·rfl
   ·rw[if_pos (.inl c1)]
  simp[c1,zF]
  exact idle gu
 cases hx:σ.x.l with
 | nil =>
  have gu:σ.x.take now=(σ.x,(0,0,0),false):=by unfold Xs.take;simp[hx]
  have l0:((σ.x.l.length:Nat):Int)=0:=by rw[hx];rfl
  simp only[zf,yP,c1,decide_false,zw,yo,zh,zk,Nat.add_zero,Nat.zero_add,zt,o1.r0,zg,hlen,xw,l0,decide_true,zV,zW]
  simp[zF]
  exact idle gu
 | cons y r =>
  have l0:¬((σ.x.l.length:Nat):Int)=0:=by rw[hx];simp;omega
  have hy:σ.x.l[0]?=some y:=by rw[hx];rfl
  obtain⟨b,q,q1,q2,_⟩:=sg.get (F:=F) hy
  have q1:∀(X:Lg) (k:AV→Lg→Prop),za F (.aX 3) [sv,.i .i64 0] X k=k (.p (some (b,q))) X:=q1
  have rw_:aq K1 (b,q+1) none=some (.i .i64 y.w):=(q2 K1 (zQ.refl _)).1 1 (by omega)
  have IG:=(q2 K1 (zQ.refl _)).2
  simp only[zf,yP,vT,c1,decide_false,zw,yo,zh,zk,Nat.add_zero,Nat.zero_add,zt,o1.r0,zg,hlen,xw,l0,zV,zW,q1,rw_,zM]
  refine⟨fun c2=>?_,fun c2=>?_⟩
  ·have gu:σ.x.take now=(σ.x,(0,0,0),false):=by unfold Xs.take;simp[hx,c2]
   simp[zF]
   exact idle gu
  obtain⟨p,hp,oU,GS⟩:=fi.g.aK y (by rw[hx];simp)
  have hpo:vV y.id aK=some p:=by rw[←fi.p.eq];exact hp
  have hnc:=fun hpp:0<p=>zdo (w:=y.w) (p:=p) (now:=now) hpp
  have gu:σ.x.take now=(if (zy y.w p now).2=0∧now<(zy y.w p now).1 then ((σ.x.stop y.id).arm y.id (zy y.w p now).1 p).1 else σ.x.stop y.id,(y.id,y.w,now),true):=by
   unfold Xs.take
   simp only[hx,List.head?_cons]
   rw[if_neg (by omega)]
   simp only[hp,Option.getD_some]
  unfold Cr
  simp only[zf,zh,zk,Nat.add_zero,zt,o1.r0,zg,q1,IG,y4]
  intro x7 MM
  rw[yj,zu (ze _ _ _) (It.eA y) (It.dQ y) (by simp),zA,show zo [AV.i .i64 0,.i .i64 0,.i .i64 0] 0 y.cells=y.cells by simp[zo,It.cells]]
  obtain⟨K2,gE⟩:∃K2,K2=K1.put x7 (.raw (.cells y.cells)):=⟨_,rfl⟩
  obtain⟨L2,Ju⟩:∃L2,L2=L1.put x7 (.raw (.cells y.cells)):=⟨_,rfl⟩
  have n7:=o1.ne MM
  have o2:aA L2 u σ aK sv pv ov K2:=by rw[gE,Ju];exact o1.bW MM _
  have l7:L2 x7=some (.raw (.cells y.cells)):=by rw[Ju,ze]
  have MF:L2 rc=some (.raw (.cells [.i .i64 0,.i .i64 0,.i .i64 0])):=by
   rw[Ju,zb _ _ _ (by rintro rfl;rw[HE]at MM;cases MM)];exact lrc
  have zoM:∀r d,r≠u→L1 r=some d→L2 r=some d:=fun r d _ hd=>by
   rw[Ju,zb _ _ _ (by rintro rfl;rw[n7.2.1]at hd;cases hd)];exact hd
  rw[←gE]
  -- what is at Bh boxes,Er zqo
  have c7:∀{σ':bk} {dP:List (Int×Int)} {ey fP ov':AV} {K':Lg},aA L2 u σ' dP ey fP ov' K'→aq K' (x7,0) none=some (.i .i64 y.id)∧aq K' (x7,1) none=some (.i .i64 y.w):=by
   intro σ' dP ey fP ov' K' o'
   have h:=o'.old x7 _ n7.1 l7
   exact⟨by rw[zj h];rfl,by rw[zj h];rfl⟩
  have fin:∀{σ':bk} {dP:List (Int×Int)} {ey fP:AV} {K':Lg},aA L2 u σ' dP ey fP ov K'→σ'={ σ with x:=(σ.x.take now).1 }→cD dP (σ.x.take now).1→fU F Q (.i .i64 now) (.p (some (rc,0))) (.p (some (x7,0))) K':=by
   intro σ' dP ey fP K' o' hσ hpk
   obtain⟨a1,a2⟩:=c7 o'
   unfold fU
   simp only[zf,zk,Nat.add_zero,Nat.zero_add,zt,a1,a2,zg]
   simp[zF,zo,zp,zq]
   have zoQ:=o'.old rc _ mJ.1 MF
   rw[zu zoQ (by simp) (by simp) (by simp),zX _ _ (ze _ _ _) (by simp[zo])]
   have o3:=(o'.below zoM).below low
   have f1:au ey≠some rc:=fun h9=>by have:=(o'.a1 rc h9).2;rw[MF]at this;cases this
   have f2:au fP≠some rc:=fun h9=>by have:=(o'.a2 rc h9).2.1;rw[MF]at this;cases this
   have f3:au ov≠some rc:=fun h9=>by have:=(o'.a3 rc h9).2.1;rw[MF]at this;cases this
   refine⟨_,zx.refl _,hQ _ _ ⟨by rw[gu];simp[zo,vU],dP,ey,fP,?_,hpk⟩⟩
   rw[←hσ]
   exact o3.RC mJ.1 mJ.2.1 f1 f2 f3 _
  unfold Cq
  obtain⟨a1,a2⟩:=c7 o2
  simp only[zf,zk,Nat.add_zero,Nat.zero_add,zt,a1,zg]
  have pl:=fi.pl
  have ll:=fi.l
  refine (zga hf.f82 o2 (by omega) y.id).mono ?_
  rintro _ K3 ⟨rfl,EP⟩
  rw[EP,hpo,Option.getD_some]
  unfold Cp
  simp only[zf,zk,Nat.add_zero,Nat.zero_add,zt,a1,zg]
  refine (zeb hf.f68 o2 fi.g.nd (by omega) (by omega) y.id).mono ?_
  rintro _ K4 ⟨rfl,NK,pv4,o4⟩
  obtain⟨a3,a4⟩:=c7 o4
  have pst:=fi.p.stop fi.g.nd y.id
  unfold Co
  simp only[zf,vT,zM]
  refine⟨fun hpp=>?_,fun hpp=>?_⟩
  rotate_left
  ·refine fin o4 ?_ ?_
   ·rw[gu,if_neg]
    rintro⟨h1,_⟩
    have:zy y.w p now=(0,1):=by unfold zy;rw[if_pos (by omega)]
    rw[this]at h1;cases h1
   ·rw[gu,if_neg]
    ·exact pst
    ·rintro⟨h1,_⟩
     have:zy y.w p now=(0,1):=by unfold zy;rw[if_pos (by omega)]
     rw[this]at h1;cases h1
  obtain⟨h8,h9⟩:=hnc hpp
  simp only[zf,zk,Nat.add_zero,Nat.zero_add,zt,a4,zg,zhr]
  refine (zdp hf.f83 _ _ _ _).mono ?_
  rintro _ K5 ⟨rfl,hK5⟩
  rw[hK5]
  generalize hc:zy y.w p (min now 4611686018427387904)=c at h8 h9
  simp only[zf,yi,List.getElem?_cons_zero,List.getElem?_cons_succ,zg]
  by_cases d1:c.2=0
  ·by_cases d2:now<c.1
   ·rw[if_pos ⟨d1,d2⟩]at h8
    have hyes:(zy y.w p now).2=0∧now<(zy y.w p now).1:=by
     by_cases h:(zy y.w p now).2=0∧now<(zy y.w p now).1
     ·exact h
     ·rw[if_neg h]at h8;cases h8
    have hce:=h9 hyes
    rw[if_pos hyes]at gu
    simp only[zf,xw,d1,decide_true,zw,yo,vT,d2,zV,z9,zk,Nat.add_zero,zt,a3,zg]
    have fi4:eY { σ with x:=σ.x.stop y.id } (ff y.id aK) B:=⟨fi.g.stop y.id,fi.b,pst⟩
    refine (zi8 hf.f70 o4 fi4 y.id c.1 p).mono ?_
    rintro _ K6 ⟨rfl,zqO,sv6,pv6,o6,pk6⟩
    refine fin o6 ?_ ?_
    ·rw[gu,hce]
    ·rw[gu,←hce];exact pk6
   ·have hno:¬((zy y.w p now).2=0∧now<(zy y.w p now).1):=by
     rw[if_neg (fun h=>d2 h.2)]at h8
     intro h;rw[if_pos h]at h8;cases h8
    rw[if_neg hno]at gu
    simp only[zf,xw,d1,decide_true,zw,yo,vT,d2,decide_false,zV,zC]
    exact fin o4 (by rw[gu]) (by rw[gu];exact pst)
  ·have hno:¬((zy y.w p now).2=0∧now<(zy y.w p now).1):=by
    rw[if_neg (fun h=>d1 h.1)]at h8
    intro h;rw[if_pos h]at h8;cases h8
   rw[if_neg hno]at gu
   simp[d1]
   exact fin o4 (by rw[gu]) (by rw[gu];exact pst)
end
end
section
variable {F:Nat→Option aT}
def fI (n:Int):List AV:=[.i .i64 n]
theorem Yx (n:Int):(fI n).length=1:=rfl
theorem zfl (n:Int):(fI n).all AV.one=true:=rfl
theorem Wt.dQ (w:Wt):w.cells.length=3:=rfl
theorem Wt.eA (w:Wt):w.cells.all AV.one=true:=rfl
theorem vQ (w:Wk):w.cells.length=5:=rfl
theorem UE (w:Wk):w.cells.all AV.one=true:=rfl
theorem YY:∀l:List Wk,yr l=zl Wk.cells l
 | []=>rfl
 | w::r=>by simp[yr,zl,YY r]
def oY (x:Ch)(bv sv rv:AV):List AV:=[.i .i64 x.cap,.b x.bH,.b x.signal,.b x.closed,bv,sv,rv]
structure aE (L:Lg)(c:Nat)(x:Ch)(bv sv rv:AV)(K:Lg):Prop where
 root:K c=some (.raw (.cells (oY x bv sv rv)))
 bs:dj K bv (zl fI x.vals) x.vals.length 1
 ss:dj K sv (zl Wt.cells x.aF) x.aF.length 3
 rs:dj K rv (zl Wt.cells x.recvs) x.recvs.length 3
 a1:∀b,au bv=some b→b≠c∧L b=none
 a2:∀b,au sv=some b→b≠c∧L b=none∧au bv≠some b
 a3:∀b,au rv=some b→b≠c∧L b=none∧au bv≠some b∧au sv≠some b
 old:∀r d,r≠c→L r=some d→K r=some d
 len:x.recvs.length≤1000000∧x.aF.length≤1000000∧x.vals.length≤1000000
def YH (c:Nat)(x:Ch)(h:Hp):Prop:=∃bv sv rv M,aE Lg.nil c x bv sv rv M∧Sat M h
section
variable {L K:Lg} {c:Nat} {x:Ch} {bv sv rv:AV}
theorem aE.ne (o:aE L c x bv sv rv K){b:Nat}(hb:K b=none):b≠c∧L b=none∧au bv≠some b∧au sv≠some b∧au rv≠some b:=by
 have h1:b≠c:=by rintro rfl;have:=o.root;rw[hb]at this;cases this
 refine⟨h1,?_,?_,?_,?_⟩
 ·cases h:L b with
  | none=>rfl
  | some d=>rw[o.old b d h1 h]at hb;cases hb
 ·intro h;have:=o.bs.block h;rw[hb]at this;cases this
 ·intro h;have:=o.ss.block h;rw[hb]at this;cases this
 ·intro h;have:=o.rs.block h;rw[hb]at this;cases this
theorem aE.shut (o:aE L c x bv sv rv K):zx K (L.put c (.abs (YH c x))):=by
 refine yZ (fun b=>b=c∨au bv=some b∨au sv=some b∨au rv=some b) (.inl rfl) ?_ ?_ (.inl ⟨_,o.root⟩) ?_
 ·intro b d hb hd
  simp only[not_or]at hb
  exact o.old b d hb.1 hd
 ·rintro b (rfl | h | h | h) hb
  ·exact absurd rfl hb
  ·exact (o.a1 b h).2
  ·exact (o.a2 b h).2.1
  ·exact (o.a3 b h).2.1
 ·intro M hp hM hN hs
  refine⟨bv,sv,rv,M,⟨?_,o.bs.mono fun b hb=>hM b (.inr (.inl hb)),o.ss.mono fun b hb=>hM b (.inr (.inr (.inl hb))),o.rs.mono fun b hb=>hM b (.inr (.inr (.inr hb))),fun b hb=>⟨(o.a1 b hb).1,rfl⟩,fun b hb=>⟨(o.a2 b hb).1,rfl,(o.a2 b hb).2.2⟩,fun b hb=>⟨(o.a3 b hb).1,rfl,(o.a3 b hb).2.2⟩,fun r d _ hd=>by simp[Lg.nil]at hd,o.len⟩,hs⟩
  rw[hM c (.inl rfl)];exact o.root
theorem vo {f:Nat}{vs:List AV}{Q:AV→Lg→Prop}(e:L c=some (.abs (YH c x)))(H:∀bv sv rv K,aE L c x bv sv rv K→zd F f vs K Q):zd F f vs L Q:=by
 apply y3 e
 rintro hm ⟨bv,sv,rv,M,o,hs⟩
 refine⟨M,hs,by rw[o.root];simp,fun hf=>?_⟩
 obtain⟨S,hS⟩:∃S:Nat→Prop,S=fun b=>b=c∨au bv=some b∨au sv=some b∨au rv=some b:=⟨_,rfl⟩
 have hi:∀b d,M b=some d→(M.ak L) b=some d:=fun b d h=>by simp[Lg.ak,h]
 have sb:∀{v:AV} {cs:List AV} {n z:Nat},dj M v cs n z→dj (M.ak L) v cs n z:=fun h=>h.sub fun b d _ hd=>hi b d hd
 refine H bv sv rv (M.ak L) ⟨hi _ _ o.root,sb o.bs,sb o.ss,sb o.rs,fun b hb=>⟨(o.a1 b hb).1,hf b _ (o.bs.block hb) (o.a1 b hb).1⟩,fun b hb=>⟨(o.a2 b hb).1,hf b _ (o.ss.block hb) (o.a2 b hb).1,(o.a2 b hb).2.2⟩,
  fun b hb=>⟨(o.a3 b hb).1,hf b _ (o.rs.block hb) (o.a3 b hb).1,(o.a3 b hb).2.2⟩,fun r d hr hd=>?_,o.len⟩
 have:M r=none:=by
  cases h:M r with
  | none=>rfl
  | some e=>have:=hf r e h hr;rw[hd]at this;cases this
 simp[Lg.ak,this,hd]
theorem aE.sub (o:aE L c x bv sv rv K){K':Lg}(h:zQ K K'):aE L c x bv sv rv K' :=
 ⟨h _ _ o.root,o.bs.sub fun b d _ hd=>h b d hd,o.ss.sub fun b d _ hd=>h b d hd,o.rs.sub fun b d _ hd=>h b d hd,o.a1,o.a2,o.a3,fun r d hr hd=>h r d (o.old r d hr hd),o.len⟩
theorem aE.bW (o:aE L c x bv sv rv K){b:Nat}(hb:K b=none)(d:LC):aE (L.put b d) c x bv sv rv (K.put b d):=by
 obtain⟨n1,n2,n3,n4,n5⟩:=o.ne hb
 have key:∀{r:Nat} {v:AV},au v=some r→au v≠some b→(L.put b d) r=L r:=fun {r} {v} h1 h2=>zb _ _ _ (by rintro rfl;exact h2 h1)
 have o':=o.sub ((zQ.refl K).put hb d)
 refine⟨o'.root,o'.bs,o'.ss,o'.rs,fun r h=>?_,fun r h=>?_,fun r h=>?_,fun r e hr he=>?_,o.len⟩
 ·rw[key h n3];exact o.a1 r h
 ·rw[key h n4];exact o.a2 r h
 ·rw[key h n5];exact o.a3 r h
 ·rw[Lg.ah]at he ⊢
  split
  ·rename_i h9;rw[if_pos h9]at he;exact he
  ·rename_i h9;rw[if_neg h9]at he;exact o.old r e hr he
theorem aE.below (o:aE L c x bv sv rv K){L0:Lg}(h:∀r d,r≠c→L0 r=some d→L r=some d):aE L0 c x bv sv rv K:=by
 have key:∀b,b≠c→L b=none→L0 b=none:=fun b h1 h2=>by
  cases h3:L0 b with
  | none=>rfl
  | some d=>rw[h b d h1 h3]at h2;cases h2
 exact⟨o.root,o.bs,o.ss,o.rs,fun b hb=>⟨(o.a1 b hb).1,key b (o.a1 b hb).1 (o.a1 b hb).2⟩,fun b hb=>⟨(o.a2 b hb).1,key b (o.a2 b hb).1 (o.a2 b hb).2.1,(o.a2 b hb).2.2⟩,
  fun b hb=>⟨(o.a3 b hb).1,key b (o.a3 b hb).1 (o.a3 b hb).2.1,(o.a3 b hb).2.2⟩,fun r d hr hd=>o.old r d hr (h r d hr hd),o.len⟩
theorem aE.zk7 (o:aE L c x bv sv rv K){v:AV}{l:List Int}{K1:Lg}(h:cJ K v (zl fI l) l.length 1 K1)(hl:l.length≤1000000):aE L c { x with vals:=l } v sv rv (K1.put c (.raw (.cells (oY x v sv rv)))):=by
 have fr:=fun b hb=>o.ne (h.f b hb)
 have kp:∀{b:Nat} {d:LC},b≠c→K b=some d→(K1.put c (.raw (.cells (oY x v sv rv)))) b=some d:=fun {b d} h1 h2=>by rw[zb _ _ _ h1];exact h.s b d h2
 exact⟨ze _ _ _,h.o.mono fun b hb=>zb _ _ _ (fr b hb).1,o.ss.sub fun b d hb hd=>kp (o.a2 b hb).1 hd,o.rs.sub fun b d hb hd=>kp (o.a3 b hb).1 hd,
  fun b hb=>⟨(fr b hb).1,(fr b hb).2.1⟩,fun b hb=>⟨(o.a2 b hb).1,(o.a2 b hb).2.1,fun h9=>(fr b h9).2.2.2.1 hb⟩,fun b hb=>⟨(o.a3 b hb).1,(o.a3 b hb).2.1,fun h9=>(fr b h9).2.2.2.2 hb,(o.a3 b hb).2.2.2⟩,
  fun r d hr hd=>kp hr (o.old r d hr hd),⟨o.len.1,o.len.2.1,hl⟩⟩
theorem aE.newR (o:aE L c x bv sv rv K){v:AV}{l:List Wt}{K1:Lg}(h:cJ K v (zl Wt.cells l) l.length 3 K1)(hl:l.length≤1000000):aE L c { x with recvs:=l } bv sv v (K1.put c (.raw (.cells (oY x bv sv v)))):=by
 have fr:=fun b hb=>o.ne (h.f b hb)
 have kp:∀{b:Nat} {d:LC},b≠c→K b=some d→(K1.put c (.raw (.cells (oY x bv sv v)))) b=some d:=fun {b d} h1 h2=>by rw[zb _ _ _ h1];exact h.s b d h2
 exact⟨ze _ _ _,o.bs.sub fun b d hb hd=>kp (o.a1 b hb).1 hd,o.ss.sub fun b d hb hd=>kp (o.a2 b hb).1 hd,h.o.mono fun b hb=>zb _ _ _ (fr b hb).1,
  o.a1,o.a2,fun b hb=>⟨(fr b hb).1,(fr b hb).2.1,(fr b hb).2.2.1,(fr b hb).2.2.2.1⟩,
  fun r d hr hd=>kp hr (o.old r d hr hd),⟨hl,o.len.2⟩⟩
theorem aE.zoI (o:aE L c x bv sv rv K){v:AV}{l:List Wt}{K1:Lg}(h:cJ K v (zl Wt.cells l) l.length 3 K1)(hl:l.length≤1000000):aE L c { x with aF:=l } bv v rv (K1.put c (.raw (.cells (oY x bv v rv)))):=by
 have fr:=fun b hb=>o.ne (h.f b hb)
 have kp:∀{b:Nat} {d:LC},b≠c→K b=some d→(K1.put c (.raw (.cells (oY x bv v rv)))) b=some d:=fun {b d} h1 h2=>by rw[zb _ _ _ h1];exact h.s b d h2
 exact⟨ze _ _ _,o.bs.sub fun b d hb hd=>kp (o.a1 b hb).1 hd,h.o.mono fun b hb=>zb _ _ _ (fr b hb).1,o.rs.sub fun b d hb hd=>kp (o.a3 b hb).1 hd,
  o.a1,fun b hb=>⟨(fr b hb).1,(fr b hb).2.1,(fr b hb).2.2.1⟩,fun b hb=>⟨(o.a3 b hb).1,(o.a3 b hb).2.1,(o.a3 b hb).2.2.1,fun h9=>(fr b h9).2.2.2.2 hb⟩,
  fun r d hr hd=>kp hr (o.old r d hr hd),⟨o.len.1,hl,o.len.2.2⟩⟩
theorem aE.closed (o:aE L c x bv sv rv K):aE L c { x with closed:=true } bv sv rv (K.put c (.raw (.cells (oY { x with closed:=true } bv sv rv)))) :=
 ⟨ze _ _ _,o.bs.mono fun b hb=>zb _ _ _ (o.a1 b hb).1,o.ss.mono fun b hb=>zb _ _ _ (o.a2 b hb).1,o.rs.mono fun b hb=>zb _ _ _ (o.a3 b hb).1,o.a1,o.a2,o.a3,
  fun r d hr hd=>by rw[zb _ _ _ hr];exact o.old r d hr hd,o.len⟩
theorem cJ.nil (K:Lg)(z:Nat):cJ K (.sl none 0 0 0) [] 0 z K:=⟨.inl (bu.nil K z),zQ.refl K,fun b h=>by cases h⟩
theorem aE.rd (o:aE L c x bv sv rv K)(i:Nat):aq K (c,i) none=(oY x bv sv rv)[i]?:=zj o.root
theorem aE.r0 (o:aE L c x bv sv rv K):aq K (c,0) none=some (.i .i64 x.cap):=o.rd 0
theorem aE.r1 (o:aE L c x bv sv rv K):aq K (c,1) none=some (.b x.bH):=o.rd 1
theorem aE.r2 (o:aE L c x bv sv rv K):aq K (c,2) none=some (.b x.signal):=o.rd 2
theorem aE.r3 (o:aE L c x bv sv rv K):aq K (c,3) none=some (.b x.closed):=o.rd 3
theorem aE.r4 (o:aE L c x bv sv rv K):aq K (c,4) none=some bv:=o.rd 4
theorem aE.r5 (o:aE L c x bv sv rv K):aq K (c,5) none=some sv:=o.rd 5
theorem aE.r6 (o:aE L c x bv sv rv K):aq K (c,6) none=some rv:=o.rd 6
theorem aE.sb (o:aE L c x bv sv rv K):cI fI 1 K bv x.vals:=dj.El Yx o.bs
theorem aE.sS (o:aE L c x bv sv rv K):cI Wt.cells 3 K sv x.aF:=dj.El Wt.dQ o.ss
theorem aE.sR (o:aE L c x bv sv rv K):cI Wt.cells 3 K rv x.recvs:=dj.El Wt.dQ o.rs
theorem aE.st (o:aE L c x bv sv rv K){K1:Lg}(h:zQ K K1){i:Nat}(hi:i<7){w:AV}(hw:w.cellsOf=some [w]){k:AV→Lg→Prop}
  (hk:k .bad (K1.put c (.raw (.cells ((oY x bv sv rv).set i w))))):jy 1 K1 k [.p (some (c,i)),w]:=by
 rw[zD (h _ _ o.root) (by simpa[oY]using hi) hw];exact hk
def Lg.fj (L:Lg)(c:Option Nat)(x:Ch):Lg:=match c with
 | none=>L
 | some c=>L.put c (.abs (YH c x))
def Lg.FR (L:Lg)(s:Nat)(c:Option Nat)(x:Ch):Prop:=∀a,c=some a→a≠s∧L a=some (.abs (YH a x))
theorem zdG (hf:KU F){s:Nat}{c:Option Nat}{x:Ch}(hx:x.bH=true)(h:L.FR s c x):zd F Av [ptr c] L fun v L'=>v=.b (ZR c x)∧L'=L.fj c x.dropped:=by
 refine zr ?_
 intro Q hQ
 cases c with
 | none =>
  apply NR hf.code
  unfold nB
  simp[ptr]
  exact⟨L,zx.refl _,hQ _ _ ⟨rfl,rfl⟩⟩
 | some c =>
  have e:=(h c rfl).2
  apply vo e
  intro bv sv rv K o
  apply NR hf.code
  unfold nB
  have hlen:=fun X k=>o.sb.len (F:=F) X k
  have r1:=o.r1
  rw[hx]at r1
  have fin:∀(b:Bool) (y:Ch) {K':Lg},ZR (some c) x=b→x.dropped=y→zx K' (L.put c (.abs (YH c y)))→zm (some (.b b)) Q K':=by
   intro b y K' h1 h2 h3
   subst h1 h2
   exact⟨_,h3,hQ _ _ ⟨rfl,rfl⟩⟩
  by_cases hv:(x.vals.length:Int)=0
  ·have hl:x.vals=[]:=List.length_eq_zero_iff.1 (by omega)
   simp[ptr,r1,o.r4,hlen,hl]
   exact fin _ x (by simp[ZR,Ch.left,hl]) (by cases x;simp[Ch.dropped]at hl ⊢;exact hl) o.shut
  ·have hp:0<x.vals.length:=by omega
   simp only[ptr,Option.map_some,zf,wR,zw,yo,zh,zk,Nat.zero_add,zt,r1,zg,yf,Bool.not_true,zW,o.r4,hlen,xw,hv,decide_false,zC,yj]
   refine o.st (zQ.refl _) (by omega) rfl ?_
   have o1:=o.zk7 (l:=[]) (cJ.nil K 1) (by simp)
   exact fin _ { x with vals:=[] } (by simp[ZR,Ch.left,hp]) rfl o1.shut
def Ch.snd (x:Ch)(v:Int):Ch×List Wk×Bool:=match x.recvs with
 | w::ws=>({ x with recvs:=ws },[⟨w.t,w.c,v,true,false⟩],true)
 | []=>if x.vals.length<x.cap then ({ x with vals:=x.vals++[v] },[],true)else (x,[],false)
theorem zdg (hf:KQ F)(o:aE L c x bv sv rv K)(hl:x.vals.length<1000000)(v:Int):zd F Aq [.p (some (c,0)),.i .i64 v] K fun r K'=>∃s,r=.ay [.b (x.snd v).2.2,s] ∧
  xC (L.put c (.abs (YH c (x.snd v).1))) s (yr (x.snd v).2.1) (x.snd v).2.1.length 5 K':=by
 refine zr ?_
 intro Q hQ
 apply zkh hf.code
 unfold Cn Cm
 have hlen:=fun X k=>o.sR.len (F:=F) X k
 have iO:=fun X k=>o.sb.len (F:=F) X k
 cases hr:x.recvs with
 | cons w ws =>
  have I2:x.snd v=({ x with recvs:=ws },[⟨w.t,w.c,v,true,false⟩],true):=by simp[Ch.snd,hr]
  have hlr:=o.len.1
  rw[hr]at hlr
  simp at hlr
  have c0:(0:Int)<(x.recvs.length:Int):=by rw[hr];simp
  have hx0:x.recvs[0]?=some w:=by rw[hr];rfl
  obtain⟨b,q,q1,q2,_⟩:=o.sR.get (F:=F) hx0
  have IG:=(q2 K (zQ.refl _)).2
  have q1':∀(X:Lg) (k:AV→Lg→Prop),za F (.aX 3) [rv,.i .i64 0] X k=k (.p (some (b,q))) X:=q1
  simp only[zf,zh,zk,Nat.zero_add,zt,o.r6,zg,hlen,vT,c0,decide_true,z9,q1',IG,y4]
  intro ez zlh
  rw[yj,zu (ze _ _ _) (Wt.eA w) (Wt.dQ w) (by simp),zA,zb7]
  have n11:=o.ne zlh
  have o2:=o.bW zlh (.raw (.cells w.cells))
  have l11:(L.put ez (.raw (.cells w.cells))) ez=some (.raw (.cells w.cells)):=ze _ _ _
  have low:∀r d,r≠c→L r=some d→(L.put ez (.raw (.cells w.cells))) r=some d:=fun r d _ hd=>by
   rw[zb _ _ _ (by rintro rfl;rw[n11.2.1]at hd;cases hd)];exact hd
  generalize gE:K.put ez (.raw (.cells w.cells))=K2 at o2 ⊢
  generalize L.put ez (.raw (.cells w.cells))=L2 at o2 l11 low
  refine cJ.start ?_
  intro v13 K3 l3
  have o3:=o2.sub l3.s
  obtain⟨vb,c3,s3⟩:=o3.sR.from (k:=1) (by omega)
  have c3':Fm 3 true false false [rv,.i .i64 1]=some vb:=c3
  simp only[zf,zh,zk,Nat.zero_add,zt,o3.r6,zg,YX,c3']
  rw[hr]at s3
  simp only[List.drop_succ_cons,List.drop_zero]at s3
  refine l3.app Wt.dQ Wt.eA (by omega) s3 (by omega) ?_
  intro nY K4 l4
  have o5:=o2.newR (l:=ws) (by simpa using l4) (by omega)
  simp only[zf,zh,zk,Nat.zero_add,yj]
  refine o2.st l4.s (by omega) l4.o.cellsOf ?_
  have k11:=o5.old ez _ n11.1 l11
  have e5:(oY x bv sv rv).set 6 nY=oY x bv sv nY:=rfl
  rw[e5]
  generalize K4.put c (.raw (.cells (oY x bv sv nY)))=K5 at o5 k11
  have g0:aq K5 (ez,0) none=some (.i .i64 w.t):=by rw[zj k11];rfl
  have g1:aq K5 (ez,1) none=some (.i .i64 w.c):=by rw[zj k11];rfl
  simp only[zf,zk,Nat.zero_add,Nat.add_zero,zt,g0,g1,zg]
  simp[zF,zo,zp,zq]
  rw[yg (c:=Wk.cells ⟨w.t,w.c,v,true,false⟩) _ _ (by simp[y7,zF,zo,zp,zq,Wk.cells,AV.cellsOf]) rfl]
  intro b1 bP
  have o6:=(o5.below low)
  have n1:=o6.ne bP
  have o7:=o6.bW bP (.raw (.cells (Wk.cells ⟨w.t,w.c,v,true,false⟩)))
  have sh:=o7.shut
  rw[yJ _ n1.1]at sh
  refine⟨_,sh,hQ _ _ ⟨_,by rw[I2],?_⟩⟩
  rw[I2]
  exact .inr ⟨b1,0,by rw[zb _ _ _ n1.1];exact n1.2.1,by simp,rfl,rfl,by simp[yr]⟩
 | nil =>
  have c0:¬(0:Int)<(x.recvs.length:Int):=by rw[hr];simp
  simp only[zf,zh,zk,Nat.zero_add,zt,o.r6,zg,hlen,vT,c0,decide_false,zC]
  unfold Ck
  simp only[zf,zh,zk,Nat.zero_add,Nat.add_zero,zt,o.r4,o.r0,zg,iO,yP,zM]
  refine⟨fun hlt=>?_,fun Bu=>?_⟩
  rotate_left
  ·have I2:x.snd v=(x,[],false):=by simp only[Ch.snd,hr];rw[if_neg (by omega)]
   refine⟨_,o.shut,hQ _ _ ⟨_,by rw[I2],?_⟩⟩
   rw[I2]
   exact .inl ⟨rfl,rfl,rfl,rfl⟩
  ·have I2:x.snd v=({ x with vals:=x.vals++[v] },[],true):=by simp only[Ch.snd,hr];rw[if_pos (by omega)]
   refine cJ.start ?_
   intro v9 K3 l3
   have o3:=o.sub l3.s
   simp only[zf,zh,zk,Nat.zero_add,zt,o3.r4,zg]
   refine l3.app Yx zfl (by omega) o3.sb (by omega) ?_
   intro v13 K4 l4
   refine zjh rfl ?_
   intro v14 K5 o14 k5 f14
   have s5:zQ K4 K5:=fun r d hr'=>k5.none_ hr'
   have s14:cI fI 1 K5 v14 [v]:=cI.bD (f:=fI) Yx (by simpa[zl,fI]using o14)
   refine (l4.mono s5).app Yx zfl (by omega) s14 (by simp;omega) ?_
   intro v15 K6 l6
   have o6:=o.zk7 (l:=x.vals++[v]) (by rw[zU];simpa using l6) (by simp;omega)
   simp only[zf,zh,zk,Nat.zero_add,yj]
   refine o.st l6.s (by omega) l6.o.cellsOf ?_
   refine⟨_,o6.shut,hQ _ _ ⟨_,by rw[I2],?_⟩⟩
   rw[I2]
   exact .inl ⟨rfl,rfl,rfl,rfl⟩
theorem zeJ (hf:KP F){s:Nat}{c:Option Nat}{x:Ch}(hx:x.bH=true)(hl:x.vals.length≤x.cap)(hc:x.cap<1000000)(h:L.FR s c x)(now:Int):zd F Ap [ptr c,.i .i64 now] L fun v L'=>∃sl,v=.ay [sl,.b (yF c x now).2.2] ∧
  xC (L.fj c (yF c x now).1) sl (yr (yF c x now).2.1) (yF c x now).2.1.length 5 L':=by
 refine zr ?_
 intro Q hQ
 cases c with
 | none =>
  apply NP hf.code
  unfold ny
  simp[ptr]
  exact⟨L,zx.refl _,hQ _ _ ⟨_,rfl,.inl ⟨rfl,rfl,rfl,rfl⟩⟩⟩
 | some c =>
  have e:=(h c rfl).2
  apply vo e
  intro bv sv rv K o
  apply NP hf.code
  unfold ny
  have r1:=o.r1
  rw[hx]at r1
  have hps:x.put now=x.snd now:=by
   unfold Ch.put Ch.snd
   rw[if_pos hx]
   cases x.recvs with
   | cons w ws=>rfl
   | nil =>
    by_cases h9:x.vals.length=x.cap
    ·simp[h9]
    ·simp only[h9,if_false];rw[if_pos (by omega)]
  simp only[ptr,Option.map_some,zf,wR,zw,yo,zh,zk,Nat.zero_add,zt,r1,zg,yf,Bool.not_true,zW,zC]
  refine (zdg hf.f85 o (by omega) now).mono ?_
  rintro _ K2 ⟨sl,rfl,FN⟩
  simp only[zf,yi,List.getElem?_cons_zero,List.getElem?_cons_succ,zg]
  exact⟨K2,zx.refl _,hQ _ _ ⟨sl,by simp only[yF,hps],by simp only[yF,hps,Lg.fj];exact FN⟩⟩
theorem zae (hf:KL F){v:AV}{l:List Wt}(hv:cI Wt.cells 3 K v l)(hl:l.length≤1000000)(task:Int):zd F ou [v,.i .i64 task] K fun r K'=>r=.b (l.any fun y=>!decide (y.t=task))∧K'=K:=by
 refine zr ?_
 intro Q hQ
 apply zkb hf.code
 unfold B2 BZ BY
 obtain⟨I,hI⟩:∃I:Nat→Env→Lg→Prop,I=fun m E K'=>∃i:Nat,m+i=l.length∧E 0=v∧E 1=.i .i64 task∧E 5=.i .i64 i∧K'=K∧(l.any fun y=>!decide (y.t=task))=((l.drop i).any fun y=>!decide (y.t=task)):=⟨_,rfl⟩
 refine zN I l.length ?_ ?_
 ·rw[hI];exact⟨0,by omega,by simp[zI],by simp[zI],by simp,rfl,rfl⟩
 intro m E t K' hi
 rw[hI]at hi
 obtain⟨i,hm,e0,e1,e5,rfl,kf⟩:=hi
 have hlen:=fun X k=>hv.len (F:=F) X k
 unfold BX
 rw[e0,e1,e5]
 simp only[zf,hlen,yP,zM]
 refine⟨fun hlt=>?_,fun Bu=>?_⟩
 rotate_left
 ·unfold B1
  exact⟨K',zx.refl _,hQ _ _ ⟨by rw[kf,List.drop_eq_nil_iff.2 (by omega)];rfl,rfl⟩⟩
 have bK:i<l.length:=by omega
 have hx:l[i]?=some l[i]:=List.getElem?_eq_getElem bK
 have Ma:l.drop i=l[i]::l.drop (i+1):=List.drop_eq_getElem_cons bK
 generalize l[i]=x at hx Ma
 have w1:wr .i64 ((i:Int)+1)=((i+1:Nat):Int):=by rw[zT (by omega) (by omega)];omega
 obtain⟨b,q,q1,q2,_⟩:=hv.get (F:=F) hx
 have ra:aq K' (b,q) none=some (.i .i64 x.t):=(q2 K' (zQ.refl _)).1 0 (by omega)
 rw[Ma]at kf
 simp only[zf,zk,Nat.add_zero,zt,ra,zg,q1,wA,zM]
 refine⟨fun hne=>?_,fun heq=>?_⟩
 ·exact⟨K',zx.refl _,hQ _ _ ⟨by rw[kf];simp[hne],rfl⟩⟩
 ·simp only[zf,y6,w1]
  rw[hI]
  have heq':x.t=task:=by simpa using heq
  exact⟨m-1,by omega,i+1,by omega,by simp[e0],by simp[e1],by simp,rfl,by rw[kf];simp[heq']⟩
theorem VU (hf:pU F)(L:Lg)(w:Wt)(send:Bool):zd F ic [.p none,w.av,.b send] L fun v L'=>v=.i .i64 6∧L'=L:=by
 refine zr ?_
 intro Q hQ
 apply IM hf.code
 unfold jr jo jn uX Wt.av
 simp only[zf,vu]
 rw[zL _ _ _ (Wt.eA w)]
 intro b0 hb0
 simp only[zf,Yc,Bool.not_false,z9]
 exact⟨L,((zQ.refl L).put hb0 _).cj,hQ _ _ ⟨rfl,rfl⟩⟩
theorem zc5 (hf:pU F)(e:L c=some (.abs (YH c x)))(hs:x.aF=[])(hl:x.recvs.length<1000000)(w:Wt) :
  zd F ic [.p (some (c,0)),w.av,.b false] L fun v L'=>v=.i .i64 (x.waits w false).2∧L'=L.put c (.abs (YH c (x.waits w false).1)):=by
 refine zr ?_
 intro Q hQ
 apply vo e
 intro bv sv rv K o
 apply IM hf.code
 unfold jr Wt.av
 simp only[zf,vu]
 rw[zL _ _ _ (Wt.eA w)]
 intro b0 hb0
 have n0:=o.ne hb0
 have o1:=o.bW hb0 (.raw (.cells w.cells))
 have l0:(L.put b0 (.raw (.cells w.cells))) b0=some (.raw (.cells w.cells)):=ze _ _ _
 have low:∀r d,r≠c→L r=some d→(L.put b0 (.raw (.cells w.cells))) r=some d:=fun r d _ hd=>by
  rw[zb _ _ _ (by rintro rfl;rw[n0.2.1]at hd;cases hd)];exact hd
 generalize K.put b0 (.raw (.cells w.cells))=K1 at o1
 generalize L.put b0 (.raw (.cells w.cells))=L1 at o1 l0 low
 have zqJ:=fun X k=>o1.sS.len (F:=F) X k
 have iO:=fun X k=>o1.sb.len (F:=F) X k
 have k0:=o1.old b0 _ n0.1 l0
 have g0:aq K1 (b0,0) none=some (.i .i64 w.t):=by rw[zj k0];rfl
 have fin:∀(n:Int) (y:Ch) {bv' ey rv':AV} {K':Lg},x.waits w false=(y,n)→aE L1 c y bv' ey rv' K'→zm (some (.i .i64 n)) Q K':=by
  intro n y bv' ey rv' K' h1 o'
  exact⟨_,(o'.below low).shut,hQ _ _ ⟨by rw[h1],by rw[h1]⟩⟩
 unfold jo jn uW uV mG mF
 simp only[zf,wR,zC,vI,xD,zW,zh,zk,Nat.zero_add,zt,o1.r3,zg]
 cases hc:x.closed with
 | true =>
  simp only[zf,z9]
  unfold mE
  exact fin 5 x (by simp[Ch.waits,hc]) o1
 | false =>
  simp only[zf,zC]
  unfold mD
  simp only[zf,vI,xD,zW]
  unfold mC
  simp only[zf,zC,yf,Bool.not_false,zw,yo,zh,zk,Nat.zero_add,zt,o1.r4,zg,iO,vT]
  have zqr:(x.aF.any fun y=>!decide (y.t=w.t))=false:=by rw[hs];rfl
  by_cases hv:(0:Int)<(x.vals.length:Int)
  ·simp only[zf,hv,decide_true,Bool.not_false,YR,xD,zw,zV]
   unfold eH
   simp only[zf,hv,decide_true,Bool.not_false,zw,zV,z9]
   refine fin 1 x ?_ o1
   have:0<x.vals.length:=by omega
   simp[Ch.waits,hc,Ch.free,this]
  ·simp only[zf,hv,decide_false,zw,yo,zh,zk,Nat.zero_add,Nat.add_zero,zt,o1.r5,g0,zg,xy]
   refine (zae hf.f99 o1.sS o1.len.2.1 w.t).mono ?_
   rintro _ K2 ⟨rfl,gE⟩
   rw[gE,zqr]
   simp only[zf,hv,decide_false,Bool.not_false,zw,zW,zV]
   unfold eH
   simp only[zf,hv,decide_false,Bool.not_false,zw,zW,zV,zC]
   refine cJ.start ?_
   intro v12 K3 l3
   have o3:=o1.sub l3.s
   simp only[zf,zh,zk,Nat.zero_add,zt,o3.r6,zg]
   refine l3.app Wt.dQ Wt.eA (by omega) o3.sR (by omega) ?_
   intro v16 K4 l4
   have k4:aq K4 (b0,0) (some 3)=some (.agg w.cells):=by rw[yc (l4.s _ _ k0) (by simp[Wt.cells])];rfl
   have k1:aq K1 (b0,0) (some 3)=some (.agg w.cells):=by rw[yc k0 (by simp[Wt.cells])];rfl
   simp only[zf,zt,k4,zg]
   refine zak rfl (Wt.dQ w) (Wt.eA w) ?_
   intro nY K5 o18 s5 f18
   have s18:cI Wt.cells 3 K5 nY [w]:=cI.bD (f:=Wt.cells) Wt.dQ (by simpa[zl]using o18)
   refine (l4.mono s5).app Wt.dQ Wt.eA (by omega) s18 (by simp;omega) ?_
   intro Ib K6 l6
   have o6:=o1.newR (l:=x.recvs++[w]) (by rw[zU];simpa using l6) (by simp;omega)
   simp only[zf,zh,zk,Nat.zero_add,yj]
   refine o1.st l6.s (by omega) l6.o.cellsOf ?_
   refine⟨⟨by simp[yb,yC,XT,k4,k1,Wt.cells,ve,Qe,Yg,wE],trivial⟩,?_⟩
   unfold jq
   refine fin 0 _ ?_ o6
   have:¬0<x.vals.length:=by omega
   simp[Ch.waits,hc,Ch.free,this,Ch.wait,hs]
def Ah {α:Type}(f:α→List AV)(z:Nat)(K:Lg)(v:AV)(l:List α):Prop:=∃a cap ex,v=.sl a l.length cap ex∧(l=[]∨∃b off cs,a=some (b,off)∧(K b=some (.raw (.cells cs))∨K b=some (.raw (.ro cs)))∧off+l.length * z≤cs.length∧∀(i:Nat) (x:α),l[i]?=some x→(cs.drop (off+i * z)).take z=f x)
theorem Ah.len {α:Type}{f:α→List AV}{z:Nat}{v:AV}{l:List α}(h:Ah f z K v l)(X:Lg)(k:AV→Lg→Prop):za F .ax [v] X k=k (.i .i64 l.length) X:=by
 obtain⟨a,cap,ex,rfl,_⟩:=h
 simp
theorem Ah.get {α:Type}{f:α→List AV}{z:Nat}{v:AV}{l:List α}(h:Ah f z K v l){i:Nat}{x:α}(hi:l[i]?=some x):∃b o,(∀(X:Lg) (k:AV→Lg→Prop),za F (.aX z) [v,.i .i64 i] X k=k (.p (some (b,o))) X) ∧
  (∀X:Lg,zQ K X→(∀j,j<z→aq X (b,o+j) none=(f x)[j]?)∧aq X (b,o) (some z)=some (.agg (f x)))∧K b≠none:=by
 obtain⟨a,cap,ex,rfl,h1 | ⟨b,off,cs,rfl,h2,h6,h3⟩⟩:=h
 ·subst h1;simp at hi
 ·have hl:=(List.getElem?_eq_some_iff.1 hi).1
  have h4:=zg2 hl h6
  have h5:=h3 i x hi
  refine⟨b,off+i * z,fun X k=>?_,fun X hX=>?_,?_⟩
  ·rw[yn F X k z b off l.length cap ex .i64 i (by omega) (by omega)]
   simp
  ·rcases h2 with h2 | h2
   ·refine⟨fun j hj=>?_,?_⟩
    ·rw[zj (hX _ _ h2),ZG h5 hj]
    ·rw[yc (hX _ _ h2) h4,h5]
   ·refine⟨fun j hj=>?_,?_⟩
    ·rw[zez (hX _ _ h2),ZG h5 hj]
    ·rw[V7 (hX _ _ h2) h4,h5]
  ·rcases h2 with h2 | h2<;>rw[h2]<;>simp
theorem zik (x y:Wk):LN x.cells y.cells [(0,1),(1,1),(2,1),(3,0),(4,0)]=some (decide (x=y)):=by
 obtain⟨a,b,d,e,f⟩:=x
 obtain⟨a',b',d',e',f'⟩:=y
 cases e<;>cases e'<;>cases f<;>cases f'<;>by_cases h1:a=a'<;>by_cases h2:b=b'<;>by_cases h3:d=d'<;>simp[Wk.cells,LN,P7,X9,h1,h2,h3]
theorem zaY (hf:KO F){a b:AV}{l m:List Wk}(ha:Ah Wk.cells 5 K a l)(hb:Ah Wk.cells 5 K b m)(hl:l.length≤1000000):zd F Ao [a,b] K fun v K'=>v=.b (decide (l=m))∧K'=K:=by
 refine zr ?_
 intro Q hQ
 apply zkg hf.code
 generalize hE:zI [a,b] 0=E
 have e0:E 0=a:=by rw[←hE];simp[zI]
 have e1:E 1=b:=by rw[←hE];simp[zI]
 clear hE
 have mT:=fun X k=>ha.len (F:=F) X k
 have iO:=fun X k=>hb.len (F:=F) X k
 unfold Cg Cf
 have p0:(Env.put E 4 (.b false)) 0=a:=by simp[e0]
 have p1:(Env.put E 4 (.b false)) 1=b:=by simp[e1]
 generalize Env.put E 4 (.b false)=E1 at p0 p1
 simp only[zf,p0,p1,mT,iO,wA,zM]
 refine⟨fun hne=>?_,fun heq=>?_⟩
 ·refine⟨K,zx.refl _,hQ _ _ ⟨?_,rfl⟩⟩
  have:l≠m:=by rintro rfl;exact hne rfl
  simp[this]
 have hlm:l.length=m.length:=by
  have:¬((l.length:Int)≠(m.length:Int)):=heq
  omega
 unfold Cd Cc
 obtain⟨I,hI⟩:∃I:Nat→Env→Lg→Prop,I=fun n E K'=>∃i:Nat,n+i=l.length∧E 0=a∧E 1=b∧E 5=.i .i64 i∧K'=K∧∀j,j<i→l[j]?=m[j]?:=⟨_,rfl⟩
 refine zN I l.length ?_ ?_
 ·rw[hI];exact⟨0,by omega,by simp[p0],by simp[p1],by simp,rfl,fun j h=>by omega⟩
 intro n E t K' hi
 rw[hI]at hi
 obtain⟨i,hm,e0,e1,e5,rfl,kf⟩:=hi
 unfold Cb
 rw[e0,e1,e5]
 simp only[zf,mT,yP,zM]
 refine⟨fun hlt=>?_,fun Bu=>?_⟩
 rotate_left
 ·unfold Ce
  refine⟨K',zx.refl _,hQ _ _ ⟨?_,rfl⟩⟩
  have:l=m:=by
   apply List.ext_getElem?
   intro j
   by_cases hj:j<i
   ·exact kf j hj
   ·rw[List.getElem?_eq_none (by omega),List.getElem?_eq_none (by omega)]
  simp[this]
 have bK:i<l.length:=by omega
 have hx:l[i]?=some l[i]:=List.getElem?_eq_getElem bK
 have hy:m[i]?=some (m[i]'(by omega)):=List.getElem?_eq_getElem (by omega)
 generalize l[i]=x at hx
 generalize m[i]'(by omega)=y at hy
 have w1:wr .i64 ((i:Int)+1)=((i+1:Nat):Int):=by rw[zT (by omega) (by omega)];omega
 obtain⟨b1,q1,g1,g2,_⟩:=ha.get (F:=F) hx
 obtain⟨b2,q2,g3,g4,_⟩:=hb.get (F:=F) hy
 simp only[zf,g1,zt,(g2 K' (zQ.refl _)).2,g3,(g4 K' (zQ.refl _)).2,zg,zbV,zik,Option.map_some]
 by_cases hxy:x=y
 ·simp only[hxy,decide_true,bne_self_eq_false,zC,zf,y6,w1]
  rw[hI]
  refine⟨n-1,by omega,i+1,by omega,by simp[e0],by simp[e1],by simp,rfl,fun j hj=>?_⟩
  by_cases h9:j=i
  ·subst h9;rw[hx,hy,hxy]
  ·exact kf j (by omega)
 ·have:(decide (x=y) != true)=true:=by simp[hxy]
  rw[this]
  simp only[z9]
  refine⟨K',zx.refl _,hQ _ _ ⟨?_,rfl⟩⟩
  have:l≠m:=by rintro rfl;rw[hx]at hy;cases hy;exact hxy rfl
  simp[this]
end
end
section
variable {F:Nat→Option aT}
theorem UF (w:On):w.cells.length=4:=rfl
theorem zbN (w:On):w.cells.all AV.one=true:=w.fS
def YI (u:Nat)(σ:bk)(h:Hp):Prop:=∃aK sv pv ov M,aA Lg.nil u σ aK sv pv ov M∧cD aK σ.x∧Sat M h
section
variable {L K:Lg} {u:Nat} {σ:bk} {aK:List (Int×Int)} {sv pv ov:AV}
theorem aA.shut (o:aA L u σ aK sv pv ov K)(pk:cD aK σ.x):zx K (L.put u (.abs (YI u σ))):=by
 refine yZ (fun b=>b=u∨au sv=some b∨au pv=some b∨au ov=some b) (.inl rfl) ?_ ?_ (.inl ⟨_,o.root⟩) ?_
 ·intro b d hb hd
  simp only[not_or]at hb
  exact o.old b d hb.1 hd
 ·rintro b (rfl | h | h | h) hb
  ·exact absurd rfl hb
  ·exact (o.a1 b h).2
  ·exact (o.a2 b h).2.1
  ·exact (o.a3 b h).2.1
 ·intro M hp hM hN hs
  refine⟨aK,sv,pv,ov,M,⟨?_,o.hs.mono fun b hb=>hM b (.inr (.inl hb)),o.ps.mono fun b hb=>hM b (.inr (.inr (.inl hb))),o.os.mono fun b hb=>hM b (.inr (.inr (.inr hb))),fun b hb=>⟨(o.a1 b hb).1,rfl⟩,fun b hb=>⟨(o.a2 b hb).1,rfl,(o.a2 b hb).2.2⟩,fun b hb=>⟨(o.a3 b hb).1,rfl,(o.a3 b hb).2.2⟩,fun r d _ hd=>by simp[Lg.nil]at hd⟩,pk,hs⟩
  rw[hM u (.inl rfl)];exact o.root
theorem wx {f:Nat}{vs:List AV}{Q:AV→Lg→Prop}(e:L u=some (.abs (YI u σ)))(H:∀aK sv pv ov K,aA L u σ aK sv pv ov K→cD aK σ.x→zd F f vs K Q):zd F f vs L Q:=by
 apply y3 e
 rintro hm ⟨aK,sv,pv,ov,M,o,pk,hs⟩
 refine⟨M,hs,by rw[o.root];simp,fun hf=>?_⟩
 have hi:∀b d,M b=some d→(M.ak L) b=some d:=fun b d h=>by simp[Lg.ak,h]
 have sb:∀{v:AV} {cs:List AV} {n z:Nat},dj M v cs n z→dj (M.ak L) v cs n z:=fun h=>h.sub fun b d _ hd=>hi b d hd
 refine H aK sv pv ov (M.ak L) ⟨hi _ _ o.root,sb o.hs,sb o.ps,o.os.sub fun b d _ hd=>hi b d hd,fun b hb=>⟨(o.a1 b hb).1,hf b _ (o.hs.block hb) (o.a1 b hb).1⟩,fun b hb=>⟨(o.a2 b hb).1,hf b _ (o.ps.block hb) (o.a2 b hb).1,(o.a2 b hb).2.2⟩,
  fun b hb=>⟨(o.a3 b hb).1,hf b _ (o.os.block hb) (o.a3 b hb).1,(o.a3 b hb).2.2⟩,fun r d hr hd=>?_⟩ pk
 have:M r=none:=by
  cases h:M r with
  | none=>rfl
  | some e=>have:=hf r e h hr;rw[hd]at this;cases this
 simp[Lg.ak,this,hd]
theorem aA.back (o:aA L u σ aK sv pv ov K)(pk:cD aK σ.x)(e:L u=some (.abs (YI u σ))):zx K L:=by
 have:=o.shut pk
 rwa [ye L u _ e]at this
theorem aA.bY (o:aA L u σ aK sv pv ov K){b:Nat}(h1:b≠u){d0:LC}(h2:L b=some d0)(d:LC):aA (L.put b d) u σ aK sv pv ov (K.put b d):=by
 have ne:∀{r:Nat},L r=none→r≠b:=fun hr=>by rintro rfl;rw[h2]at hr;cases hr
 have e1:=fun r hr=>ne (o.a1 r hr).2
 have e2:=fun r hr=>ne (o.a2 r hr).2.1
 have e3:=fun r hr=>ne (o.a3 r hr).2.1
 refine⟨by rw[zb _ _ _ (Ne.symm h1)];exact o.root,o.hs.mono fun r hr=>zb _ _ _ (e1 r hr),o.ps.mono fun r hr=>zb _ _ _ (e2 r hr),o.os.mono fun r hr=>zb _ _ _ (e3 r hr),
  fun r hr=>by rw[zb _ _ _ (e1 r hr)];exact o.a1 r hr,fun r hr=>by rw[zb _ _ _ (e2 r hr)];exact o.a2 r hr,fun r hr=>by rw[zb _ _ _ (e3 r hr)];exact o.a3 r hr,fun r e hr he=>?_⟩
 rw[Lg.ah]at he ⊢
 split
 ·rename_i h9;rw[if_pos h9]at he;exact he
 ·rename_i h9;rw[if_neg h9]at he;exact o.old r e hr he
theorem aA.zoJ (o:aA L u σ aK sv pv ov K){v:AV}{l:List On}{K1:Lg}(h1:bu K1 v (zl On.cells l) l.length 4)(h2:vX (au ov) K K1)(h3:∀b,au v=some b→K b=none∨au ov=some b) :
  aA L u { σ with af:=l } aK sv pv v (K1.put u (.raw (.cells [sv,.i .i64 σ.x.seq,pv,v,.i .i64 σ.named]))):=by
 have fr:∀b,au v=some b→b≠u∧L b=none∧au sv≠some b∧au pv≠some b:=fun b hb=>by
  rcases h3 b hb with h | h
  ·have:=o.ne h;exact⟨this.1,this.2.1,this.2.2.1,this.2.2.2.1⟩
  ·exact o.a3 b h
 have kp:∀{b:Nat} {d:LC},b≠u→au ov≠some b→K b=some d→(K1.put u (.raw (.cells [sv,.i .i64 σ.x.seq,pv,v,.i .i64 σ.named]))) b=some d:=fun {b d} g1 g2 g3=>by rw[zb _ _ _ g1];exact h2 b d g3 g2
 exact⟨ze _ _ _,o.hs.sub fun b d hb hd=>kp (o.a1 b hb).1 (fun h9=>(o.a3 b h9).2.2.1 hb) hd,o.ps.sub fun b d hb hd=>kp (o.a2 b hb).1 (fun h9=>(o.a3 b h9).2.2.2 hb) hd,h1.mono fun b hb=>zb _ _ _ (fr b hb).1,
  o.a1,o.a2,fr,fun r d hr hd=>kp hr (fun h9=>by have:=(o.a3 r h9).2.1;rw[hd]at this;cases this) (o.old r d hr hd)⟩
theorem zcG (hf:KV F)(o:aA L u σ aK sv pv ov K)(id:Int):zd F Aw [.p (some (u,0)),.i .i64 id] K fun v K'=>v=.b (σ.has id)∧K'=K:=by
 refine zr ?_
 intro Q hQ
 apply zkl hf.code
 unfold CE
 have hlen:=fun X k=>o.slO.len (F:=F) X k
 have fin:∀b:Bool,σ.has id=b→zm (some (.b b)) Q K:=fun b h=>⟨K,zx.refl _,hQ _ _ ⟨by rw[h],rfl⟩⟩
 by_cases h:0≤id
 ·simp only[zf,vg,ge_iff_le,h,decide_true,zw,yo,zh,zk,Nat.zero_add,zt,o.r3,zg,hlen,yP,zV]
  exact fin _ (by simp[bk.has,h])
 ·simp[h]
  exact fin _ (by simp[bk.has,h])
theorem dj.aW {v:AV}{cs:List AV}{n size:Nat}(h:dj K v cs n size)(hn:0<n):bu K v cs n size:=by
 rcases h with h | ⟨h1,_⟩
 ·exact h
 ·omega
theorem ziz {B:Int}(fi:eY σ aK B)(ho:σ.af.length<1000000)(o:aA L u σ aK sv pv ov K)(w:On){k:AV→Lg→Prop}
  (hk:∀v K1,v.cellsOf=some [v]→aA L u { σ with af:=σ.af++[w] } aK sv pv v (K1.put u (.raw (.cells [sv,.i .i64 σ.x.seq,pv,v,.i .i64 σ.named])))→K1 u=some (.raw (.cells [sv,.i .i64 σ.x.seq,pv,ov,.i .i64 σ.named]))→k v K1) :
  za F (.aC [.i .i64 0,.i .i64 0,.p none,.i .i64 0] 1 4 [0]) [.agg w.cells] K fun v5 L5=>za F (.app 4 32) [ov,v5] L5 k:=by
 refine zak (cs:=w.cells) rfl (UF w) (zbN w) ?_
 intro v5 K4 o5 s4 f5
 have s5:cI On.cells 4 K4 v5 [w]:=cI.bD (f:=On.cells) UF (by simpa[zl]using o5)
 have o4:=o.sub s4
 refine dj.app (v:=ov) UF zbN (by omega) (.inl o4.os) s5 (by simp;omega) ?_
 intro v6 K5 p6 k6 f6
 have os6:bu K5 v6 (zl On.cells (σ.af++[w])) (σ.af++[w]).length 4:=by rw[zU];simpa using p6.aW (by simp)
 have o6:=o4.zoJ os6 k6 f6
 exact hk v6 K5 os6.cellsOf o6 (k6 u _ o4.root (fun h9=>(o4.a3 u h9).1 rfl))
end
end
section
variable {F:Nat→Option aT}
section
variable {L K:Lg} {u:Nat} {σ:bk} {aK:List (Int×Int)} {sv pv ov:AV}
structure aQ (σ:bk)(B:Int):Prop where
 g:XG σ.x B
 b:B<1000000
 o:σ.af.length<1000000
 n:0≤σ.named
theorem aQ.r {B:Int}(h:aQ σ B)(pk:cD aK σ.x):eY σ aK B:=⟨h.g,h.b,pk⟩
theorem aQ.ll {B:Int}(h:aQ σ B):σ.x.l.length<1000000:=by have:=h.g.len;have:=h.b;omega
theorem zbb {w:On}{now d:Int}(h:(σ.make w now d).2.2=0):(σ.make w now d).2.1=σ.af.length∧(σ.make w now d).1.af=σ.af++[{ w with gen:=w.gen+1 }]:=by
 simp only[bk.make]at h ⊢
 split at h
 ·simp at h
 ·rename_i h1
  split at h
  ·simp at h
  ·rename_i h2
   rw[if_neg h1,if_neg h2]
   simp[bk.aP]
theorem zbf (when:Int):zB 0 (max when 0)=max (zB when 0) 0:=by unfold zB yx;omega
theorem zbi (hf:KW F)(e:L u=some (.abs (YI u σ))){B:Int}(fi:aQ σ B)(when ctx:Int) :
  zd F Ax [.p (some (u,0)),.i .i64 when,.i .i64 ctx] L fun v L'=>v=.ay [.i .i64 (σ.make ⟨4,ctx,none,0⟩ 0 when).2.1,.i .i64 (σ.make ⟨4,ctx,none,0⟩ 0 when).2.2]∧L'=L.put u (.abs (YI u (σ.make ⟨4,ctx,none,0⟩ 0 when).1)):=by
 refine zr ?_
 intro Q hQ
 apply wx e
 intro aK sv pv ov K o pk
 apply zkm hf.code
 unfold CF
 have gD:GB 0=false:=by simp[GB]
 simp only[zf,yP,zM]
 refine⟨fun c1=>?_,fun c1=>?_⟩
 ·have hm:σ.make ⟨4,ctx,none,0⟩ 0 when=(σ,0,1):=by simp[bk.make,c1]
  exact⟨_,o.shut pk,hQ _ _ ⟨by rw[hm],by rw[hm]⟩⟩
 have hm:σ.make ⟨4,ctx,none,0⟩ 0 when=({ σ with af:=σ.af++[(⟨4,ctx,none,0⟩:On)] }.aP σ.af.length ⟨4,ctx,none,0⟩ 0 when,(σ.af.length:Int),0):=by
  simp only[bk.make]
  rw[if_neg (by simp[gD];omega),if_neg (by simp),if_pos trivial]
 simp only[zf,zh,zk,Nat.zero_add,zt,o.r3,zg]
 have hb:∀k:AV→Lg→Prop,za F (.build [.i .i64 0,.i .i64 0,.p none,.i .i64 0] [(0,1),(1,1),(3,1)]) [.i .i64 4,.i .i64 ctx,.i .i64 1] K k=k (.agg (On.cells ⟨4,ctx,none,1⟩)) K:=by
  intro k;simp[zF,zo,zp,zq,On.cells,ptr]
 rw[hb]
 refine ziz (fi.r pk) fi.o o ⟨4,ctx,none,1⟩ ?_
 intro v6 K5 hv6 o6 kr
 simp only[zf,zh,zk,Nat.zero_add,yj]
 rw[zD kr (by simp) hv6]
 simp only[List.set_cons_succ,List.set_cons_zero]
 generalize K5.put u (.raw (.cells [sv,.i .i64 σ.x.seq,pv,v6,.i .i64 σ.named]))=K6 at o6
 have hlen:=fun X k=>o6.slO.len (F:=F) X k
 have ho:=fi.o
 have wl:wr .i64 (((σ.af++[(⟨4,ctx,none,1⟩:On)]).length:Int)-1)=(σ.af.length:Int):=by simp only[List.length_append,List.length_cons,List.length_nil];rw[zT (by omega) (by omega)];omega
 simp only[zf,zh,zk,Nat.zero_add,Nat.add_zero,zt,o6.r3,zg,hlen,zbU,wl]
 refine (VB hf.f63 _ _).mono ?_
 rintro _ K7 ⟨rfl,hK7⟩
 rw[hK7]
 have fi6:eY { σ with af:=σ.af++[(⟨4,ctx,none,1⟩:On)] } aK B:=⟨fi.g,fi.b,pk⟩
 refine (zi8 hf.f70 o6 fi6 _ _ _).mono ?_
 rintro _ K8 ⟨rfl,dP,ey,fP,o8,pk8⟩
 simp only[←zbf,wl]at o8 pk8
 refine⟨_,o8.shut pk8,hQ _ _ ⟨by rw[hm,wl],?_⟩⟩
 rw[hm]
 have e1:(σ.af++[(⟨4,ctx,none,0⟩:On)]).set σ.af.length ⟨4,ctx,none,0+1⟩=σ.af++[(⟨4,ctx,none,1⟩:On)]:=by simp
 simp only[bk.aP,e1]
 rw[if_neg (by omega)]
theorem zdb (hf:Ba F)(o:aA L u σ aK sv pv ov K)(pk:cD aK σ.x){B:Int}(fi:aQ σ B)(id:Int){w:On}(ho:σ.one id=some w){x:Ch}(hx:x.bH=true)(hc:L.FR u w.c x) :
  zd F iI [.p (some (u,0)),.i .i64 id] K fun v K'=>v=.ay [.b (ZR w.c x||(yQ id σ.x.l).isSome),.i .i64 0]∧∃ey fP,aA (L.fj w.c x.dropped) u { σ with x:=σ.x.stop id } (ff id aK) ey fP ov K':=by
 refine zr ?_
 intro Q hQ
 obtain⟨i,rfl,hi,hw,hh⟩:=zcw ho
 apply NQ hf.code
 unfold nA
 refine (zcG hf.f78 o _).mono ?_
 rintro _ K1 ⟨rfl,ki⟩
 rw[ki,hh]
 simp only[zf,yf,Bool.not_true,zC,zh,zk,Nat.add_zero]
 have ll:=fi.ll
 have pl:=(fi.r pk).pl
 refine (zeb hf.f68 o fi.g.nd (by omega) (by omega) _).mono ?_
 rintro _ K2 ⟨rfl,ey,fP,o2⟩
 obtain⟨b,q,q1,q2,_⟩:=o2.slO.get (F:=F) (show ({ σ with x:=σ.x.stop i }:bk).af[i]?=some w from hw)
 have r2:aq K2 (b,q+2) none=some (ptr w.c):=(q2 K2 (zQ.refl _)).1 2 (by omega)
 simp only[zf,zh,zk,Nat.zero_add,zt,o2.r3,zg,q1,r2]
 have Mc:K2.FR u w.c x:=fun a ha=>⟨(hc a ha).1,o2.old a _ (hc a ha).1 (hc a ha).2⟩
 refine (zdG hf.f79 hx Mc).mono ?_
 rintro _ K3 ⟨rfl,EP⟩
 have o3:aA (L.fj w.c x.dropped) u { σ with x:=σ.x.stop i } (ff i aK) ey fP ov K3:=by
  rw[EP]
  cases HS:w.c with
  | none=>exact o2
  | some a=>exact o2.bY (hc a HS).1 (hc a HS).2 _
 cases j9:(yQ (i:Int) σ.x.l).isSome with
 | true =>
  simp only[zf,YR,xD,zV]
  exact⟨K3,zx.refl _,hQ _ _ ⟨by rw[j9];simp,ey,fP,o3⟩⟩
 | false =>
  simp only[zf,zw,yo,zW]
  exact⟨K3,zx.refl _,hQ _ _ ⟨by rw[j9];simp,ey,fP,o3⟩⟩
theorem zdc (hf:Ba F)(e:L u=some (.abs (YI u σ)))(id:Int)(ho:σ.one id=none) :
  zd F iI [.p (some (u,0)),.i .i64 id] L fun v L'=>v=.ay [.b false,.i .i64 4]∧L'=L:=by
 refine zr ?_
 intro Q hQ
 apply wx e
 intro aK sv pv ov K o pk
 apply NQ hf.code
 unfold nA
 refine (zcG hf.f78 o _).mono ?_
 rintro _ K1 ⟨rfl,ki⟩
 rw[ki,zcv ho]
 simp only[zf,yf,Bool.not_false,z9]
 exact⟨L,o.back pk e,hQ _ _ ⟨rfl,rfl⟩⟩
theorem zeK {c:Option Nat}{x:Ch}(h:∀a,c=some a→a≠u)(d:LC):(L.fj c x).put u d=(L.put u d).fj c x:=by
 cases c with
 | none=>rfl
 | some a=>exact yJ _ (h a rfl) _ _
theorem zda (hf:Ba F)(e:L u=some (.abs (YI u σ))){B:Int}(fi:aQ σ B)(id:Int){w:On}(ho:σ.one id=some w){x:Ch}(hx:x.bH=true)(hc:L.FR u w.c x) :
  zd F iI [.p (some (u,0)),.i .i64 id] L fun v L'=>v=.ay [.b (ZR w.c x||(yQ id σ.x.l).isSome),.i .i64 0]∧L'=(L.put u (.abs (YI u { σ with x:=σ.x.stop id }))).fj w.c x.dropped:=by
 apply wx e
 intro aK sv pv ov K o pk
 refine (zdb hf o pk fi id ho hx hc).cj ?_
 rintro _ K' ⟨rfl,ey,fP,o'⟩
 refine⟨_,o'.shut (pk.stop fi.g.nd id),rfl,?_⟩
 exact zeK (fun a ha=>(hc a ha).1) _
end
end
section
variable {F:Nat→Option aT}
section
variable {L K:Lg} {u:Nat} {σ:bk} {aK:List (Int×Int)} {sv pv ov:AV}
theorem zdB (hf:A9 F)(e:L u=some (.abs (YI u σ))){B:Int}(fi:aQ σ B)(now:Int)(hk:(σ.x.take now).2.2=false) :
  zd F gB [.p (some (u,0)),.i .i64 now] L fun v L'=>v=.ay [Wd 0 0 0 0 0 (.sl none 0 0 0) false,.b false]∧L'=L:=by
 refine zr ?_
 intro Q hQ
 apply wx e
 intro aK sv pv ov K o pk
 apply NO hf.code
 unfold nu nq
 simp only[zf,y4]
 intro x4 Bq
 have n4:=o.ne Bq
 obtain⟨K1,ki⟩:∃K1,K1=K.put x4 (.raw (.cells [.i .i64 0,.i .i64 0,.i .i64 0,.i .i64 0,.i .i64 0,.sl none 0 0 0,.b false])):=⟨_,rfl⟩
 obtain⟨L1,BC⟩:∃L1,L1=L.put x4 (.raw (.cells [.i .i64 0,.i .i64 0,.i .i64 0,.i .i64 0,.i .i64 0,.sl none 0 0 0,.b false])):=⟨_,rfl⟩
 have o1:aA L1 u σ aK sv pv ov K1:=by rw[ki,BC];exact o.bW Bq _
 have l4:L1 x4=some (.raw (.cells [.i .i64 0,.i .i64 0,.i .i64 0,.i .i64 0,.i .i64 0,.sl none 0 0 0,.b false])):=by rw[BC,ze]
 have low:∀r d,r≠u→L r=some d→L1 r=some d:=fun r d _ hd=>by
  rw[BC,zb _ _ _ (by rintro rfl;rw[n4.2.1]at hd;cases hd)];exact hd
 rw[←ki]
 simp only[zf,zh,zk,Nat.add_zero]
 refine (zgY hf.f84 o1 (fi.r pk) now).mono ?_
 rintro _ K2 ⟨rfl,dP,ey,fP,o2,pk2⟩
 have hx:(σ.x.take now).1=σ.x∧(σ.x.take now).2.1=(0,0,0):=by
  unfold Xs.take at hk ⊢
  split
  ·exact⟨rfl,rfl⟩
  ·rename_i y hy
   rw[hy]at hk
   simp only at hk
   split
   ·exact⟨rfl,rfl⟩
   ·rename_i h9;rw[if_neg h9]at hk;simp at hk
 rw[hx.1]at o2 pk2
 rw[hk,hx.2]
 simp only[zf,vU,yi,List.getElem?_cons_zero,List.getElem?_cons_succ,zg,y4]
 intro x6 Ad
 rw[yj,zu (ze _ _ _) (by simp) (by simp) (by simp),zA]
 have o3:=o2.sub ((zQ.refl K2).put Ad (.raw (.cells (zo [.i .i64 0,.i .i64 0,.i .i64 0] 0 [.i .i64 0,.i .i64 0,.i .i64 0]))))
 generalize K2.put x6 (.raw (.cells (zo [.i .i64 0,.i .i64 0,.i .i64 0] 0 [.i .i64 0,.i .i64 0,.i .i64 0])))=K3 at o3
 unfold nj
 simp[zF]
 have k4:=o3.old x4 _ n4.1 l4
 rw[zu k4 (by simp) (by simp) (by simp),zX _ _ (ze _ _ _) (by simp[zo])]
 have o5:=o3.below low
 have f1:au ey≠some x4:=fun h9=>by have:=(o3.a1 x4 h9).2;rw[l4]at this;cases this
 have f2:au fP≠some x4:=fun h9=>by have:=(o3.a2 x4 h9).2.1;rw[l4]at this;cases this
 have f3:au ov≠some x4:=fun h9=>by have:=(o3.a3 x4 h9).2.1;rw[l4]at this;cases this
 refine⟨_,(o5.RC n4.1 n4.2.1 f1 f2 f3 _).back pk2 e,hQ _ _ ⟨?_,rfl⟩⟩
 simp[zo,Wd]
theorem zdA (hf:A9 F)(e:L u=some (.abs (YI u σ))){B:Int}(fi:aQ σ B)(now:Int){x':Xs}{id when:Int}(tk:σ.x.take now=(x',(id,when,now),true))
  {w:On} (ho:σ.one id=some w) {x:Ch} (hx:x.bH=true) (hl:x.vals.length≤x.cap) (hcp:x.cap<1000000) (hc:L.FR u w.c x) :
  zd F gB [.p (some (u,0)),.i .i64 now] L fun v L'=>∃sl,v=.ay [Wd id w.kind when now w.data sl (yF w.c x now).2.2,.b true] ∧
   xC ((L.put u (.abs (YI u { σ with x:=x' }))).fj w.c (yF w.c x now).1) sl (yr (yF w.c x now).2.1) (yF w.c x now).2.1.length 5 L':=by
 refine zr ?_
 intro Q hQ
 obtain⟨i,rfl,hi,hw,hh⟩:=zcw ho
 apply wx e
 intro aK sv pv ov K o pk
 apply NO hf.code
 unfold nu nq
 simp only[zf,y4]
 intro x4 Bq
 have n4:=o.ne Bq
 obtain⟨K1,ki⟩:∃K1,K1=K.put x4 (.raw (.cells [.i .i64 0,.i .i64 0,.i .i64 0,.i .i64 0,.i .i64 0,.sl none 0 0 0,.b false])):=⟨_,rfl⟩
 obtain⟨L1,BC⟩:∃L1,L1=L.put x4 (.raw (.cells [.i .i64 0,.i .i64 0,.i .i64 0,.i .i64 0,.i .i64 0,.sl none 0 0 0,.b false])):=⟨_,rfl⟩
 have o1:aA L1 u σ aK sv pv ov K1:=by rw[ki,BC];exact o.bW Bq _
 have l4:L1 x4=some (.raw (.cells [.i .i64 0,.i .i64 0,.i .i64 0,.i .i64 0,.i .i64 0,.sl none 0 0 0,.b false])):=by rw[BC,ze]
 have low:∀r d,r≠u→L r=some d→L1 r=some d:=fun r d _ hd=>by
  rw[BC,zb _ _ _ (by rintro rfl;rw[n4.2.1]at hd;cases hd)];exact hd
 rw[←ki]
 simp only[zf,zh,zk,Nat.add_zero]
 refine (zgY hf.f84 o1 (fi.r pk) now).mono ?_
 rintro _ K2 ⟨rfl,dP,ey,fP,o2,pk2⟩
 rw[tk]at o2 pk2 ⊢
 simp only[zf,vU,yi,List.getElem?_cons_zero,List.getElem?_cons_succ,zg,y4]
 intro x6 Ad
 have n6:=o2.ne Ad
 rw[yj,zu (ze _ _ _) (by simp) (by simp) (by simp),zA]
 have hsp:zo [AV.i .i64 0,.i .i64 0,.i .i64 0] 0 [.i .i64 i,.i .i64 when,.i .i64 now]=[.i .i64 i,.i .i64 when,.i .i64 now]:=rfl
 rw[hsp]
 have k64:x6≠x4:=by rintro rfl;have:=o2.old x6 _ n4.1 l4;rw[Ad]at this;cases this
 have o3:=o2.bW Ad (.raw (.cells [.i .i64 i,.i .i64 when,.i .i64 now]))
 have l6:(L1.put x6 (.raw (.cells [.i .i64 i,.i .i64 when,.i .i64 now]))) x6=some (.raw (.cells [.i .i64 i,.i .i64 when,.i .i64 now])):=ze _ _ _
 have l46:(L1.put x6 (.raw (.cells [.i .i64 i,.i .i64 when,.i .i64 now]))) x4=some (.raw (.cells [.i .i64 0,.i .i64 0,.i .i64 0,.i .i64 0,.i .i64 0,.sl none 0 0 0,.b false])):=by rw[zb _ _ _ (Ne.symm k64)];exact l4
 have zld:∀r d,r≠u→L1 r=some d→(L1.put x6 (.raw (.cells [.i .i64 i,.i .i64 when,.i .i64 now]))) r=some d:=fun r d _ hd=>by
  rw[zb _ _ _ (by rintro rfl;rw[n6.2.1]at hd;cases hd)];exact hd
 generalize K2.put x6 (.raw (.cells [.i .i64 i,.i .i64 when,.i .i64 now]))=K3 at o3
 generalize L1.put x6 (.raw (.cells [.i .i64 i,.i .i64 when,.i .i64 now]))=L3 at o3 l6 l46 zld
 clear Ad Bq ki BC o2 o1
 unfold nj Cj
 have k6:=o3.old x6 _ n6.1 l6
 have a0:aq K3 (x6,0) none=some (.i .i64 i):=by rw[zj k6];rfl
 obtain⟨b,q,q1,q2,_⟩:=o3.slO.get (F:=F) (show ({ σ with x:=x' }:bk).af[i]?=some w from hw)
 have IG:=(q2 K3 (zQ.refl _)).2
 simp only[zf,yf,Bool.not_true,zC,zh,zk,Nat.zero_add,Nat.add_zero,zt,o3.r3,a0,zg,q1,IG,y4]
 intro x8 GL
 have n8:=o3.ne GL
 rw[yj,zu (ze _ _ _) (zbN w) (UF w) (by simp),zA]
 have zo6:zo [AV.i .i64 0,.i .i64 0,.p none,.i .i64 0] 0 w.cells=w.cells:=rfl
 rw[zo6]
 have k84:x8≠x4:=by rintro rfl;have:=o3.old x8 _ n4.1 l46;rw[GL]at this;cases this
 have k86:x8≠x6:=by rintro rfl;rw[k6]at GL;cases GL
 have o4:=o3.bW GL (.raw (.cells w.cells))
 have l8:(L3.put x8 (.raw (.cells w.cells))) x8=some (.raw (.cells w.cells)):=ze _ _ _
 have ME:∀r d,r≠u→L3 r=some d→(L3.put x8 (.raw (.cells w.cells))) r=some d:=fun r d _ hd=>by
  rw[zb _ _ _ (by rintro rfl;rw[n8.2.1]at hd;cases hd)];exact hd
 generalize K3.put x8 (.raw (.cells w.cells))=K4 at o4
 generalize L3.put x8 (.raw (.cells w.cells))=L4 at o4 l8 ME
 have l44:=ME x4 _ n4.1 l46
 have l64:=ME x6 _ n6.1 l6
 have IT:∀r d,r≠u→L r=some d→L4 r=some d:=fun r d hr hd=>ME r d hr (zld r d hr (low r d hr hd))
 unfold Ci
 have k6':=o4.old x6 _ n6.1 l64
 have LR:=o4.old x8 _ n8.1 l8
 have b0:aq K4 (x6,0) none=some (.i .i64 i):=by rw[zj k6'];rfl
 have b1:aq K4 (x6,1) none=some (.i .i64 when):=by rw[zj k6'];rfl
 have d0:aq K4 (x8,0) none=some (.i .i64 w.kind):=by rw[zj LR];rfl
 have d1:aq K4 (x8,1) none=some (.i .i64 w.data):=by rw[zj LR];rfl
 have d2:aq K4 (x8,2) none=some (ptr w.c):=by rw[zj LR];rfl
 simp only[zf,zk,Nat.zero_add,Nat.add_zero,zt,b0,b1,d0,d1,zg]
 have hb:∀k:AV→Lg→Prop,za F (.build [.i .i64 0,.i .i64 0,.i .i64 0,.i .i64 0,.i .i64 0,.sl none 0 0 0,.b false] [(0,1),(1,1),(2,1),(3,1),(4,1)]) [.i .i64 i,.i .i64 w.kind,.i .i64 when,.i .i64 now,.i .i64 w.data] K4 k=k (.agg [.i .i64 i,.i .i64 w.kind,.i .i64 when,.i .i64 now,.i .i64 w.data,.sl none 0 0 0,.b false]) K4:=by
  intro k;simp[zF,zo,zp,zq]
 rw[hb]
 simp only[zf,y4]
 intro dO EB
 have IQ:=o4.ne EB
 rw[yj,zu (ze _ _ _) (by simp) (by simp) (by simp),zA,Xu]
 have k10:∀{r:Nat} {d:LC},r≠u→L4 r=some d→dO≠r:=fun hr hd=>by rintro rfl;rw[IQ.2.1]at hd;cases hd
 have o5:=o4.bW EB (.raw (.cells [.i .i64 i,.i .i64 w.kind,.i .i64 when,.i .i64 now,.i .i64 w.data,.sl none 0 0 0,.b false]))
 have N0:(L4.put dO (.raw (.cells [.i .i64 i,.i .i64 w.kind,.i .i64 when,.i .i64 now,.i .i64 w.data,.sl none 0 0 0,.b false]))) dO=some (.raw (.cells [.i .i64 i,.i .i64 w.kind,.i .i64 when,.i .i64 now,.i .i64 w.data,.sl none 0 0 0,.b false])):=ze _ _ _
 have MD:∀r d,r≠u→L4 r=some d→(L4.put dO (.raw (.cells [.i .i64 i,.i .i64 w.kind,.i .i64 when,.i .i64 now,.i .i64 w.data,.sl none 0 0 0,.b false]))) r=some d:=fun r d _ hd=>by
  rw[zb _ _ _ (by rintro rfl;rw[IQ.2.1]at hd;cases hd)];exact hd
 generalize K4.put dO (.raw (.cells [.i .i64 i,.i .i64 w.kind,.i .i64 when,.i .i64 now,.i .i64 w.data,.sl none 0 0 0,.b false]))=K5 at o5
 generalize L4.put dO (.raw (.cells [.i .i64 i,.i .i64 w.kind,.i .i64 when,.i .i64 now,.i .i64 w.data,.sl none 0 0 0,.b false]))=L5 at o5 N0 MD
 have l45:=MD x4 _ n4.1 l44
 have zoT:=o5.old x8 _ n8.1 (MD x8 _ n8.1 l8)
 have e2:aq K5 (x8,2) none=some (ptr w.c):=by rw[zj zoT];rfl
 have RU:∀r d,r≠u→L r=some d→L5 r=some d:=fun r d hr hd=>MD r d hr (IT r d hr hd)
 have lx4:L x4=none:=n4.2.1
 have IB:∀{r:Nat} {P:LC},r≠u→L r=some P→r≠x4∧r≠dO:=fun hr hd=>⟨(by rintro rfl;rw[lx4]at hd;cases hd),fun h9=>by rw[h9]at hd;exact absurd (IT dO _ IQ.1 hd) (by rw[IQ.2.1];simp)⟩
 have fin:∀(L0:Lg) (sl:AV) (kept:Bool) (K' Lb:Lg),aA Lb u { σ with x:=x' } dP ey fP ov K'→Lb x4=some (.raw (.cells [.i .i64 0,.i .i64 0,.i .i64 0,.i .i64 0,.i .i64 0,.sl none 0 0 0,.b false])) →
   Lb dO=some (.raw (.cells [.i .i64 i,.i .i64 w.kind,.i .i64 when,.i .i64 now,.i .i64 w.data,sl,.b kept]))→(∀r d,r≠u→L0 r=some d→r≠x4∧Lb r=some d)→sl.one=true→kept=(yF w.c x now).2.2 →
   xC ((L.put u (.abs (YI u { σ with x:=x' }))).fj w.c (yF w.c x now).1) sl (yr (yF w.c x now).2.1) (yF w.c x now).2.1.length 5 (L0.put u (.abs (YI u { σ with x:=x' }))) →
   (za F (.ld (some 7)) [.p (some (dO,0))] K' fun v26 Nt=>za F (.st 7) [.p (some (x4,0)),v26] Nt fun _ KK=>zm (yz Env.nil Env.nil KK [.cell (.c (.p (some (x4,0)))) (some 7),.tmp (.c (.b true))]) Q KK):=by
  intro L0 sl kept K' Lb o' h4 Mf EO hone hk FN
  have RB:aq K' (dO,0) (some 7)=some (.agg [.i .i64 i,.i .i64 w.kind,.i .i64 when,.i .i64 now,.i .i64 w.data,sl,.b kept]):=by
   rw[yc (o'.old dO _ IQ.1 Mf) (by simp)];rfl
  simp only[zf,zt,RB,zg]
  rw[yj,zu (o'.old x4 _ n4.1 h4) (by simp[hone]) (by simp) (by simp),zX _ _ (ze _ _ _) (by simp[zo])]
  have o'':=(o'.bY n4.1 h4 (.raw (.cells (zo [.i .i64 0,.i .i64 0,.i .i64 0,.i .i64 0,.i .i64 0,.sl none 0 0 0,.b false] 0 [.i .i64 i,.i .i64 w.kind,.i .i64 when,.i .i64 now,.i .i64 w.data,sl,.b kept])))).below (L0:=L0) (fun r d hr hd=>by rw[zb _ _ _ (EO r d hr hd).1];exact (EO r d hr hd).2)
  refine⟨_,o''.shut pk2,hQ _ _ ⟨sl,?_,FN⟩⟩
  rw[Xu,hk];rfl
 simp only[zf,zk,Nat.zero_add,zt,e2,zg]
 cases HS:w.c with
 | none =>
  simp only[zf,ptr,Option.map_none,Yc,Bool.not_true,zC]
  refine fin L (.sl none 0 0 0) false K5 L5 o5 l45 N0 (fun r d hr hd=>⟨(IB hr hd).1,RU r d hr hd⟩) rfl (by rw[HS];rfl) ?_
  rw[HS]
  exact .inl ⟨rfl,rfl,rfl,rfl⟩
 | some a =>
  have ha:=hc a HS
  have ha5:=RU a _ ha.1 ha.2
  have Sz:K5.FR u (some a) x:=fun q hq=>by cases hq;exact⟨ha.1,o5.old a _ ha.1 ha5⟩
  have na4:a≠x4:=(IB ha.1 ha.2).1
  have zla:a≠dO:=(IB ha.1 ha.2).2
  rw[HS]at e2
  simp only[ptr,Option.map_some]at e2
  simp only[zf,ptr,Option.map_some,wR,z9,zk,Nat.zero_add,zt,e2,zg]
  refine (zeJ hf.f86 hx hl hcp Sz now).mono ?_
  rintro _ K6 ⟨sl,rfl,FN⟩
  have o6:=o5.bY ha.1 ha5 (.abs (YH a (yF (some a) x now).1))
  have l4a:(L5.put a (.abs (YH a (yF (some a) x now).1))) x4=some (.raw (.cells [.i .i64 0,.i .i64 0,.i .i64 0,.i .i64 0,.i .i64 0,.sl none 0 0 0,.b false])):=by rw[zb _ _ _ (Ne.symm na4)];exact l45
  have MH:(L5.put a (.abs (YH a (yF (some a) x now).1))) dO=some (.raw (.cells [.i .i64 i,.i .i64 w.kind,.i .i64 when,.i .i64 now,.i .i64 w.data,.sl none 0 0 0,.b false])):=by rw[zb _ _ _ (Ne.symm zla)];exact N0
  have RT:∀r d,r≠u→(L.put a (.abs (YH a (yF (some a) x now).1))) r=some d→r≠x4∧r≠dO∧(L5.put a (.abs (YH a (yF (some a) x now).1))) r=some d:=by
   intro r d hr hd
   rw[Lg.ah]at hd ⊢
   by_cases h9:r=a
   ·rw[if_pos h9]at hd ⊢;exact⟨by rw[h9];exact na4,by rw[h9];exact zla,hd⟩
   ·rw[if_neg h9]at hd ⊢;exact⟨(IB hr hd).1,(IB hr hd).2,RU r d hr hd⟩
  -- Er slice zqo
  have tail:∀(L0 Lb:Lg),aA Lb u { σ with x:=x' } dP ey fP ov K6→Lb x4=some (.raw (.cells [.i .i64 0,.i .i64 0,.i .i64 0,.i .i64 0,.i .i64 0,.sl none 0 0 0,.b false])) →
    Lb dO=some (.raw (.cells [.i .i64 i,.i .i64 w.kind,.i .i64 when,.i .i64 now,.i .i64 w.data,.sl none 0 0 0,.b false]))→(∀r d,r≠u→L0 r=some d→r≠x4∧r≠dO∧Lb r=some d)→sl.cellsOf=some [sl] →
    xC ((L.put u (.abs (YI u { σ with x:=x' }))).fj w.c (yF w.c x now).1) sl (yr (yF w.c x now).2.1) (yF w.c x now).2.1.length 5 (L0.put u (.abs (YI u { σ with x:=x' }))) →
    (za F (.ext 0) [.ay [sl,.b (yF (some a) x now).2.2]] K6 fun nY iu=>za F (.ext 1) [.ay [sl,.b (yF (some a) x now).2.2]] iu fun Ib ir=>za F (.aj 5) [.p (some (dO,0))] ir fun v20 ni=>za F (.st 1) [v20,nY] ni fun _ F5 =>
     za F (.aj 6) [.p (some (dO,0))] F5 fun LP G6=>za F (.st 1) [LP,Ib] G6 fun _ Nu=>za F (.ld (some 7)) [.p (some (dO,0))] Nu fun v24 Mi=>za F (.st 7) [.p (some (x4,0)),v24] Mi fun _ Im =>
     zm (yz Env.nil Env.nil Im [.cell (.c (.p (some (x4,0)))) (some 7),.tmp (.c (.b true))]) Q Im):=by
   intro L0 Lb o' h4 Mf EO En hfr
   simp only[zf,yi,List.getElem?_cons_zero,List.getElem?_cons_succ,zg,zk,Nat.zero_add,yj]
   rw[zD (o'.old dO _ IQ.1 Mf) (by simp) En]
   simp only[zf,zk,Nat.zero_add,yj]
   rw[zD (ze _ _ _) (by simp) rfl,zA]
   have o9:=o'.bY IQ.1 Mf (.raw (.cells [.i .i64 i,.i .i64 w.kind,.i .i64 when,.i .i64 now,.i .i64 w.data,sl,.b (yF (some a) x now).2.2]))
   have zp2:x4≠dO:=Ne.symm (k10 n4.1 l44)
   refine fin L0 sl _ _ _ o9 (by rw[zb _ _ _ zp2];exact h4) (ze _ _ _) (fun r d hr hd=>⟨(EO r d hr hd).1,by rw[zb _ _ _ (EO r d hr hd).2.1];exact (EO r d hr hd).2.2⟩) (by have:=vM En;simpa using this) (by rw[HS]) hfr
  rcases FN with⟨f1,f2,f3,f4⟩ | ⟨b1,ex,f1,f2,f3,f4,f5⟩
  ·subst f4 f3
   refine tail (L.put a (.abs (YH a (yF (some a) x now).1))) _ o6 l4a MH RT rfl ?_
   rw[HS]
   exact .inl ⟨f1,f2,rfl,yJ _ ha.1 _ _⟩
  ·subst f5 f3
   simp only[Lg.fj]at f1
   have nb:=o6.ne f1
   have o7:=o6.bW f1 (.raw (.cells (yr (yF (some a) x now).2.1)))
   have nb4:x4≠b1:=by rintro rfl;rw[nb.2.1]at l4a;cases l4a
   have zk9:dO≠b1:=by rintro rfl;rw[nb.2.1]at MH;cases MH
   refine tail ((L.put a (.abs (YH a (yF (some a) x now).1))).put b1 (.raw (.cells (yr (yF (some a) x now).2.1)))) _ o7 (by rw[zb _ _ _ nb4];exact l4a) (by rw[zb _ _ _ zk9];exact MH) ?_ rfl ?_
   ·intro r d hr hd
    rw[Lg.ah]at hd ⊢
    by_cases h9:r=b1
    ·rw[if_pos h9]at hd ⊢;exact⟨by rw[h9];exact Ne.symm nb4,by rw[h9];exact Ne.symm zk9,hd⟩
    ·rw[if_neg h9]at hd ⊢;exact RT r d hr hd
   ·rw[HS]
    refine .inr ⟨b1,ex,?_,f2,rfl,f4,?_⟩
    ·simp only[Lg.fj]
     have:(L.put a (.abs (YH a (yF (some a) x now).1))) b1=none:=by
      cases h:(L.put a (.abs (YH a (yF (some a) x now).1))) b1 with
      | none=>rfl
      | some d=>have:=(RT b1 d nb.1 h).2.2;rw[nb.2.1]at this;cases this
     rw[←yJ _ ha.1,zb _ _ _ nb.1];exact this
    ·simp only[Lg.fj]
     rw[yJ _ nb.1,←yJ _ ha.1]
end
end
section
theorem zed {τ:bk}{k:Nat}{o:On}(h:τ.af[k]?=some o):τ.one (k:Int)=some o:=by
 have hk:k<τ.af.length:=(List.getElem?_eq_some_iff.1 h).1
 have hh:τ.has (k:Int)=true:=by unfold bk.has;simp;omega
 simp only[bk.one,hh,if_true,Int.toNat_natCast,h]
end
section
theorem zb9 {S:CX}{i:Nat}{o:One}{k:Int}(hi:S.σ.af[i]?=some o)(w:Nat):(S.aB i { o with timer:=k }).σ.af[w]?=(S.σ.af[w]?).map fun (x:One)=>if w=i then { x with timer:=k }else x:=by
 show (S.σ.af.set i _)[w]?=_
 have hl:i<S.σ.af.length:=(List.getElem?_eq_some_iff.1 hi).1
 by_cases e:i=w
 ·subst e;rw[List.getElem?_set_self hl,hi];simp
 ·rw[List.getElem?_set_ne e]
  cases S.σ.af[w]? with
  | none=>rfl
  | some x=>simp[Ne.symm e]
theorem WF.zoj {S:CX}(h:WF S){i:Nat}{o:One}{k:Int}{uY:bk}(hi:S.σ.af[i]?=some o)(hl:uY.x.l.length≤1000000)(ht:∀(q:Nat) (p:On),uY.af[q]?=some p→p.c=none):WF ({ S.aB i { o with timer:=k }with τ:=uY }:CX):=by
 have back:∀(w:Nat) (y:One),(S.aB i { o with timer:=k }).σ.af[w]?=some y→∃z,S.σ.af[w]?=some z∧y.node=z.node∧y.free=z.free∧y.err=z.err∧y.c=z.c:=by
  intro w y hy
  rw[zb9 hi]at hy
  cases e:S.σ.af[w]? with
  | none=>rw[e]at hy;cases hy
  | some z =>
   rw[e]at hy;simp at hy
   refine⟨z,rfl,?_⟩
   subst hy
   split<;>exact⟨rfl,rfl,rfl,rfl⟩
 have hlen:(S.aB i { o with timer:=k }).σ.af.length=S.σ.af.length:=by simp[CX.aB]
 refine⟨h.tr,⟨by show (S.aB i { o with timer:=k }).σ.af.length≤64;rw[hlen];exact h.sz.1,h.sz.2⟩,?_,?_,h.eJ,?_,?_,?_,?_,hl⟩
 ·show S.σ.tree.length=(S.aB i { o with timer:=k }).σ.af.length+S.σ.ai.length
  rw[hlen];exact h.len
 ·intro w y hy
  obtain⟨z,hz,e1,_⟩:=back w y hy
  rw[e1];exact h.bS w z hz
 ·intro q hq
  rcases h.cover q hq with⟨w,x,c1,c2,c3⟩ | hh
  ·refine .inl ⟨w,_,c1,by rw[zb9 hi,c2];rfl,?_⟩
   simp only;split<;>exact c3
  ·exact .inr hh
 ·intro w q y n hy hq hn
  obtain⟨z,hz,e1,e2,e3,_⟩:=back w y hy
  rw[e2,e3]
  exact h.live w q z n hz (by rw[←e1];exact hq) hn
 ·intro y hy a ha
  obtain⟨w,hw⟩:=List.mem_iff_getElem?.1 hy
  obtain⟨z,hz,_,_,_,e4⟩:=back w y hw
  exact h.bB z (List.mem_of_getElem? hz) a (by rw[←e4];exact ha)
 ·intro y hy s p hs hp
  unfold bk.one at hp
  split at hp
  ·exact ht _ p hp
  ·cases hp
end
section
variable {F:Nat→Option aT}
section
variable {L K:Lg} {c:Nat} {x:Ch} {bv sv rv:AV}
theorem zai (hf:F8 F){v:AV}{l:List Wk}(hv:cI Wk.cells 5 K v l)(hl:l.length≤1000000)(task:Int):zd F gP [v,.i .i64 task] K fun r K'=>r=.b (l.any fun y=>decide (y.t=task))∧K'=K:=by
 refine zr ?_
 intro Q hQ
 apply QE hf.code
 unfold rW rU rT
 obtain⟨I,hI⟩:∃I:Nat→Env→Lg→Prop,I=fun m E K'=>∃i:Nat,m+i=l.length∧E 0=v∧E 1=.i .i64 task∧E 5=.i .i64 i∧K'=K∧(l.any fun y=>decide (y.t=task))=((l.drop i).any fun y=>decide (y.t=task)):=⟨_,rfl⟩
 refine zN I l.length ?_ ?_
 ·rw[hI];exact⟨0,by omega,by simp[zI],by simp[zI],by simp,rfl,rfl⟩
 intro m E t K' hi
 rw[hI]at hi
 obtain⟨i,hm,e0,e1,e5,rfl,kf⟩:=hi
 have hlen:=fun X k=>hv.len (F:=F) X k
 unfold rS
 rw[e0,e1,e5]
 simp only[zf,hlen,yP,zM]
 refine⟨fun hlt=>?_,fun Bu=>?_⟩
 rotate_left
 ·unfold rV
  exact⟨K',zx.refl _,hQ _ _ ⟨by rw[kf,List.drop_eq_nil_iff.2 (by omega)];rfl,rfl⟩⟩
 have bK:i<l.length:=by omega
 have hx:l[i]?=some l[i]:=List.getElem?_eq_getElem bK
 have Ma:l.drop i=l[i]::l.drop (i+1):=List.drop_eq_getElem_cons bK
 generalize l[i]=x at hx Ma
 have w1:wr .i64 ((i:Int)+1)=((i+1:Nat):Int):=by rw[zT (by omega) (by omega)];omega
 obtain⟨b,q,q1,q2,_⟩:=hv.get (F:=F) hx
 have ra:aq K' (b,q) none=some (.i .i64 x.t):=(q2 K' (zQ.refl _)).1 0 (by omega)
 rw[Ma]at kf
 simp only[zf,zk,Nat.add_zero,zt,ra,zg,q1,xw,zM]
 refine⟨fun heq=>?_,fun hne=>?_⟩
 ·exact⟨K',zx.refl _,hQ _ _ ⟨by rw[kf];simp[heq],rfl⟩⟩
 ·simp only[zf,y6,w1]
  rw[hI]
  exact⟨m-1,by omega,i+1,by omega,by simp[e0],by simp[e1],by simp,rfl,by rw[kf];simp[hne]⟩
theorem zc4 (p:Bool)(acc:List Wk)(w:Wt):(yv p acc w).length≤acc.length+1:=by unfold yv;split<;>simp
theorem Yv (p:Bool):∀(l:List Wt) (acc:List Wk),(l.foldl (yv p) acc).length≤acc.length+l.length
 | [],acc=>by simp
 | w::r,acc=>by have:=Yv p r (yv p acc w);have:=zc4 p acc w;simp only[List.foldl_cons,List.length_cons];omega
theorem UX (p:Bool){l:List Wt}{i:Nat}{w:Wt}(h:l[i]?=some w)(acc:List Wk):(l.take (i+1)).foldl (yv p) acc=yv p ((l.take i).foldl (yv p) acc) w:=by
 have hi:=(List.getElem?_eq_some_iff.1 h)
 rw[List.take_add_one,h]
 simp[List.foldl_append]
theorem zft (hf:F7 F)(o:aE L c x bv sv rv K)(hl:x.recvs.length+x.aF.length≤1000000):zd F jG [.p (some (c,0))] K fun v K' =>
  ∃K1,cJ K v (zl Wk.cells x.bG) x.bG.length 5 K1∧aE L c x.ended bv (.sl none 0 0 0) (.sl none 0 0 0) K'∧(∀r,r≠c→K' r=K1 r):=by
 refine zr ?_
 intro Q hQ
 apply QD hf.code
 generalize hE:zI [AV.p (some (c,0))] 0=E
 have e0:E 0=.p (some (c,0)):=by rw[←hE];simp[zI]
 clear hE
 unfold rR rQ me mc
 -- zj3 Mo wait to znW
 obtain⟨I,hI⟩:∃I:Nat→Env→Lg→Prop,I=fun m E K'=>∃i:Nat,m+i=x.recvs.length∧E 0=.p (some (c,0))∧E 4=.i .i64 i∧cJ K (E 3) (zl Wk.cells ((x.recvs.take i).foldl (yv false) [])) ((x.recvs.take i).foldl (yv false) []).length 5 K':=⟨_,rfl⟩
 refine zN I x.recvs.length ?_ ?_
 ·rw[hI];exact⟨0,by omega,by simp[e0],by simp,by simpa[zl]using cJ.nil K 5⟩
 intro m E t K' hi
 rw[hI]at hi
 obtain⟨i,hm,e0,e4,li⟩:=hi
 have o':=o.sub li.s
 have hlen:=fun X k=>o'.sR.len (F:=F) X k
 unfold l9
 rw[e0,e4]
 simp only[zf,zh,zk,Nat.zero_add,zt,o'.r6,zg,hlen,yP,zM]
 refine⟨fun hlt=>?_,fun Bu=>?_⟩
 ·have bK:i<x.recvs.length:=by omega
  have hx:x.recvs[i]?=some x.recvs[i]:=List.getElem?_eq_getElem bK
  generalize x.recvs[i]=w at hx
  have Me:=Yv false (x.recvs.take i) []
  have hrl:=o.len.1
  rw[List.length_take]at Me
  simp only[List.length_nil,Nat.zero_add]at Me
  have hstep:=UX false hx []
  generalize hacc:(x.recvs.take i).foldl (yv false) []=acc at li Me hstep
  have w1:wr .i64 ((i:Int)+1)=((i+1:Nat):Int):=by rw[zT (by omega) (by omega)];omega
  obtain⟨b,q,q1,q2,_⟩:=o'.sR.get (F:=F) hx
  have ra:aq K' (b,q) none=some (.i .i64 w.t):=(q2 K' (zQ.refl _)).1 0 (by omega)
  have rb:aq K' (b,q+1) none=some (.i .i64 w.c):=(q2 K' (zQ.refl _)).1 1 (by omega)
  unfold lZ
  rw[e0,e4]
  simp only[zf,zh,zk,Nat.zero_add,Nat.add_zero,zt,o'.r6,zg,q1,ra]
  refine (zai hf.zne (dj.El vQ li.o) (by omega) w.t).mono ?_
  rintro _ K2 ⟨rfl,gE⟩
  rw[gE]
  cases Ji:(acc.any fun y=>decide (y.t=w.t))with
  | true =>
   have hw:yv false acc w=acc:=by unfold yv;rw[if_pos Ji]
   simp only[zf,yf,Bool.not_true,zC,y6,w1]
   rw[hI]
   refine⟨m-1,by omega,i+1,by omega,by simp[e0],by simp,?_⟩
   rw[hstep,hw]
   simpa using li
  | false =>
   have hw:yv false acc w=acc++[⟨w.t,w.c,0,false,false⟩]:=by unfold yv;rw[if_neg (by rw[Ji];simp)]
   simp only[zf,yf,Bool.not_false,z9,zh,zk,Nat.zero_add,Nat.add_zero,zt,o'.r6,zg,q1,ra,rb]
   have hb:∀k:AV→Lg→Prop,za F (.build [.i .i64 0,.i .i64 0,.i .i64 0,.b false,.b false] [(0,1),(1,1)]) [.i .i64 w.t,.i .i64 w.c] K' k=k (.agg (Wk.cells ⟨w.t,w.c,0,false,false⟩)) K':=by
    intro k;simp[zF,zo,zp,zq,Wk.cells]
   rw[hb]
   refine zak rfl (vQ _) (UE _) ?_
   intro LP K3 o22 s3 f22
   have s22:cI Wk.cells 5 K3 LP [⟨w.t,w.c,0,false,false⟩]:=cI.bD (f:=Wk.cells) vQ (by simpa[zl]using o22)
   refine (li.mono s3).app vQ UE (by omega) s22 (by simp;omega) ?_
   intro v23 K4 l4
   simp only[zf,y6,w1]
   rw[hI]
   refine⟨m-1,by omega,i+1,by omega,by simp[e0],by simp,?_⟩
   rw[hstep,hw,zU]
   simpa using l4
 -- zj3 Mo wait to send
 have MZ:i=x.recvs.length:=by omega
 subst MZ
 rw[List.take_length]at li
 clear hI I hm e4 t
 unfold rO rN
 obtain⟨F3,ha0⟩:∃F3,F3=x.recvs.foldl (yv false) []:=⟨_,rfl⟩
 have zlV:=Yv false x.recvs []
 rw[←ha0]at li zlV
 obtain⟨I,hI⟩:∃I:Nat→Env→Lg→Prop,I=fun m E K'=>∃i:Nat,m+i=x.aF.length∧E 0=.p (some (c,0))∧E 5=.i .i64 i∧cJ K (E 3) (zl Wk.cells ((x.aF.take i).foldl (yv true) F3)) ((x.aF.take i).foldl (yv true) F3).length 5 K':=⟨_,rfl⟩
 refine zN I x.aF.length ?_ ?_
 ·rw[hI];exact⟨0,by omega,by simp[e0],by simp,by simpa[zl]using li⟩
 intro m E t K' hi
 rw[hI]at hi
 obtain⟨i,hm,e0,e5,li⟩:=hi
 have o':=o.sub li.s
 have hlen:=fun X k=>o'.sS.len (F:=F) X k
 unfold rM
 rw[e0,e5]
 simp only[zf,zh,zk,Nat.zero_add,zt,o'.r5,zg,hlen,yP,zM]
 refine⟨fun hlt=>?_,fun Bu=>?_⟩
 ·have bK:i<x.aF.length:=by omega
  have hx:x.aF[i]?=some x.aF[i]:=List.getElem?_eq_getElem bK
  generalize x.aF[i]=w at hx
  have Me:=Yv true (x.aF.take i) F3
  have hrl:=o.len.2.1
  rw[List.length_take]at Me
  simp only[List.length_nil,Nat.zero_add]at zlV
  have hstep:=UX true hx F3
  generalize hacc:(x.aF.take i).foldl (yv true) F3=acc at li Me hstep
  have w1:wr .i64 ((i:Int)+1)=((i+1:Nat):Int):=by rw[zT (by omega) (by omega)];omega
  obtain⟨b,q,q1,q2,_⟩:=o'.sS.get (F:=F) hx
  have ra:aq K' (b,q) none=some (.i .i64 w.t):=(q2 K' (zQ.refl _)).1 0 (by omega)
  have rb:aq K' (b,q+1) none=some (.i .i64 w.c):=(q2 K' (zQ.refl _)).1 1 (by omega)
  unfold mg
  rw[e0,e5]
  simp only[zf,zh,zk,Nat.zero_add,Nat.add_zero,zt,o'.r5,zg,q1,ra]
  refine (zai hf.zne (dj.El vQ li.o) (by omega) w.t).mono ?_
  rintro _ K2 ⟨rfl,gE⟩
  rw[gE]
  cases Ji:(acc.any fun y=>decide (y.t=w.t))with
  | true =>
   have hw:yv true acc w=acc:=by unfold yv;rw[if_pos Ji]
   simp only[zf,yf,Bool.not_true,zC,y6,w1]
   rw[hI]
   refine⟨m-1,by omega,i+1,by omega,by simp[e0],by simp,?_⟩
   rw[hstep,hw]
   simpa using li
  | false =>
   have hw:yv true acc w=acc++[⟨w.t,w.c,0,false,true⟩]:=by unfold yv;rw[if_neg (by rw[Ji];simp)]
   simp only[zf,yf,Bool.not_false,z9,zh,zk,Nat.zero_add,Nat.add_zero,zt,o'.r5,zg,q1,ra,rb]
   have hb:∀k:AV→Lg→Prop,za F (.build [.i .i64 0,.i .i64 0,.i .i64 0,.b false,.b false] [(0,1),(1,1),(4,1)]) [.i .i64 w.t,.i .i64 w.c,.b true] K' k=k (.agg (Wk.cells ⟨w.t,w.c,0,false,true⟩)) K':=by
    intro k;simp[zF,zo,zp,zq,Wk.cells]
   rw[hb]
   refine zak rfl (vQ _) (UE _) ?_
   intro LP K3 o22 s3 f22
   have s22:cI Wk.cells 5 K3 LP [⟨w.t,w.c,0,false,true⟩]:=cI.bD (f:=Wk.cells) vQ (by simpa[zl]using o22)
   refine (li.mono s3).app vQ UE (by omega) s22 (by simp;omega) ?_
   intro v23 K4 l4
   simp only[zf,y6,w1]
   rw[hI]
   refine⟨m-1,by omega,i+1,by omega,by simp[e0],by simp,?_⟩
   rw[hstep,hw,zU]
   simpa using l4
 have MZ:i=x.aF.length:=by omega
 subst MZ
 rw[List.take_length]at li
 unfold rP
 simp only[zf,zh,zk,Nat.zero_add,yj]
 have o1:=o'.newR (l:=[]) (cJ.nil K' 3) (by simp)
 refine o'.st (zQ.refl _) (by omega) rfl ?_
 have e1:(oY x bv sv rv).set 6 (.sl none 0 0 0)=oY { x with recvs:=[] } bv sv (.sl none 0 0 0):=rfl
 rw[e1]
 have o1':aE L c { x with recvs:=[] } bv sv (.sl none 0 0 0) (K'.put c (.raw (.cells (oY { x with recvs:=[] } bv sv (.sl none 0 0 0))))):=o1
 have o2:=o1'.zoI (l:=[]) (cJ.nil _ 3) (by simp)
 simp only[zf,zh,zk,Nat.zero_add,yj]
 refine o1'.st (zQ.refl _) (by omega) rfl ?_
 have e2:(oY { x with recvs:=[] } bv sv (.sl none 0 0 0)).set 5 (.sl none 0 0 0)=oY { x with recvs:=[],aF:=[] } bv (.sl none 0 0 0) (.sl none 0 0 0):=rfl
 rw[e2]
 have RP:aE L c { x with recvs:=[],aF:=[] } bv (.sl none 0 0 0) (.sl none 0 0 0) ((K'.put c (.raw (.cells (oY { x with recvs:=[] } bv sv (.sl none 0 0 0))))).put c (.raw (.cells (oY { x with recvs:=[],aF:=[] } bv (.sl none 0 0 0) (.sl none 0 0 0))))):=o2
 have o3:=RP.closed
 simp only[zf,zh,zk,Nat.zero_add,yj]
 refine RP.st (zQ.refl _) (by omega) rfl ?_
 have e3:(oY { x with recvs:=[],aF:=[] } bv (.sl none 0 0 0) (.sl none 0 0 0)).set 3 (.b true)=oY x.ended bv (.sl none 0 0 0) (.sl none 0 0 0):=rfl
 rw[e3]
 refine⟨_,zx.refl _,hQ _ _ ⟨K',?_,o3,fun r hr=>by rw[zb _ _ _ hr,zb _ _ _ hr,zb _ _ _ hr]⟩⟩
 rw[ha0]at li
 exact li
theorem zbD (hf:pz F)(e:L c=some (.abs (YH c x)))(hlen:x.recvs.length+x.aF.length≤1000000):zd F fl [.p (some (c,0))] L fun v L'=>cJ (L.put c (.abs (YH c x.cB.1))) v (zl Wk.cells x.cB.2) x.cB.2.length 5 L':=by
 refine zr ?_
 intro Q hQ
 apply vo e
 intro bv sv rv K o
 apply IK hf.code
 unfold jg
 have r2:=o.r2
 have r3:=o.r3
 cases hs:x.signal with
 | false =>
  rw[hs]at r2
  simp only[zf,wR,zw,yo,zh,zk,Nat.zero_add,zt,r2,zg,yf,Bool.not_false,zW,YR,xD,zV,z9]
  refine⟨_,o.shut,hQ _ _ ?_⟩
  simp only[Ch.cB,hs]
  exact cJ.nil _ 5
 | true =>
  rw[hs]at r2
  cases hc:x.closed with
  | true =>
   rw[hc]at r3
   simp only[zf,wR,zw,yo,zh,zk,Nat.zero_add,zt,r2,r3,zg,yf,Bool.not_true,zW,z9]
   refine⟨_,o.shut,hQ _ _ ?_⟩
   simp only[Ch.cB,hs,hc]
   exact cJ.nil _ 5
  | false =>
   rw[hc]at r3
   simp only[zf,wR,zw,yo,zh,zk,Nat.zero_add,zt,r2,r3,zg,yf,Bool.not_true,zW,zC]
   refine (zft hf.zqj o hlen).mono ?_
   rintro v K' ⟨K1,li,o',hk⟩
   have he:x.cB=(x.ended,x.bG):=by simp[Ch.cB,hs,hc]
   have fr:∀b,au v=some b→b≠c∧L b=none∧au bv≠some b:=fun b hb=>⟨(o.ne (li.f b hb)).1,(o.ne (li.f b hb)).2.1,(o.ne (li.f b hb)).2.2.1⟩
   -- Bh znR block zoO beside
   cases En:au v with
   | none =>
    refine⟨_,o'.shut,hQ _ _ ?_⟩
    rw[he]
    refine⟨li.o.mono (fun b hb=>by rw[En]at hb;cases hb),zQ.refl _,(fun b hb=>by rw[En]at hb;cases hb)⟩
   | some b =>
    obtain⟨n1,n2,n3⟩:=fr b En
    have bP:=li.o.block En
    have hbK:K' b=some (.raw (.cells (zl Wk.cells x.bG))):=by rw[hk b n1];exact bP
    have o2:aE (L.put b (.raw (.cells (zl Wk.cells x.bG)))) c x.ended bv (.sl none 0 0 0) (.sl none 0 0 0) K':=by
     refine⟨o'.root,o'.bs,o'.ss,o'.rs,fun q hq=>⟨(o'.a1 q hq).1,?_⟩,(fun q hq=>by cases hq),(fun q hq=>by cases hq),fun r d hr hd=>?_,o'.len⟩
     ·rw[zb _ _ _ (by rintro rfl;exact n3 hq)];exact (o'.a1 q hq).2
     ·rw[Lg.ah]at hd
      split at hd
      ·rename_i h9;rw[h9,hbK];exact hd
      ·exact o'.old r d hr hd
    refine⟨_,o2.shut,hQ _ _ ?_⟩
    rw[he]
    refine⟨li.o.mono fun q hq=>?_,fun r d hd=>?_,fun q hq=>?_⟩
    ·rw[En]at hq;cases hq
     rw[zb _ _ _ n1,ze,bP]
    ·by_cases h9:r=c
     ·subst h9;rw[ze]at hd ⊢;exact hd
     ·rw[zb _ _ _ h9]at hd ⊢
      rw[zb _ _ _ (by rintro rfl;rw[n2]at hd;cases hd)];exact hd
    ·rw[En]at hq;cases hq
     rw[zb _ _ _ n1];exact n2
theorem W2 (hf:pz F)(L:Lg):zd F fl [.p none] L fun v L'=>v=.sl none 0 0 0∧L'=L:=by
 refine zr ?_
 intro Q hQ
 apply IK hf.code
 unfold jg
 simp only[zf,Yc,Bool.not_false,YR,xD,zV,z9]
 exact⟨L,zx.refl _,hQ _ _ ⟨rfl,rfl⟩⟩
end
end
section
variable {F:Nat→Option aT}
structure Ai where
 v:AV
 cs:List AV
 n:Nat
 z:Nat
structure GO (L:Lg)(r:Nat)(cs:List AV)(sl:List Ai)(K:Lg):Prop where
 root:K r=some (.raw (.cells cs))
 own:∀(i:Nat) (p:Ai),sl[i]?=some p→bu K p.v p.cs p.n p.z
 ap:∀(i:Nat) (p:Ai),sl[i]?=some p→∀b,au p.v=some b→b≠r∧L b=none
 nd:∀(i j:Nat) (p q:Ai),i≠j→sl[i]?=some p→sl[j]?=some q→∀b,au p.v=some b→au q.v≠some b
 old:∀q d,q≠r→L q=some d→K q=some d
section
variable {L K:Lg} {r:Nat} {cs:List AV} {sl:List Ai}
theorem GO.ne (o:GO L r cs sl K){b:Nat}(hb:K b=none):b≠r∧L b=none∧∀(i:Nat) (p:Ai),sl[i]?=some p→au p.v≠some b:=by
 have h1:b≠r:=by rintro rfl;have:=o.root;rw[hb]at this;cases this
 refine⟨h1,?_,fun i p hp h=>?_⟩
 ·cases h:L b with
  | none=>rfl
  | some d=>rw[o.old b d h1 h]at hb;cases hb
 ·have:=(o.own i p hp).block h;rw[hb]at this;cases this
theorem GO.sub (o:GO L r cs sl K){K':Lg}(h:zQ K K'):GO L r cs sl K' :=
 ⟨h _ _ o.root,fun i p hp=>(o.own i p hp).sub fun b d _ hd=>h b d hd,o.ap,o.nd,fun q d hq hd=>h q d (o.old q d hq hd)⟩
theorem GO.keep (o:GO L r cs sl K){K':Lg}{e:Option Nat}(h:vX e K K')(h1:e≠some r)(h2:∀(i:Nat) (p:Ai),sl[i]?=some p→∀b,e=some b→au p.v≠some b)(h3:∀b,e=some b→L b=none):GO L r cs sl K' :=
 ⟨h _ _ o.root h1,fun i p hp=>(o.own i p hp).sub fun b d hb hd=>h b d hd (fun h9=>h2 i p hp b h9 hb),o.ap,o.nd,fun q d hq hd=>h q d (o.old q d hq hd) (fun h9=>by have:=h3 q h9;rw[hd]at this;cases this)⟩
theorem GO.bW (o:GO L r cs sl K){b:Nat}(hb:K b=none)(d:LC):GO (L.put b d) r cs sl (K.put b d):=by
 obtain⟨n1,n2,n3⟩:=o.ne hb
 have o':=o.sub ((zQ.refl K).put hb d)
 refine⟨o'.root,o'.own,fun i p hp q hq=>?_,o.nd,fun q e hq he=>?_⟩
 ·rw[zb _ _ _ (by rintro rfl;exact n3 i p hp hq)];exact o.ap i p hp q hq
 ·rw[Lg.ah]at he ⊢
  split
  ·rename_i h9;rw[if_pos h9]at he;exact he
  ·rename_i h9;rw[if_neg h9]at he;exact o.old q e hq he
theorem GO.below (o:GO L r cs sl K){L0:Lg}(h:∀q d,q≠r→L0 q=some d→L q=some d):GO L0 r cs sl K:=by
 refine⟨o.root,o.own,fun i p hp b hb=>⟨(o.ap i p hp b hb).1,?_⟩,o.nd,fun q d hq hd=>o.old q d hq (h q d hq hd)⟩
 obtain⟨h1,h2⟩:=o.ap i p hp b hb
 cases h3:L0 b with
 | none=>rfl
 | some d=>rw[h b d h1 h3]at h2;cases h2
theorem GO.bY (o:GO L r cs sl K){b:Nat}(h1:b≠r){d0:LC}(h2:L b=some d0)(d:LC):GO (L.put b d) r cs sl (K.put b d):=by
 have ne:∀(i:Nat) (p:Ai),sl[i]?=some p→∀q,au p.v=some q→q≠b:=fun i p hp q hq=>by rintro rfl;have:=(o.ap i p hp q hq).2;rw[h2]at this;cases this
 refine⟨by rw[zb _ _ _ (Ne.symm h1)];exact o.root,fun i p hp=>(o.own i p hp).mono fun q hq=>zb _ _ _ (ne i p hp q hq),fun i p hp q hq=>by rw[zb _ _ _ (ne i p hp q hq)];exact o.ap i p hp q hq,o.nd,fun q e hq he=>?_⟩
 rw[Lg.ah]at he ⊢
 split
 ·rename_i h9;rw[if_pos h9]at he;exact he
 ·rename_i h9;rw[if_neg h9]at he;exact o.old q e hq he
theorem wd {α:Type}{l:List α}{i j:Nat}{x y:α}(h:(l.set i x)[j]?=some y):(i=j∧y=x∧i<l.length)∨(i≠j∧l[j]?=some y):=by
 by_cases hij:i=j
 ·subst hij
  have hl:=(List.getElem?_eq_some_iff.1 h).1
  simp at hl
  rw[List.getElem?_set_self hl]at h
  cases h
  exact .inl ⟨rfl,rfl,hl⟩
 ·rw[List.getElem?_set_ne hij]at h;exact .inr ⟨hij,h⟩
theorem GO.GJ (o:GO L r cs sl K){i:Nat}{p:Ai}(hp:sl[i]?=some p){b:Nat}(hb:au p.v=some b){cs':List AV}(hl:cs'.length=p.cs.length):GO L r cs (sl.set i { p with cs:=cs' }) (K.put b (.raw (.cells cs'))):=by
 obtain⟨n1,n2⟩:=o.ap i p hp b hb
 refine⟨by rw[zb _ _ _ (Ne.symm n1)];exact o.root,fun j q hq=>?_,fun j q hq=>?_,fun j k q w j8 hq hw=>?_,fun q e hq he=>by rw[zb _ _ _ (by rintro rfl;rw[n2]at he;cases he)];exact o.old q e hq he⟩
 ·rcases wd hq with⟨rfl,rfl,_⟩ | ⟨hij,hq⟩
  ·have:=o.own i p hp
   rcases this with⟨h1,h2,h3⟩ | ⟨b',ex,h1,h2,h3,h4,h5⟩
   ·rw[h3]at hb;cases hb
   ·rw[h2]at hb;simp[au]at hb;subst hb
    exact .inr ⟨b',ex,h1,h2,h3,ze _ _ _,by rw[hl];exact h5⟩
  ·exact (o.own j q hq).mono fun w hw=>zb _ _ _ (by rintro rfl;exact o.nd i j p q hij hp hq w hb hw)
 ·rcases wd hq with⟨rfl,rfl,_⟩ | ⟨hij,hq⟩
  ·exact o.ap i p hp
  ·exact o.ap j q hq
 ·rcases wd hq with⟨rfl,rfl,_⟩ | ⟨hij,hq⟩<;>rcases wd hw with⟨rfl,rfl,_⟩ | ⟨hik,hw⟩
  ·exact absurd rfl j8
  ·exact o.nd i k p w j8 hp hw
  ·exact o.nd j i q p j8 hq hp
  ·exact o.nd j k q w j8 hq hw
theorem GO.grow (o:GO L r cs sl K){i:Nat}{p q:Ai}(hp:sl[i]?=some p){K1:Lg}(h1:bu K1 q.v q.cs q.n q.z)(h2:vX (au p.v) K K1)(h3:∀b,au q.v=some b→K b=none∨au p.v=some b)(cs':List AV) :
  GO L r cs' (sl.set i q) (K1.put r (.raw (.cells cs'))):=by
 have fr:∀b,au q.v=some b→b≠r∧L b=none∧∀(j:Nat) (w:Ai),i≠j→sl[j]?=some w→au w.v≠some b:=fun b hb=>by
  rcases h3 b hb with h | h
  ·have:=o.ne h;exact⟨this.1,this.2.1,fun j w _ hw=>this.2.2 j w hw⟩
  ·exact⟨(o.ap i p hp b h).1,(o.ap i p hp b h).2,fun j w hj hw=>o.nd i j p w hj hp hw b h⟩
 have kp:∀{b:Nat} {d:LC},b≠r→au p.v≠some b→K b=some d→(K1.put r (.raw (.cells cs'))) b=some d:=fun {b d} g1 g2 g3=>by rw[zb _ _ _ g1];exact h2 b d g3 g2
 refine⟨ze _ _ _,fun j w hw=>?_,fun j w hw=>?_,fun j k a w j8 ha hw=>?_,fun b d hb hd=>kp hb (fun h9=>by have:=(o.ap i p hp b h9).2;rw[hd]at this;cases this) (o.old b d hb hd)⟩
 ·rcases wd hw with⟨rfl,rfl,_⟩ | ⟨hij,hw⟩
  ·exact h1.mono fun b hb=>zb _ _ _ (fr b hb).1
  ·exact (o.own j w hw).sub fun b d hb hd=>kp (o.ap j w hw b hb).1 (fun h9=>o.nd i j p w hij hp hw b h9 hb) hd
 ·rcases wd hw with⟨rfl,rfl,_⟩ | ⟨hij,hw⟩
  ·exact fun b hb=>⟨(fr b hb).1,(fr b hb).2.1⟩
  ·exact o.ap j w hw
 ·rcases wd ha with⟨rfl,rfl,_⟩ | ⟨hij,gx⟩<;>rcases wd hw with⟨rfl,rfl,_⟩ | ⟨hik,Ig⟩
  ·exact absurd rfl j8
  ·exact fun b hb=>(fr b hb).2.2 k w hik Ig
  ·exact fun b hb h9=>(fr b h9).2.2 j a hij gx hb
  ·exact o.nd j k a w j8 gx Ig
theorem GO.rd (o:GO L r cs sl K)(i:Nat):aq K (r,i) none=cs[i]?:=zj o.root
def GP (r:Nat)(P:List AV→List Ai→Prop)(h:Hp):Prop:=∃cs sl M,P cs sl∧GO Lg.nil r cs sl M∧Sat M h
theorem GO.shut {P:List AV→List Ai→Prop}(o:GO L r cs sl K)(hP:P cs sl):zx K (L.put r (.abs (GP r P))):=by
 refine yZ (fun b=>b=r∨∃(i:Nat) (p:Ai),sl[i]?=some p∧au p.v=some b) (.inl rfl) ?_ ?_ (.inl ⟨_,o.root⟩) ?_
 ·intro b d hb hd
  exact o.old b d (fun h9=>hb (.inl h9)) hd
 ·rintro b (rfl | ⟨i,p,hp,h⟩) hb
  ·exact absurd rfl hb
  ·exact (o.ap i p hp b h).2
 ·intro M hp hM hN hs
  refine⟨cs,sl,M,hP,⟨?_,fun i p hp=>(o.own i p hp).mono fun b hb=>hM b (.inr ⟨i,p,hp,hb⟩),fun i p hp b hb=>⟨(o.ap i p hp b hb).1,rfl⟩,o.nd,fun q d _ hd=>by simp[Lg.nil]at hd⟩,hs⟩
  rw[hM r (.inl rfl)];exact o.root
theorem GO.ak {M:Lg}(o:GO Lg.nil r cs sl M)(hf:∀b c,M b=some c→b≠r→L b=none):GO L r cs sl (M.ak L):=by
 have hi:∀b d,M b=some d→(M.ak L) b=some d:=fun b d h=>by simp[Lg.ak,h]
 refine⟨hi _ _ o.root,fun i p hp=>(o.own i p hp).sub fun b d _ hd=>hi b d hd,fun i p hp b hb=>⟨(o.ap i p hp b hb).1,hf b _ ((o.own i p hp).block hb) (o.ap i p hp b hb).1⟩,o.nd,fun q d hq hd=>?_⟩
 have:M q=none:=by
  cases h:M q with
  | none=>rfl
  | some e=>have:=hf q e h hq;rw[hd]at this;cases this
 simp[Lg.ak,this,hd]
theorem zbR {f:Nat}{vs:List AV}{Q:AV→Lg→Prop}{P:List AV→List Ai→Prop}(e:L r=some (.abs (GP r P)))(H:∀cs sl K,P cs sl→GO L r cs sl K→zd F f vs K Q):zd F f vs L Q:=by
 apply y3 e
 rintro hm ⟨cs,sl,M,hP,o,hs⟩
 exact⟨M,hs,by rw[o.root];simp,fun hf=>H cs sl (M.ak L) hP (o.ak hf)⟩
end
end
end Go.AM
