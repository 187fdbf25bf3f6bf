/- The texts LibLapseA, LibScriptA, LibScriptB, LibScriptC, LibScriptD, LibLapseD, LibScriptE, LibScriptF, LibRefB, LibRefC, LibRefD, LibRefE, LibRefG, LibRefH, LibRefI, LibRefJ, LibCtxQ, LibCtxR, LibRefK, LibGO, LibRefL, LibRefM, LibRefN of a proof of CtxActs, merged. -/
import Derived.Test.YtmecehkjocjkiaaGreatCtxActsG5
set_option linter.unusedVariables false
set_option linter.unusedSimpArgs false
namespace Go.AM
section
variable {F:Nat→Option AFn}
def yd (K K':Lg):Prop:=∀r d,K r=some d→K' r=some d
theorem yd.refl (K:Lg):yd K K:=fun _ _ h=>h
theorem yd.trans {A B C:Lg}(h:yd A B)(k:yd B C):yd A C:=fun r d e=>k r d (h r d e)
theorem yd.put {K K':Lg}(h:yd K K'){b:Nat}(hb:K' b=none)(x:LC):yd K (K'.put b x):=fun r d e=>by
 have:=h r d e
 rw[zb];exact this
 rintro rfl;rw[hb]at this;cases this
theorem yd.sees {K K':Lg}(h:yd K K'):zu K' K:=zu.drop h
structure View where
 par:Int
 link:Bool
 err:Int
 cause:Int
 dl:Int
 has:Bool
instance:Inhabited View:=⟨⟨0,false,0,0,0,false⟩⟩
theorem Xr {cs:List AV}{o n:Nat}{f:List AV}(h:(cs.drop o).take n=f){j:Nat}(hj:j<n):cs[o+j]?=f[j]?:=by
 rw[←h,List.getElem?_take_of_lt hj,List.getElem?_drop]
end
section
variable {F:Nat→Option AFn}
def SlG {α:Type}(f:α→List AV)(z:Nat)(K:Lg)(v:AV)(l:List α):Prop:=∃a cap ex,v=.sl a l.length cap ex∧l.length≤cap∧(ex=0∨ex=z)∧((l=[]∧a=none)∨∃b off cs,a=some (b,off)∧(K b=some (.raw (.cells cs))∨K b=some (.raw (.ro cs)))∧off+l.length * z≤cs.length∧∀(i:Nat) (x:α),l[i]?=some x→(cs.drop (off+i * z)).take z=f x)
section
variable {α:Type} {f:α→List AV} {z:Nat}
theorem SlG.len {K:Lg}{v:AV}{l:List α}(h:SlG f z K v l)(X:Lg)(k:AV→Lg→Prop):za F .lenSl [v] X k=k (.i .i64 l.length) X:=by
 obtain⟨a,cap,ex,rfl,_⟩:=h
 simp
theorem zgF {i n z off m:Nat}(hi:i<n)(h:off+n * z≤m):off+i * z+z≤m:=by
 have:i * z+z≤n * z:=by rw[←Nat.succ_mul];exact Nat.mul_le_mul_right _ hi
 omega
theorem SlG.get {K:Lg}{v:AV}{l:List α}(h:SlG f z K v l){i:Nat}{x:α}(hi:l[i]?=some x):∃b o,(∀(X:Lg) (k:AV→Lg→Prop),za F (.iad z) [v,.i .i64 i] X k=k (.p (some (b,o))) X) ∧
  (∀X:Lg,yd K X→(∀j,j<z→rdL X (b,o+j) none=(f x)[j]?)∧rdL X (b,o) (some z)=some (.agg (f x)))∧K b≠none:=by
 obtain⟨a,cap,ex,rfl,hc,he,⟨h1,_⟩ | ⟨b,off,cs,rfl,h2,h6,h3⟩⟩:=h
 ·subst h1;simp at hi
 ·have hl:=(List.getElem?_eq_some_iff.1 hi).1
  have h4:=zgF hl h6
  have h5:=h3 i x hi
  refine⟨b,off+i * z,fun X k=>?_,fun X hX=>?_,?_⟩
  ·rw[yF F X k z b off l.length cap ex .i64 i (by omega) (by omega)]
   simp
  ·rcases h2 with h2 | h2
   ·refine⟨fun j hj=>?_,?_⟩
    ·rw[zk (hX _ _ h2),Xr h5 hj]
    ·rw[yj (hX _ _ h2) h4,h5]
   ·refine⟨fun j hj=>?_,?_⟩
    ·rw[zgJ (hX _ _ h2),Xr h5 hj]
    ·rw[zaT (hX _ _ h2) h4,h5]
  ·rcases h2 with h2 | h2<;>rw[h2]<;>simp
theorem yy {K:Lg}{v:AV}{l:List α}(hf:∀x,(f x).length=z)(h:OSl K v (zm f l) l.length z):SlG f z K v l:=by
 rcases h with⟨h2,h1,rfl⟩ | ⟨b,ex,h1,rfl,he,h2,h3⟩
 ·exact⟨none,0,0,by rw[h2],by omega,.inl rfl,.inl ⟨List.length_eq_zero_iff.1 h2,rfl⟩⟩
 ·refine⟨some (b,0),l.length,ex,rfl,Nat.le_refl _,he,.inr ⟨b,0,zm f l,rfl,.inl h2,by omega,fun i x hi=>?_⟩⟩
  have:=wa (f:=f) (k:=z) hf l i x hi
  simpa using this.1
theorem SlG.from {K:Lg}{v:AV}{l:List α}(h:SlG f z K v l){k:Nat}(hk:k≤l.length):∃v',zaP z true false false [v,.i .i64 k]=some v'∧SlG f z K v' (l.drop k):=by
 obtain⟨a,cap,ex,rfl,hc,he,h1⟩:=h
 have hex:(Nat.beq ex 0||Nat.beq ex z)=true:=by
  rcases he with rfl | rfl
  ·simp[zp]
  ·simp[zp]
 refine⟨.sl (a.map fun (n,o)=>(n,o+k * z)) (l.length-k) (cap-k) ex,?_,a.map fun (n,o)=>(n,o+k * z),cap-k,ex,by rw[List.length_drop],by rw[List.length_drop];omega,he,?_⟩
 ·show zaP z true false false [.sl a l.length cap ex,.i .i64 (Int.ofNat k)]=_
  simp[zaP,wO,idx,zq,hex,hk,hc]
 ·rcases h1 with⟨h1,rfl⟩ | ⟨b,off,cs,rfl,h2,h6,h3⟩
  ·exact .inl ⟨by rw[h1];simp,rfl⟩
  ·refine .inr ⟨b,off+k * z,cs,rfl,h2,?_,fun i x hi=>?_⟩
   ·rw[List.length_drop,Nat.sub_mul]
    have:k * z≤l.length * z:=Nat.mul_le_mul_right _ hk
    omega
   ·rw[List.getElem?_drop]at hi
    have:=h3 (k+i) x hi
    have e:off+(k+i) * z=off+k * z+i * z:=by rw[Nat.add_mul];omega
    rw[e]at this
    exact this
theorem SlG.upto {K:Lg}{v:AV}{l:List α}(h:SlG f z K v l){k:Nat}(hk:k≤l.length):∃v',zaP z false true false [v,.i .i64 k]=some v'∧SlG f z K v' (l.take k):=by
 obtain⟨a,cap,ex,rfl,hc,he,h1⟩:=h
 have hex:(Nat.beq ex 0||Nat.beq ex z)=true:=by
  rcases he with rfl | rfl
  ·simp[zp]
  ·simp[zp]
 refine⟨.sl a k cap ex,?_,a,cap,ex,by rw[List.length_take,Nat.min_eq_left hk],by rw[List.length_take];omega,he,?_⟩
 ·show zaP z false true false [.sl a l.length cap ex,.i .i64 (Int.ofNat k)]=_
  have hkc:k≤cap:=by omega
  simp[zaP,wO,idx,zq,hex,hkc]
 ·rcases h1 with⟨h1,rfl⟩ | ⟨b,off,cs,rfl,h2,h6,h3⟩
  ·exact .inl ⟨by rw[h1];simp,rfl⟩
  ·refine .inr ⟨b,off,cs,rfl,h2,?_,fun i x hi=>?_⟩
   ·rw[List.length_take,Nat.min_eq_left hk]
    have:k * z≤l.length * z:=Nat.mul_le_mul_right _ hk
    omega
   ·have hi':i<k:=by have:=(List.getElem?_eq_some_iff.1 hi).1;simp at this;omega
    rw[List.getElem?_take_of_lt hi']at hi
    exact h3 i x hi
theorem SlG.all {K:Lg}{v:AV}{l:List α}(hf:∀x,(f x).length=z)(h:SlG f z K v l):∃a cap ex,v=.sl a l.length cap ex∧∀X:Lg,yd K X→zF X a (l.length * z)=some (zm f l):=by
 obtain⟨a,cap,ex,rfl,hc,he,⟨h1,rfl⟩ | ⟨b,off,cs,rfl,h2,h6,h3⟩⟩:=h
 ·subst h1
  exact⟨none,cap,ex,rfl,fun X _=>by simp[zF,zm]⟩
 ·refine⟨_,cap,ex,rfl,fun X hX=>?_⟩
  have hcells:∀(l:List α) (o:Nat),o+l.length * z≤cs.length→(∀(i:Nat) (x:α),l[i]?=some x→(cs.drop (o+i * z)).take z=f x)→(cs.drop o).take (l.length * z)=zm f l:=by
   intro l
   induction l with
   | nil=>intro o _ _;simp[zm]
   | cons x r ih =>
    intro o ho hg
    have h0:=hg 0 x rfl
    have e1:(x::r).length * z=z+r.length * z:=by rw[List.length_cons,Nat.add_mul,Nat.one_mul];omega
    rw[e1]at ho ⊢
    rw[List.take_add,List.drop_drop]
    rw[ih (o+z) (by omega) (fun i y hy=>by
     have:=hg (i+1) y hy
     have e2:o+(i+1) * z=o+z+i * z:=by rw[Nat.add_mul];omega
     rw[e2]at this;exact this)]
    simp only[Nat.zero_mul,Nat.add_zero]at h0
    rw[h0];rfl
  have hcut:cut cs off (l.length * z)=some (zm f l):=by
   simp[cut,zq,h6,hcells l off h6 h3]
  rcases h2 with h2 | h2<;>simp[zF,hX _ _ h2,AB.read,hcut]
end
def bt (n:Int)(i:Nat):Int:=wr .u8 ((wr .u64 n).fdiv (2 ^ (8 * i)))
def b8 (n:Int):List Int:=(List.range 8).map (bt n)
abbrev Ent:=Int×Int×Int
def e3 (x:Ent):List AV:=[.i .i64 x.1,.i .i64 x.2.1,.i .i64 x.2.2]
end
section
def isB (b:Int):Prop:=0≤b∧b<256
end
section
variable {F:Nat→Option AFn}
end
section
def in64 (n:Int):Prop:=-9223372036854775808≤n∧n<9223372036854775808
def inE (x:Ent):Prop:=in64 x.1∧in64 x.2.1∧in64 x.2.2
end
section
open Go.RowKit
end
section
open Go.RowKit
variable {F:Nat→Option AFn}
def REnt:={ x:Ent // inE x }
instance:Inhabited REnt:=⟨⟨(0,0,0),by unfold inE in64;simp⟩⟩
def RByt:={ x:Int // isB x }
instance:Inhabited RByt:=⟨⟨0,by unfold isB;simp⟩⟩
end
section
variable {F:Nat→Option AFn}
def OSe (K:Lg)(v:AV)(cs:List AV)(n size:Nat):Prop:=OSl K v cs n size∨(n=0∧cs=[]∧∃b,v=.sl (some (b,0)) 0 0 0∧K b=some (.raw (.cells [])))
theorem OSe.block {K:Lg}{v:AV}{cs:List AV}{n size:Nat}(h:OSe K v cs n size){b:Nat}(e:slB v=some b):K b=some (.raw (.cells cs)):=by
 rcases h with h | ⟨_,rfl,b',rfl,h⟩
 ·exact h.block e
 ·simp[slB]at e;subst e;exact h
theorem OSe.slG {α:Type}{f:α→List AV}{z:Nat}{K:Lg}{v:AV}{l:List α}(hf:∀x,(f x).length=z)(h:OSe K v (zm f l) l.length z):SlG f z K v l:=by
 rcases h with h | ⟨h1,h2,b,rfl,h3⟩
 ·exact yy hf h
 ·have:=List.length_eq_zero_iff.1 h1
  subst this
  exact⟨some (b,0),0,0,rfl,by simp,.inl rfl,.inr ⟨b,0,[],rfl,.inl h3,by simp,fun i x hi=>by simp at hi⟩⟩
theorem lit0 {K:Lg}{z:List AV}{size:Nat}{k:AV→Lg→Prop}(hk:∀(v':AV) (K1:Lg),OSe K1 v' [] 0 size→yd K K1→(∀b,slB v'=some b→K b=none)→k v' K1):za F (.bslice z 0 size []) [] K k:=by
 rw[vR,yg (c:=[]) _ _ (by simp[y5,zE]) rfl]
 intro b1 hb1
 refine hk _ _ (.inr ⟨rfl,rfl,b1,rfl,ze _ _ _⟩) ((yd.refl K).put hb1 _) ?_
 intro b hb;simp[slB]at hb;subst hb;exact hb1
theorem OSe.app {α:Type}{f:α→List AV}{z bytes n:Nat}{K:Lg}{v src:AV}{cs:List AV}{l:List α}(hf:∀x,(f x).length=z)(h1:∀x,(f x).all AV.one=true)(hz:0<z)(h:OSe K v cs n z)(hs:SlG f z K src l)(hb:(n+l.length) * bytes≤70368744177664)
  {k:AV→Lg→Prop} (hk:∀(v':AV) (K1:Lg),OSe K1 v' (cs++zm f l) (n+l.length) z→Yy (slB v) K K1→(∀b,slB v'=some b→K b=none∨slB v=some b)→k v' K1):za F (.app z bytes) [v,src] K k:=by
 obtain⟨a,cap,ex,rfl,hall⟩:=hs.all hf
 have hr:=hall K (yd.refl K)
 rw[WU]
 by_cases h0:l.length=0
 ·have hl:=List.length_eq_zero_iff.1 h0
  subst hl
  have same:k v K:=hk v K (by simpa[zm]using h) (fun r d hr _=>hr) (fun b hb=>.inr hb)
  simp only[List.length_nil,Nat.zero_mul]at hr
  rcases h with h | ⟨_,_,b,rfl,_⟩
  ·exact h.app0 rfl (by simpa[zm]using hr) same
  ·simp only[Xh,List.length_nil,Nat.zero_mul,hr,zdJ]
   simpa[zm]using same
 ·have hlen:=zV (f:=f) (k:=z) hf l
  rcases h with h | ⟨rfl,rfl,b,rfl,hb'⟩
  ·refine h.app (m:=l.length) hz rfl (by omega) hr hlen (Yo h1 l) hb ?_
   intro b K1 g hO
   refine hk _ _ (.inl hO) ?_ ?_
   ·intro r d hr hne
    have r2:r≠b:=by rintro rfl;rw[g.fresh]at hr;cases hr
    rw[g.same r r2 hne];exact hr
   ·intro q hq;simp[slB]at hq;subst hq;exact .inl g.fresh
  ·refine wV (L':=K) (old:=[]) hr (Yo h1 l) (by omega) hb (by simp[zF,hb',AB.read,cut,zq]) (by simp[Zd]) ?_
   intro q hq
   refine hk _ _ (.inl (.inr ⟨q,z,by omega,rfl,.inr rfl,ze _ _ _,by simp[hlen]⟩)) ?_ ?_
   ·intro r d hr _
    rw[zb];exact hr
    rintro rfl;rw[hq]at hr;cases hr
   ·intro q' hq';simp[slB]at hq';subst hq';exact .inl hq
end
section
variable {F:Nat→Option AFn}
def Xd (id:Int):List It→Nat→Int
 | [],_=>-1
 | x::r,k=>if x.id=id then (k:Int)else Xd id r (k+1)
theorem zdi {id:Int}{l:List It}{i:Nat}{x:It}(h:l[i]?=some x):Xd id (l.drop i) i=if x.id=id then (i:Int)else Xd id (l.drop (i+1)) (i+1):=by
 have hi:=(List.getElem?_eq_some_iff.1 h)
 obtain⟨h1,h2⟩:=hi
 rw[List.drop_eq_getElem_cons h1,h2]
 rfl
theorem X6 (id:Int):∀(l:List It) (k:Nat),(Xd id l k=-1∧yQ id l=none∧yS id l=l)∨∃(j:Nat) (x:It),Xd id l k=((k+j:Nat):Int)∧l[j]?=some x∧x.id=id∧yQ id l=some x∧((l.map It.id).Nodup→l.take j++l.drop (j+1)=yS id l)
 | [],k=>.inl ⟨rfl,rfl,rfl⟩
 | x::r,k=>by
  by_cases h:x.id=id
  ·refine .inr ⟨0,x,by simp[Xd,h],rfl,h,by simp[yQ,h],fun nd=>?_⟩
   simp only[List.map_cons,List.nodup_cons]at nd
   have:yS id r=r:=by
    unfold yS
    rw[List.filter_eq_self]
    intro y hy
    have:¬y.id=id:=fun h9=>nd.1 (by rw[h,←h9];exact List.mem_map_of_mem hy)
    simp[this]
   simp only[yS]at this
   simp[yS,h,this]
  ·rcases X6 id r (k+1)with⟨h1,h2,h3⟩ | ⟨j,y,h1,h2,h3,h4,h5⟩
   ·left
    refine⟨by simp[Xd,h,h1],by simp only[yQ]at h2 ⊢;simp[h,h2],?_⟩
    simp only[yS]at h3 ⊢
    simp[h,h3]
   ·right
    refine⟨j+1,y,by simp[Xd,h,h1];omega,by simpa using h2,h3,by simp only[yQ]at h4 ⊢;simp[h,h4],fun nd=>?_⟩
    simp only[List.map_cons,List.nodup_cons]at nd
    have:=h5 nd.2
    simp only[yS]at this ⊢
    simp[h,this]
theorem zgP {x:It}:∀(A B:List It),(∀y∈A,¬x.lt y)→(∀y∈B,x.lt y)→ins x (A++B)=A++x::B
 | [],[],_,_=>rfl
 | [],y::r,_,h=>by simp[ins,h y (by simp)]
 | a::A,B,h1,h2=>by
  simp only[List.cons_append,ins]
  rw[if_neg (h1 a (by simp)),zgP A B (fun y hy=>h1 y (by simp[hy])) h2]
def zes (p:Int×Int):List AV:=[.i .i64 p.1,.i .i64 p.2,.i .i64 0]
def vM (id:Int):List (Int×Int)→Option Int
 | []=>none
 | p::r=>if p.1=id then some p.2 else vM id r
def rmP (id:Int):List (Int×Int)→List (Int×Int)
 | []=>[]
 | p::r=>if p.1=id then r else p::rmP id r
theorem zgH {id:Int}:∀{l:List (Int×Int)} {j:Nat} {x:Int×Int},l[j]?=some x→x.1=id→(∀i y,i<j→l[i]?=some y→y.1≠id)→rmP id l=l.take j++l.drop (j+1)
 | [],j,x,h,_,_=>by simp at h
 | a::r,0,x,h,hx,_=>by simp at h;subst h;simp[rmP,hx]
 | a::r,j+1,x,h,hx,hn=>by
  have h0:=hn 0 a (by omega) rfl
  have:=zgH (l:=r) (j:=j) (x:=x) (by simpa using h) hx (fun i y hi hy=>hn (i+1) y (by omega) (by simpa using hy))
  simp[rmP,h0,this]
theorem zgG {id:Int}:∀{l:List (Int×Int)},(∀y∈l,y.1≠id)→rmP id l=l
 | [],_=>rfl
 | a::r,h=>by simp[rmP,h a (by simp),zgG (l:=r) (fun y hy=>h y (by simp[hy]))]
theorem zb6 {id:Int}:∀{l:List (Int×Int)} {j:Nat} {x:Int×Int},l[j]?=some x→x.1=id→(∀i y,i<j→l[i]?=some y→y.1≠id)→vM id l=some x.2
 | [],j,x,h,_,_=>by simp at h
 | a::r,0,x,h,hx,_=>by simp at h;subst h;simp[vM,hx]
 | a::r,j+1,x,h,hx,hn=>by
  have h0:=hn 0 a (by omega) rfl
  have:=zb6 (l:=r) (j:=j) (x:=x) (by simpa using h) hx (fun i y hi hy=>hn (i+1) y (by omega) (by simpa using hy))
  simp[vM,h0,this]
theorem VT {id:Int}:∀{l:List (Int×Int)},(∀y∈l,y.1≠id)→vM id l=none
 | [],_=>rfl
 | a::r,h=>by simp[vM,h a (by simp),VT (l:=r) (fun y hy=>h y (by simp[hy]))]
theorem zea {id:Int}:∀{l:List (Int×Int)} {y:Int×Int},y∈rmP id l→y∈l
 | [],y,h=>by simp[rmP]at h
 | a::r,y,h=>by
  simp only[rmP]at h
  split at h
  ·simp[h]
  ·rcases List.mem_cons.1 h with h | h
   ·simp[h]
   ·simp[zea h]
theorem zd9 {id:Int}:∀{l:List (Int×Int)},(l.map (·.1)).Nodup→((rmP id l).map (·.1)).Nodup∧(∀y∈rmP id l,y.1≠id)∧∀j,vM j (rmP id l)=yN (fun k=>vM k l) id none j
 | [],_=>⟨by simp[rmP],by simp[rmP],fun j=>by simp[rmP,vM,yN]⟩
 | a::r,nd=>by
  simp only[List.map_cons,List.nodup_cons]at nd
  obtain⟨h1,h2,h3⟩:=zd9 (id:=id) nd.2
  by_cases h:a.1=id
  ·have hn:∀y∈r,y.1≠id:=fun y hy h9=>nd.1 (by rw[h,←h9];exact List.mem_map_of_mem hy)
   refine⟨by simpa[rmP,h]using nd.2,by simpa[rmP,h]using hn,fun j=>?_⟩
   simp only[rmP,h,if_true,yN,vM]
   by_cases hj:id=j
   ·subst hj;simp[VT hn]
   ·simp[hj]
  ·refine⟨?_,?_,fun j=>?_⟩
   ·simp only[rmP,h,if_false,List.map_cons,List.nodup_cons]
    refine⟨fun h9=>?_,h1⟩
    obtain⟨y,hy,he⟩:=List.mem_map.1 h9
    exact nd.1 (by rw[←he];exact List.mem_map_of_mem (zea hy))
   ·intro y hy
    simp only[rmP,h,if_false]at hy
    rcases List.mem_cons.1 hy with rfl | hy
    ·exact h
    ·exact h2 y hy
   ·have:=h3 j
    simp only[yN]at this
    simp only[rmP,h,if_false,yN,vM,this]
    by_cases hj:id=j
    ·subst hj;simp[h]
    ·simp[hj]
theorem YX {id p j:Int}:∀{l:List (Int×Int)},(∀y∈l,y.1≠id)→vM j (l++[(id,p)])=yN (fun k=>vM k l) id (some p) j
 | [],_=>by simp[vM,yN]
 | a::r,h=>by
  have:=YX (id:=id) (p:=p) (j:=j) (l:=r) (fun y hy=>h y (by simp[hy]))
  have h0:=h a (by simp)
  simp only[yN]at this
  simp only[List.cons_append,vM,this,yN]
  by_cases hj:id=j
  ·subst hj;simp[h0]
  ·simp[hj]
structure ROpen (L:Lg)(u:Nat)(σ:Tms)(per:List (Int×Int))(sv pv ov:AV)(K:Lg):Prop where
 root:K u=some (.raw (.cells [sv,.i .i64 σ.x.seq,pv,ov,.i .i64 σ.named]))
 hs:OSe K sv (zm It.cells σ.x.l) σ.x.l.length 3
 ps:OSe K pv (zm zes per) per.length 3
 os:OSl K ov (zm On.cells σ.ones) σ.ones.length 4
 a1:∀b,slB sv=some b→b≠u∧L b=none
 a2:∀b,slB pv=some b→b≠u∧L b=none∧slB sv≠some b
 a3:∀b,slB ov=some b→b≠u∧L b=none∧slB sv≠some b∧slB pv≠some b
 old:∀r d,r≠u→L r=some d→K r=some d
theorem OSe.one {K:Lg}{v:AV}{cs:List AV}{n size:Nat}(h:OSe K v cs n size):v.one=true:=by
 rcases h with h | ⟨_,_,b,rfl,_⟩
 ·exact h.one
 ·rfl
theorem OSe.cellsOf {K:Lg}{v:AV}{cs:List AV}{n size:Nat}(h:OSe K v cs n size):v.cellsOf=some [v]:=by
 rcases h with h | ⟨_,_,b,rfl,_⟩
 ·exact h.cellsOf
 ·rfl
theorem OSe.same {K:Lg}{v:AV}{cs:List AV}{n size:Nat}(h:OSe K v cs n size):vk v v=true:=by
 rcases h with (⟨_,_,rfl⟩ | ⟨b,ex,_,rfl,_⟩) | ⟨_,_,b,rfl,_⟩<;>simp
theorem OSe.mono {K K':Lg}{v:AV}{cs:List AV}{n size:Nat}(h:OSe K v cs n size)(e:∀b,slB v=some b→K' b=K b):OSe K' v cs n size:=by
 rcases h with h | ⟨h1,h2,b,rfl,h3⟩
 ·exact .inl (h.mono e)
 ·exact .inr ⟨h1,h2,b,rfl,by rw[e b rfl];exact h3⟩
theorem OSe.sub {K K':Lg}{v:AV}{cs:List AV}{n size:Nat}(h:OSe K v cs n size)(e:∀b d,slB v=some b→K b=some d→K' b=some d):OSe K' v cs n size :=
 h.mono fun b hb=>by rw[h.block hb];exact e b _ hb (h.block hb)
theorem OSl.sub {K K':Lg}{v:AV}{cs:List AV}{n size:Nat}(h:OSl K v cs n size)(e:∀b d,slB v=some b→K b=some d→K' b=some d):OSl K' v cs n size :=
 h.mono fun b hb=>by rw[h.block hb];exact e b _ hb (h.block hb)
theorem zaX {z cs:List AV}{size:Nat}{K:Lg}{k:AV→Lg→Prop}(hz:z.length=size)(hc:cs.length=size)(h1:cs.all AV.one=true)(hk:∀(v:AV) (K1:Lg),OSl K1 v cs 1 size→yd K K1→(∀b,slB v=some b→K b=none)→k v K1) :
  Xp (Zo z 1 size [0]) [.agg cs] K k:=by
 rw[yg (c:=cs) _ _ (by simp[y5,zE,zo,zq,zp,hz,hc,ZR cs h1]) h1]
 intro b1 hb1
 refine hk _ _ (.inr ⟨b1,0,by omega,rfl,.inl rfl,ze _ _ _,by simp[hc]⟩) ((yd.refl K).put hb1 _) ?_
 intro b hb;simp[slB]at hb;subst hb;exact hb1
theorem U5 {z cs:List AV}{size:Nat}{K:Lg}{k:AV→Lg→Prop}(hz:z.length=size)(hc:cs.length=size)(h1:cs.all AV.one=true)(hk:∀(v:AV) (K1:Lg),OSl K1 v cs 1 size→yd K K1→(∀b,slB v=some b→K b=none)→k v K1) :
  za F (.bslice z 1 size [0]) [.agg cs] K k:=by
 rw[vR]
 exact zaX hz hc h1 hk
end
section
variable {F:Nat→Option AFn}
structure LitS (K0:Lg)(v:AV)(cs:List AV)(n z:Nat)(K1:Lg):Prop where
 o:OSe K1 v cs n z
 s:yd K0 K1
 f:∀b,slB v=some b→K0 b=none
theorem yd.none {K0 K1:Lg}(h:yd K0 K1){b:Nat}(hb:K1 b=Option.none):K0 b=Option.none:=by
 cases hk:K0 b with
 | none=>rfl
 | some d=>rw[h b d hk]at hb;cases hb
theorem LitS.start {K:Lg}{zs:List AV}{z:Nat}{k:AV→Lg→Prop}(hk:∀(v:AV) (K1:Lg),LitS K v [] 0 z K1→k v K1):za F (.bslice zs 0 z []) [] K k :=
 lit0 fun v K1 h1 h2 h3=>hk v K1 ⟨h1,h2,h3⟩
theorem LitS.app {α:Type}{f:α→List AV}{z bytes n:Nat}{K0 K:Lg}{v src:AV}{cs:List AV}{l:List α}(h:LitS K0 v cs n z K)(hf:∀x,(f x).length=z)(h1:∀x,(f x).all AV.one=true)(hz:0<z)(hs:SlG f z K src l)(hb:(n+l.length) * bytes≤70368744177664)
  {k:AV→Lg→Prop} (hk:∀(v':AV) (K1:Lg),LitS K0 v' (cs++zm f l) (n+l.length) z K1→k v' K1):za F (.app z bytes) [v,src] K k:=by
 refine h.o.app hf h1 hz hs hb ?_
 intro v' K1 h2 h3 h4
 refine hk v' K1 ⟨h2,fun r d hr=>h3 r d (h.s r d hr) (fun h9=>by have:=h.f r h9;rw[hr]at this;cases this),fun b hb'=>?_⟩
 rcases h4 b hb' with h9 | h9
 ·exact h.s.none h9
 ·exact h.f b h9
theorem LitS.mono {z n:Nat}{K0 K K':Lg}{v:AV}{cs:List AV}(h:LitS K0 v cs n z K)(hs:yd K K'):LitS K0 v cs n z K':=⟨h.o.sub fun b d _ hd=>hs b d hd,h.s.trans hs,h.f⟩
theorem It.len3 (x:It):x.cells.length=3:=rfl
theorem It.one3 (x:It):x.cells.all AV.one=true:=rfl
theorem Yc (x:Int×Int):(zes x).length=3:=rfl
theorem VU (x:Int×Int):(zes x).all AV.one=true:=rfl
section
variable {L K:Lg} {u:Nat} {σ:Tms} {per:List (Int×Int)} {sv pv ov:AV}
theorem ROpen.ne (o:ROpen L u σ per sv pv ov K){b:Nat}(hb:K b=none):b≠u∧L b=none∧slB sv≠some b∧slB pv≠some b∧slB ov≠some b:=by
 have h1:b≠u:=by rintro rfl;have:=o.root;rw[hb]at this;cases this
 refine⟨h1,?_,?_,?_,?_⟩
 ·cases h:L b with
  | none=>rfl
  | some d=>rw[o.old b d h1 h]at hb;cases hb
 ·intro h;have:=o.hs.block h;rw[hb]at this;cases this
 ·intro h;have:=o.ps.block h;rw[hb]at this;cases this
 ·intro h;have:=o.os.block h;rw[hb]at this;cases this
theorem ROpen.sub (o:ROpen L u σ per sv pv ov K){K':Lg}(h:yd K K'):ROpen L u σ per sv pv ov K' :=
 ⟨h _ _ o.root,o.hs.sub fun b d _ hd=>h b d hd,o.ps.sub fun b d _ hd=>h b d hd,o.os.sub fun b d _ hd=>h b d hd,o.a1,o.a2,o.a3,fun r d hr hd=>h r d (o.old r d hr hd)⟩
theorem ROpen.onto (o:ROpen L u σ per sv pv ov K){b:Nat}(hb:K b=none)(d:LC):ROpen (L.put b d) u σ per sv pv ov (K.put b d):=by
 obtain⟨n1,n2,n3,n4,n5⟩:=o.ne hb
 have key:∀{r:Nat} {v:AV},slB v=some r→slB v≠some b→(L.put b d) r=L r:=fun {r} {v} h1 h2=>zb _ _ _ (by rintro rfl;exact h2 h1)
 have o':=o.sub ((yd.refl K).put hb d)
 refine⟨o'.root,o'.hs,o'.ps,o'.os,fun r h=>?_,fun r h=>?_,fun r h=>?_,fun r e hr he=>?_⟩
 ·rw[key h n3];exact o.a1 r h
 ·rw[key h n4];exact o.a2 r h
 ·rw[key h n5];exact o.a3 r h
 ·rw[Lg.put_apply]at he ⊢
  split
  ·rename_i h9;rw[if_pos h9]at he;exact he
  ·rename_i h9;rw[if_neg h9]at he;exact o.old r e hr he
theorem ROpen.below (o:ROpen L u σ per sv pv ov K){L0:Lg}(h:∀r d,r≠u→L0 r=some d→L r=some d):ROpen L0 u σ per sv pv ov K:=by
 have key:∀b,b≠u→L b=none→L0 b=none:=fun b h1 h2=>by
  cases h3:L0 b with
  | none=>rfl
  | some d=>rw[h b d h1 h3]at h2;cases h2
 exact⟨o.root,o.hs,o.ps,o.os,fun b hb=>⟨(o.a1 b hb).1,key b (o.a1 b hb).1 (o.a1 b hb).2⟩,fun b hb=>⟨(o.a2 b hb).1,key b (o.a2 b hb).1 (o.a2 b hb).2.1,(o.a2 b hb).2.2⟩,
  fun b hb=>⟨(o.a3 b hb).1,key b (o.a3 b hb).1 (o.a3 b hb).2.1,(o.a3 b hb).2.2⟩,fun r d hr hd=>o.old r d hr (h r d hr hd)⟩
theorem ROpen.newH (o:ROpen L u σ per sv pv ov K){v:AV}{l:List It}{K1:Lg}(h:LitS K v (zm It.cells l) l.length 3 K1) :
  ROpen L u { σ with x:={ σ.x with l:=l } } per v pv ov (K1.put u (.raw (.cells [v,.i .i64 σ.x.seq,pv,ov,.i .i64 σ.named]))):=by
 have fr:=fun b hb=>o.ne (h.f b hb)
 have kp:∀{b:Nat} {d:LC},b≠u→K b=some d→(K1.put u (.raw (.cells [v,.i .i64 σ.x.seq,pv,ov,.i .i64 σ.named]))) b=some d:=fun {b d} h1 h2=>by rw[zb _ _ _ h1];exact h.s b d h2
 refine⟨ze _ _ _,h.o.mono fun b hb=>zb _ _ _ (fr b hb).1,o.ps.sub fun b d hb hd=>kp (o.a2 b hb).1 hd,o.os.sub fun b d hb hd=>kp (o.a3 b hb).1 hd,
  fun b hb=>⟨(fr b hb).1,(fr b hb).2.1⟩,fun b hb=>⟨(o.a2 b hb).1,(o.a2 b hb).2.1,fun h9=>(fr b h9).2.2.2.1 hb⟩,fun b hb=>⟨(o.a3 b hb).1,(o.a3 b hb).2.1,fun h9=>(fr b h9).2.2.2.2 hb,(o.a3 b hb).2.2.2⟩,
  fun r d hr hd=>kp hr (o.old r d hr hd)⟩
theorem ROpen.newP (o:ROpen L u σ per sv pv ov K){v:AV}{l:List (Int×Int)}{K1:Lg}(h1:OSe K1 v (zm zes l) l.length 3)(h2:Yy (slB pv) K K1)(h3:∀b,slB v=some b→K b=none∨slB pv=some b) :
  ROpen L u σ l sv v ov (K1.put u (.raw (.cells [sv,.i .i64 σ.x.seq,v,ov,.i .i64 σ.named]))):=by
 have fr:∀b,slB v=some b→b≠u∧L b=none∧slB sv≠some b∧slB ov≠some b:=fun b hb=>by
  rcases h3 b hb with h | h
  ·have:=o.ne h;exact⟨this.1,this.2.1,this.2.2.1,this.2.2.2.2⟩
  ·have:=o.a2 b h;exact⟨this.1,this.2.1,this.2.2,fun h9=>(o.a3 b h9).2.2.2 h⟩
 have kp:∀{b:Nat} {d:LC},b≠u→slB pv≠some b→K b=some d→(K1.put u (.raw (.cells [sv,.i .i64 σ.x.seq,v,ov,.i .i64 σ.named]))) b=some d:=fun {b d} g1 g2 g3=>by rw[zb _ _ _ g1];exact h2 b d g3 g2
 refine⟨ze _ _ _,o.hs.sub fun b d hb hd=>kp (o.a1 b hb).1 (fun h9=>(o.a2 b h9).2.2 hb) hd,h1.mono fun b hb=>zb _ _ _ (fr b hb).1,o.os.sub fun b d hb hd=>kp (o.a3 b hb).1 (o.a3 b hb).2.2.2 hd,
  o.a1,fun b hb=>⟨(fr b hb).1,(fr b hb).2.1,(fr b hb).2.2.1⟩,fun b hb=>⟨(o.a3 b hb).1,(o.a3 b hb).2.1,(o.a3 b hb).2.2.1,fun h9=>(fr b h9).2.2.2 hb⟩,
  fun r d hr hd=>kp hr (fun h9=>by have:=(o.a2 r h9).2.1;rw[hd]at this;cases this) (o.old r d hr hd)⟩
theorem ROpen.seq (o:ROpen L u σ per sv pv ov K)(q:Int):ROpen L u { σ with x:={ σ.x with seq:=q } } per sv pv ov (K.put u (.raw (.cells [sv,.i .i64 q,pv,ov,.i .i64 σ.named]))) :=
 ⟨ze _ _ _,o.hs.mono fun b hb=>zb _ _ _ (o.a1 b hb).1,o.ps.mono fun b hb=>zb _ _ _ (o.a2 b hb).1,o.os.mono fun b hb=>zb _ _ _ (o.a3 b hb).1,o.a1,o.a2,o.a3,
  fun r d hr hd=>by rw[zb _ _ _ hr];exact o.old r d hr hd⟩
theorem ROpen.pf (o:ROpen L u σ per sv pv ov K)(f:Int→Option Int):ROpen L u { σ with x:={ σ.x with pf:=f } } per sv pv ov K:=⟨o.root,o.hs,o.ps,o.os,o.a1,o.a2,o.a3,o.old⟩
theorem ROpen.slG (o:ROpen L u σ per sv pv ov K):SlG It.cells 3 K sv σ.x.l:=OSe.slG It.len3 o.hs
theorem ROpen.slP (o:ROpen L u σ per sv pv ov K):SlG zes 3 K pv per:=OSe.slG Yc o.ps
theorem ROpen.slO (o:ROpen L u σ per sv pv ov K):SlG On.cells 4 K ov σ.ones:=yy (fun _=>rfl) o.os
theorem ROpen.r0 (o:ROpen L u σ per sv pv ov K):rdL K (u,0) none=some sv:=by rw[zk o.root];rfl
theorem ROpen.r1 (o:ROpen L u σ per sv pv ov K):rdL K (u,1) none=some (.i .i64 σ.x.seq):=by rw[zk o.root];rfl
theorem ROpen.r2 (o:ROpen L u σ per sv pv ov K):rdL K (u,2) none=some pv:=by rw[zk o.root];rfl
theorem ROpen.r3 (o:ROpen L u σ per sv pv ov K):rdL K (u,3) none=some ov:=by rw[zk o.root];rfl
theorem ROpen.st (o:ROpen L u σ per sv pv ov K){K1:Lg}(h:yd K K1){i:Nat}(hi:i<5){w:AV}(hw:w.cellsOf=some [w]){k:AV→Lg→Prop}
  (hk:k .bad (K1.put u (.raw (.cells ([sv,.i .i64 σ.x.seq,pv,ov,.i .i64 σ.named].set i w))))):stL 1 K1 k [.p (some (u,i)),w]:=by
 rw[zH (h _ _ o.root) (by simpa using hi) hw];exact hk
theorem ROpen.putX (o:ROpen L u σ per sv pv ov K){b:Nat}(h1:b≠u)(h2:L b=none)(h3:slB sv≠some b)(h4:slB pv≠some b)(h5:slB ov≠some b)(d:LC):ROpen L u σ per sv pv ov (K.put b d):=by
 have ne:∀{r:Nat} {v:AV},slB v=some r→slB v≠some b→r≠b:=fun {r} {v} g1 g2=>by rintro rfl;exact g2 g1
 exact⟨by rw[zb _ _ _ (Ne.symm h1)];exact o.root,o.hs.mono fun r hr=>zb _ _ _ (ne hr h3),o.ps.mono fun r hr=>zb _ _ _ (ne hr h4),o.os.mono fun r hr=>zb _ _ _ (ne hr h5),o.a1,o.a2,o.a3,
  fun r e hr he=>by rw[zb _ _ _ (by rintro rfl;rw[h2]at he;cases he)];exact o.old r e hr he⟩
theorem zdj (hf:H_f66 F)(o:ROpen L u σ per sv pv ov K)(hl:σ.x.l.length≤1000000)(id:Int):zd F k_f66 [.p (some (u,0)),.i .i64 id] K fun w K'=>w=.i .i64 (Xd id σ.x.l 0)∧K'=K:=by
 refine zr ?_
 intro Q hQ
 apply r_f66 hf.code
 unfold D_f66_1 D_f66_4 D_f66_6
 obtain⟨l,hll⟩:∃l,l=σ.x.l:=⟨_,rfl⟩
 obtain⟨I,hI⟩:∃I:Nat→Env→Lg→Prop,I=fun m E K'=>∃i:Nat,m+i=l.length∧E 0=.p (some (u,0))∧E 1=.i .i64 id∧E 5=.i .i64 i∧K'=K∧Xd id l 0=Xd id (l.drop i) i:=⟨_,rfl⟩
 refine zQ I l.length ?_ ?_
 ·rw[hI];exact⟨0,by omega,by simp[zJ],by simp[zJ],by simp,rfl,rfl⟩
 intro m E t K' hi
 rw[hI]at hi
 obtain⟨i,hm,e0,e1,e5,rfl,hfd⟩:=hi
 have fin:∀w,w=Xd id l 0→zl (some (.i .i64 w)) Q K':=fun w hw=>⟨K',zu.refl _,hQ _ _ ⟨by rw[hw,hll],rfl⟩⟩
 have r0:=o.r0
 have sg:=o.slG
 rw[←hll]at sg hl
 have hlen:=fun X k=>sg.len (F:=F) X k
 unfold D_f66_7
 rw[e0,e1,e5]
 simp only[zf,zg,zj,Nat.zero_add,zt,r0,zh,hlen,y0,zR]
 refine⟨fun hlt=>?_,fun hnl=>?_⟩
 rotate_left
 ·unfold D_f66_3
  refine fin _ ?_
  rw[hfd,List.drop_eq_nil_iff.2 (by omega)];rfl
 have hil:i<l.length:=by omega
 have hx:l[i]?=some l[i]:=List.getElem?_eq_getElem hil
 generalize l[i]=x at hx
 have w1:wr .i64 ((i:Int)+1)=((i+1:Nat):Int):=by rw[zS (by omega) (by omega)];omega
 obtain⟨b,q,q1,q2,_⟩:=sg.get (F:=F) hx
 have rid:rdL K' (b,q) none=some (.i .i64 x.id):=(q2 K' (yd.refl _)).1 0 (by omega)
 have hstep:=zdi (id:=id) hx
 rw[hstep]at hfd
 simp only[zf,zg,zj,Nat.add_zero,Nat.zero_add,zt,r0,zh,q1,rid,xL,zR]
 refine⟨fun heq=>fin _ ?_,fun hne=>?_⟩
 ·rw[hfd,if_pos heq]
 ·simp only[zf,xl,w1]
  rw[hI]
  refine⟨m-1,by omega,i+1,by omega,by simp[e0],by simp[e1],by simp,rfl,?_⟩
  rw[hfd,if_neg hne]
theorem zge (hf:H_f67 F)(o:ROpen L u σ per sv pv ov K)(nd:(σ.x.l.map It.id).Nodup)(hl:σ.x.l.length≤1000000)(id:Int) :
  zd F k_f67 [.p (some (u,0)),.i .i64 id] K fun v K'=>v=ww (yQ id σ.x.l)∧∃sv',ROpen L u { σ with x:={ σ.x with l:=yS id σ.x.l } } per sv' pv ov K':=by
 refine zr ?_
 intro Q hQ
 apply r_f67 hf.code
 unfold D_f67_1 D_f67_2
 simp
 intro rc hrc
 obtain⟨K1,hK1⟩:∃K1,K1=K.put rc (.raw (.cells [.i .i64 0,.i .i64 0,.i .i64 0])):=⟨_,rfl⟩
 have s1:yd K K1:=by rw[hK1];exact (yd.refl K).put hrc _
 have krc:K1 rc=some (.raw (.cells [.i .i64 0,.i .i64 0,.i .i64 0])):=by rw[hK1,ze]
 have nrc:=o.ne hrc
 rw[←hK1]
 have o1:=o.sub s1
 refine (zdj hf.f66 o1 hl id).mono ?_
 rintro _ K2 ⟨rfl,hK2⟩
 rw[hK2]
 unfold D_f67_3
 rcases X6 id σ.x.l 0 with⟨h1,h2,h3⟩ | ⟨j,x,h1,h2,h3,h4,h5⟩
 ·rw[h1]
  simp[zE]
  rw[zw krc (by simp) (by simp) (by simp),zU _ _ (ze _ _ _) (by simp[zo])]
  refine⟨K,?_,hQ _ _ ⟨by rw[h2];simp[zo,ww,It.zero,It.av,It.cells],sv,?_⟩⟩
  ·rw[hK1,zA];exact ((yd.refl K).put hrc _).sees
  ·rw[h3];exact o
 ·have hj:=(List.getElem?_eq_some_iff.1 h2).1
  have e1:((0+j:Nat):Int)=(j:Int):=by omega
  rw[h1,e1]
  obtain⟨b,q,q1,q2,_⟩:=o1.slG.get (F:=F) h2
  have hr:=(q2 K1 (yd.refl _)).2
  have w1:wr .i64 ((j:Int)+1)=((j+1:Nat):Int):=by rw[zS (by omega) (by omega)];omega
  simp only[zf,y0,zR]
  refine⟨fun h9=>absurd h9 (by omega),fun _=>?_⟩
  simp only[zf,zg,zj,Nat.add_zero,zt,o1.r0,zh,q1,hr,xa]
  intro x9 hx9
  have n9:x9≠rc:=by rintro rfl;rw[krc]at hx9;cases hx9
  have n9u:=o1.ne hx9
  rw[yv,zw (ze _ _ _) (It.one3 x) (It.len3 x) (by simp),zA,show zo [AV.i .i64 0,.i .i64 0,.i .i64 0] 0 x.cells=x.cells by simp[zo,It.cells]]
  obtain⟨K4,hK4⟩:∃K4,K4=K1.put x9 (.raw (.cells x.cells)):=⟨_,rfl⟩
  have s4:yd K1 K4:=by rw[hK4];exact (yd.refl K1).put hx9 _
  have k9:K4 x9=some (.raw (.cells x.cells)):=by rw[hK4,ze]
  rw[←hK4]
  have o4:=o1.sub s4
  refine LitS.start ?_
  intro v11 K5 l5
  have o5:=o4.sub l5.s
  obtain⟨va,e2,sa⟩:=o5.slG.upto (k:=j) (by omega)
  simp only[zf,zg,zj,Nat.add_zero,zt,o5.r0,zh,YQ,e2]
  refine l5.app It.len3 It.one3 (by omega) sa (by simp;omega) ?_
  intro v16 K6 l6
  have o6:=o4.sub l6.s
  obtain⟨vb,e3,sb⟩:=o6.slG.from (k:=j+1) (by omega)
  simp only[zf,zg,zj,Nat.add_zero,zt,o6.r0,zh,xl,w1,YQ,e3]
  refine l6.app It.len3 It.one3 (by omega) sb (by simp;omega) ?_
  intro v22 K7 l7
  have hfl:[]++zm It.cells (σ.x.l.take j)++zm It.cells (σ.x.l.drop (j+1))=zm It.cells (yS id σ.x.l):=by
   rw[List.nil_append,←ya,h5 nd]
  have hln:0+(σ.x.l.take j).length+(σ.x.l.drop (j+1)).length=(yS id σ.x.l).length:=by
   rw[←h5 nd,List.length_append];omega
  rw[hfl,hln]at l7
  have o8:=o4.newH l7
  simp only[zf,zg,zj,Nat.add_zero,yv]
  refine o4.st l7.s (by omega) l7.o.cellsOf ?_
  refine⟨⟨by simp[z8,yB,Xm,o6.r0,o4.r0,o.hs.same],trivial⟩,?_⟩
  have nrc7:rc≠u:=nrc.1
  have kk:∀{b:Nat} {d:LC},b≠u→K4 b=some d→(K7.put u (.raw (.cells [v22,.i .i64 σ.x.seq,pv,ov,.i .i64 σ.named]))) b=some d:=fun {b d} g1 g2=>by rw[zb _ _ _ g1];exact l7.s b d g2
  have r9:=yj (o:=0) (n:=3) (kk n9u.1 k9) (by simp[It.cells])
  have rrc:=kk nrc.1 (s4 _ _ krc)
  have ta:(AV.agg (List.take 3 (List.drop 0 x.cells)))=.agg x.cells:=rfl
  rw[ta]at r9
  rw[List.set_cons_zero]
  simp only[zf,zt,r9,zh]
  rw[yv,zw rrc (It.one3 x) (It.len3 x) (by simp),zU _ _ (ze _ _ _) (by simp[zo,It.cells])]
  refine⟨_,zu.refl _,hQ _ _ ⟨by rw[h4];simp[zo,It.cells,It.av,ww],v22,?_⟩⟩
  exact o8.putX nrc.1 nrc.2.1 (fun h9=>by have:=l7.f rc h9;rw[s4 _ _ krc]at this;cases this) nrc.2.2.2.1 nrc.2.2.2.2 _
end
end
section
variable {F:Nat→Option AFn}
structure PerOk (per:List (Int×Int))(x:Xs):Prop where
 pm:(per.map (·.1)).Perm (x.l.map It.id)
 eq:∀j,x.pf j=vM j per
theorem zeb {id:Int}:∀{l:List (Int×Int)},(l.map (·.1)).Nodup→(rmP id l).map (·.1)=(l.map (·.1)).filter fun j=>!decide (j=id)
 | [],_=>rfl
 | a::r,nd=>by
  simp only[List.map_cons,List.nodup_cons]at nd
  by_cases h:a.1=id
  ·have:(r.map (·.1)).filter (fun j=>!decide (j=id))=r.map (·.1):=by
    rw[List.filter_eq_self]
    intro j hj
    have:¬j=id:=fun h9=>nd.1 (by rw[h,←h9];exact hj)
    simp[this]
   simp only[rmP,h,if_true,List.map_cons]
   rw[List.filter_cons_of_neg (by simp),this]
  ·have:=zeb (id:=id) nd.2
   simp only[rmP,h,if_false,List.map_cons]
   rw[List.filter_cons_of_pos (by simp[h]),this]
theorem zfY (id:Int)(l:List It):(yS id l).map It.id=(l.map It.id).filter fun j=>!decide (j=id):=by
 unfold yS
 rw[List.filter_map];rfl
theorem PerOk.nd {per:List (Int×Int)}{x:Xs}(h:PerOk per x)(nd:(x.l.map It.id).Nodup):(per.map (·.1)).Nodup:=h.pm.nodup_iff.2 nd
theorem PerOk.len {per:List (Int×Int)}{x:Xs}(h:PerOk per x):per.length=x.l.length:=by simpa using h.pm.length_eq
theorem PerOk.stop {per:List (Int×Int)}{x:Xs}(h:PerOk per x)(nd:(x.l.map It.id).Nodup)(id:Int):PerOk (rmP id per) (x.stop id):=by
 have n1:=h.nd nd
 refine⟨?_,fun j=>?_⟩
 ·simp only[Xs.stop]
  rw[zeb n1,zfY];exact h.pm.filter _
 ·rw[(zd9 (id:=id) n1).2.2 j]
  simp only[Xs.stop,yN,h.eq]
theorem PerOk.armed {per:List (Int×Int)}{x:Xs}(h:PerOk per x)(nd:(x.l.map It.id).Nodup)(id w p:Int):PerOk (rmP id per++[(id,p)]) (x.armed id w p):=by
 have n1:=h.nd nd
 have hs:=h.stop nd id
 refine⟨?_,fun j=>?_⟩
 ·simp only[Xs.armed,List.map_append,List.map_cons,List.map_nil]
  refine List.Perm.trans ?_ ((vg _ _).map It.id).symm
  simp only[List.map_cons]
  refine List.Perm.trans List.perm_append_comm ?_
  exact hs.pm.cons _
 ·rw[YX (zd9 n1).2.1]
  simp only[Xs.armed,yN]
  have:=hs.eq j
  simp only[Xs.stop,yN]at this
  rw[this]
theorem zfZ (o:Option It):ww o=.tup [(o.getD It.zero).av,.b o.isSome]:=by cases o<;>rfl
section
variable {L K:Lg} {u:Nat} {σ:Tms} {per:List (Int×Int)} {sv pv ov:AV}
theorem hputR (hf:H_f69 F)(o:ROpen L u σ per sv pv ov K)(hs:σ.x.l.Pairwise It.lt)(hb:∀y∈σ.x.l,y.s≤σ.x.seq)(hl:σ.x.l.length<1000000)(hq:0≤σ.x.seq∧σ.x.seq<4611686018427387904)(id when:Int) :
  zd F k_f69 [.p (some (u,0)),.i .i64 id,.i .i64 when] K fun v K'=>v=.tup []∧∃sv',ROpen L u { σ with x:={ σ.x with l:=ins ⟨id,when,σ.x.seq+1⟩ σ.x.l,seq:=σ.x.seq+1 } } per sv' pv ov K':=by
 refine zr ?_
 intro Q hQ
 apply r_f69 hf.code
 generalize hE:zJ [AV.p (some (u,0)),.i .i64 id,.i .i64 when] 0=E
 have e0:E 0=.p (some (u,0)):=by rw[←hE];simp[zJ]
 have e1:E 1=.i .i64 id:=by rw[←hE];simp[zJ]
 have e2:E 2=.i .i64 when:=by rw[←hE];simp[zJ]
 clear hE
 obtain⟨l,hll⟩:∃l,l=σ.x.l:=⟨_,rfl⟩
 have hll2:l.length<1000000:=by rw[hll];exact hl
 obtain⟨s,hss⟩:∃s,s=σ.x.seq:=⟨_,rfl⟩
 have w1:wr .i64 (s+1)=s+1:=by rw[zS (by omega) (by omega)]
 have r1:=o.r1
 rw[←hss]at r1
 unfold D_f69_1
 simp only[zf,e0,zg,zj,Nat.zero_add,zt,r1,zh,xl,w1,yv]
 refine o.st (yd.refl _) (by omega) rfl ?_
 have o1:=o.seq (s+1)
 simp only[List.set_cons_succ,List.set_cons_zero]
 generalize (K.put u (.raw (.cells [sv,.i .i64 (s+1),pv,ov,.i .i64 σ.named])))=K1 at o1
 have sg:=o1.slG
 simp only[←hll]at sg
 have hlen:=fun X k=>sg.len (F:=F) X k
 unfold D_f69_2 D_f69_6
 simp only[zf,e0,zg,zj,Nat.zero_add,zt,o1.r0,zh,hlen]
 obtain⟨I,hI⟩:∃I:Nat→Env→Lg→Prop,I=fun m E K'=>E 0=.p (some (u,0))∧E 1=.i .i64 id∧E 2=.i .i64 when∧E 6=.i .i64 m∧K'=K1∧m≤l.length∧∀y∈l.drop m,when<y.w:=⟨_,rfl⟩
 refine zQ I l.length ?_ ?_
 ·rw[hI];exact⟨by simp[e0],by simp[e1],by simp[e2],by simp,rfl,Nat.le_refl _,by simp⟩
 intro m E t K' hi
 rw[hI]at hi
 obtain⟨e0,e1,e2,e6,rfl,hm,hd⟩:=hi
 have w0:∀i:Nat,0<i→i≤l.length→wr .i64 ((i:Int)-1)=((i-1:Nat):Int):=fun i h1 h2=>by rw[zS (by omega) (by omega)];omega
 have key:(∀y∈l.take m,¬when<y.w)→D_f69_4 F Q (.p (some (u,0))) (.i .i64 id) (.i .i64 when) (.i .i64 m) K':=by
  intro hA
  obtain⟨x,hx⟩:∃x:It,x=⟨id,when,s+1⟩:=⟨_,rfl⟩
  have hins:ins x l=l.take m++x::l.drop m:=by
   have:=zgP (x:=x) (l.take m) (l.drop m) (fun y hy=>?_) (fun y hy=>?_)
   ·rwa [List.take_append_drop]at this
   ·have h1:=hA y hy
    have h2:=hb y (by rw[←hll];exact List.mem_of_mem_take hy)
    rw[hx];unfold It.lt;simp only;omega
   ·have h1:=hd y hy
    rw[hx];unfold It.lt;simp only;omega
  unfold D_f69_4
  refine LitS.start ?_
  intro v1 K2 l2
  have o2:=o1.sub l2.s
  have sg2:=o2.slG
  simp only[←hll]at sg2
  obtain⟨va,c2,sa⟩:=sg2.upto (k:=m) hm
  simp only[zf,zg,zj,Nat.zero_add,zt,o2.r0,zh,YQ,c2]
  have hlt:(l.take m).length=m:=by simp;omega
  refine l2.app It.len3 It.one3 (by omega) sa (by rw[hlt];omega) ?_
  intro v6 K3 l3
  have o3:=o1.sub l3.s
  have r13:=o3.r1
  simp only at r13
  simp only[zf,zg,zj,Nat.zero_add,zt,r13,zh]
  simp[zE,zo,zq,zp]
  rw[show [AV.i .i64 id,.i .i64 when,.i .i64 (s+1)]=x.cells by rw[hx];rfl]
  refine zaX rfl (It.len3 x) (It.one3 x) ?_
  intro v11 K4 o11 s4 f11
  have l4:=l3.mono s4
  have s11:SlG It.cells 3 K4 v11 [x]:=yy (f:=It.cells) It.len3 (by simpa[zm]using o11)
  refine l4.app It.len3 It.one3 (by omega) s11 (by rw[hlt];simp;omega) ?_
  intro v12 K5 l5
  have o5:=o1.sub l5.s
  have sg5:=o5.slG
  simp only[←hll]at sg5
  obtain⟨vb,c5,sb⟩:=sg5.from (k:=m) hm
  simp only[zf,zg,zj,Nat.zero_add,zt,o5.r0,zh,YQ,c5]
  refine l5.app It.len3 It.one3 (by omega) sb (by simp;omega) ?_
  intro v17 K6 l6
  have hfl:[]++zm It.cells (l.take m)++zm It.cells [x]++zm It.cells (l.drop m)=zm It.cells (ins x l):=by
   rw[List.nil_append,←ya,←ya,hins];simp
  have hln:0+(l.take m).length + [x].length+(l.drop m).length=(ins x l).length:=by rw[hins];simp;omega
  rw[hfl,hln]at l6
  have o6:=o1.newH l6
  simp only[zf,zg,zj,Nat.zero_add,yv]
  refine o1.st l6.s (by omega) l6.o.cellsOf ?_
  have o4:=o1.sub l4.s
  have r12:=o2.r1
  have r11:=o1.r1
  simp only at r12 r11
  refine⟨⟨?_,?_,?_,trivial⟩,?_⟩
  ·simp[z8,yB,Xm,r13,r11]
  ·simp[z8,yB,Xm,o5.r0,o1.r0,o.hs.same]
  ·simp[z8,yB,Xm,o5.r0,o3.r0,o.hs.same]
  ·refine⟨_,zu.refl _,hQ _ _ ⟨rfl,v17,?_⟩⟩
   rw[←hll,←hss,←hx]
   exact o6
 unfold D_f69_7
 rw[e0,e1,e2,e6]
 by_cases hm0:m=0
 ·have c:¬(0:Int)<(m:Int):=by omega
  simp only[zf,vQ,c,decide_false,Ze,xv,zX,zB]
  exact key (by simp[hm0])
 ·have c:(0:Int)<(m:Int):=by omega
  have hx:l[m-1]?=some l[m-1]:=List.getElem?_eq_getElem (by omega)
  generalize l[m-1]'(by omega)=y at hx
  obtain⟨b,q,q1,q2,_⟩:=sg.get (F:=F) hx
  have rw_:rdL K' (b,q+1) none=some (.i .i64 y.w):=(q2 K' (yd.refl _)).1 1 (by omega)
  simp only[zf,vQ,c,decide_true,zx,yk,zg,zj,Nat.zero_add,zt,o1.r0,zh,zbB,w0 m (by omega) hm,q1,rw_,zT,zR]
  refine⟨fun hlt=>?_,fun hnl=>?_⟩
  ·rw[hI]
   refine⟨m-1,by omega,by simp[e0],by simp[e1],by simp[e2],by simp,rfl,by omega,?_⟩
   have:l.drop (m-1)=y::l.drop m:=by
    have h9:=List.getElem?_eq_some_iff.1 hx
    rw[List.drop_eq_getElem_cons h9.1,h9.2,show m-1+1=m by omega]
   rw[this]
   intro z hz
   rcases List.mem_cons.1 hz with rfl | hz
   ·exact hlt
   ·exact hd z hz
  ·refine key ?_
   intro z hz
   rw[←hll]at hs
   obtain⟨i,hi⟩:=List.mem_iff_getElem?.1 hz
   have hi1:=(List.getElem?_eq_some_iff.1 hi).1
   rw[List.length_take]at hi1
   have hi2:i<m:=by omega
   rw[List.getElem?_take_of_lt hi2]at hi
   by_cases hie:i=m-1
   ·rw[hie,hx]at hi;cases hi;exact hnl
   ·have h8:=List.getElem?_eq_some_iff.1 hi
    have h9:=List.getElem?_eq_some_iff.1 hx
    have:=(List.pairwise_iff_getElem.1 hs) i (m-1) h8.1 h9.1 (by omega)
    rw[h8.2,h9.2]at this
    unfold It.lt at this
    omega
theorem zfQ (hf:H_f82 F)(o:ROpen L u σ per sv pv ov K)(hl:per.length≤1000000)(id:Int):zd F k_f82 [.p (some (u,0)),.i .i64 id] K fun w K'=>w=.i .i64 ((vM id per).getD (-1))∧K'=K:=by
 refine zr ?_
 intro Q hQ
 apply r_f82 hf.code
 unfold D_f82_1 D_f82_4 D_f82_6
 obtain⟨I,hI⟩:∃I:Nat→Env→Lg→Prop,I=fun m E K'=>∃i:Nat,m+i=per.length∧E 0=.p (some (u,0))∧E 1=.i .i64 id∧E 5=.i .i64 i∧K'=K∧∀j y,j<i→per[j]?=some y→y.1≠id:=⟨_,rfl⟩
 refine zQ I per.length ?_ ?_
 ·rw[hI];exact⟨0,by omega,by simp[zJ],by simp[zJ],by simp,rfl,fun j y h=>by omega⟩
 intro m E t K' hi
 rw[hI]at hi
 obtain⟨i,hm,e0,e1,e5,rfl,hfd⟩:=hi
 have r2:=o.r2
 have sg:=o.slP
 have hlen:=fun X k=>sg.len (F:=F) X k
 unfold D_f82_7
 rw[e0,e1,e5]
 simp only[zf,zg,zj,Nat.zero_add,zt,r2,zh,hlen,y0,zR]
 refine⟨fun hlt=>?_,fun hnl=>?_⟩
 rotate_left
 ·unfold D_f82_3
  refine⟨K',zu.refl _,hQ _ _ ⟨?_,rfl⟩⟩
  rw[VT (fun y hy=>by
   obtain⟨j,hj⟩:=List.mem_iff_getElem?.1 hy
   exact hfd j y (by have:=(List.getElem?_eq_some_iff.1 hj).1;omega) hj)]
  rfl
 have hil:i<per.length:=by omega
 have hx:per[i]?=some per[i]:=List.getElem?_eq_getElem hil
 generalize per[i]=x at hx
 have w1:wr .i64 ((i:Int)+1)=((i+1:Nat):Int):=by rw[zS (by omega) (by omega)];omega
 obtain⟨b,q,q1,q2,_⟩:=sg.get (F:=F) hx
 have ra:rdL K' (b,q) none=some (.i .i64 x.1):=(q2 K' (yd.refl _)).1 0 (by omega)
 have rb:rdL K' (b,q+1) none=some (.i .i64 x.2):=(q2 K' (yd.refl _)).1 1 (by omega)
 simp only[zf,zg,zj,Nat.add_zero,Nat.zero_add,zt,r2,zh,q1,ra,xL,zR]
 refine⟨fun heq=>?_,fun hne=>?_⟩
 ·simp only[zf,zg,zj,Nat.add_zero,Nat.zero_add,zt,r2,zh,q1,rb]
  exact⟨K',zu.refl _,hQ _ _ ⟨by rw[zb6 hx heq hfd];rfl,rfl⟩⟩
 ·simp only[zf,xl,w1]
  rw[hI]
  refine⟨m-1,by omega,i+1,by omega,by simp[e0],by simp[e1],by simp,rfl,fun j y hj hy=>?_⟩
  by_cases h9:j=i
  ·subst h9;rw[hx]at hy;cases hy;exact hne
  ·exact hfd j y (by omega) hy
theorem zdT (hf:H_f68 F)(o:ROpen L u σ per sv pv ov K)(nd:(σ.x.l.map It.id).Nodup)(hl:σ.x.l.length≤1000000)(hp:per.length≤1000000)(id:Int) :
  zd F k_f68 [.p (some (u,0)),.i .i64 id] K fun v K'=>v=.b (yQ id σ.x.l).isSome∧∃sv' pv',ROpen L u { σ with x:=σ.x.stop id } (rmP id per) sv' pv' ov K':=by
 refine zr ?_
 intro Q hQ
 apply r_f68 hf.code
 generalize hE:zJ [AV.p (some (u,0)),.i .i64 id] 0=E
 have e0:E 0=.p (some (u,0)):=by rw[←hE];simp[zJ]
 have e1:E 1=.i .i64 id:=by rw[←hE];simp[zJ]
 clear hE
 unfold D_f68_1 D_f68_2
 have p0:(Env.put E 4 (.b false)) 0=.p (some (u,0)):=by simp[e0]
 have p1:(Env.put E 4 (.b false)) 1=.i .i64 id:=by simp[e1]
 generalize Env.put E 4 (.b false)=E1 at p0 p1
 simp only[zf,p0,p1,zg,zj,Nat.add_zero]
 refine (zge hf.f67 o nd hl id).mono ?_
 rintro _ K2 ⟨rfl,sv',o2⟩
 rw[zfZ]
 simp only[zf,yb,List.getElem?_cons_zero,List.getElem?_cons_succ,zh,xa]
 intro x6 hx6
 rw[yv]
 rw[show (yQ id σ.x.l |>.getD It.zero).av=.agg ((yQ id σ.x.l |>.getD It.zero).cells)from rfl,zw (ze _ _ _) (It.one3 _) (It.len3 _) (by simp),zA]
 generalize zo [AV.i .i64 0,.i .i64 0,.i .i64 0] 0 (yQ id σ.x.l |>.getD It.zero).cells=cs6
 have o3:=o2.sub ((yd.refl K2).put hx6 (.raw (.cells cs6)))
 generalize K2.put x6 (.raw (.cells cs6))=K3 at o3
 clear hx6 x6
 obtain⟨was,hw⟩:∃was,was=(yQ id σ.x.l).isSome:=⟨_,rfl⟩
 rw[←hw]at hQ ⊢
 obtain⟨σ2,h2⟩:∃σ2:Tms,σ2={ σ with x:={ σ.x with l:=yS id σ.x.l } }:=⟨_,rfl⟩
 rw[←h2]at o3
 have q0:(Env.put E1 6 (.b was)) 0=.p (some (u,0)):=by simp[p0]
 have q1:(Env.put E1 6 (.b was)) 1=.i .i64 id:=by simp[p1]
 have q6:(Env.put E1 6 (.b was)) 6=.b was:=by simp
 generalize Env.put E1 6 (.b was)=E2 at q0 q1 q6
 have fin:∀(K':Lg) (pv':AV),ROpen L u σ2 (rmP id per) sv' pv' ov K'→zl (some (.b was)) Q K':=by
  intro K' pv' o'
  refine⟨K',zu.refl _,hQ _ _ ⟨rfl,sv',pv',?_⟩⟩
  rw[h2]at o'
  exact o'.pf _
 unfold D_f68_5 D_f68_7
 obtain⟨I,hI⟩:∃I:Nat→Env→Lg→Prop,I=fun m E K'=>∃i:Nat,m+i=per.length∧E 0=.p (some (u,0))∧E 1=.i .i64 id∧E 6=.b was∧E 7=.i .i64 i∧K'=K3∧∀j y,j<i→per[j]?=some y→y.1≠id:=⟨_,rfl⟩
 refine zQ I per.length ?_ ?_
 ·rw[hI];exact⟨0,by omega,by simp[q0],by simp[q1],by simp[q6],by simp,rfl,fun j y h=>by omega⟩
 intro m E t K' hi
 rw[hI]at hi
 obtain⟨i,hm,e0,e1,e6,e7,rfl,hfd⟩:=hi
 have r2:=o3.r2
 have sg:=o3.slP
 have hlen:=fun X k=>sg.len (F:=F) X k
 unfold D_f68_8
 rw[e0,e1,e6,e7]
 unfold D_f68_4
 simp only[zf,zg,zj,Nat.zero_add,zt,r2,zh,hlen,y0,zR]
 refine⟨fun hlt=>?_,fun hnl=>?_⟩
 rotate_left
 ·refine fin K' pv ?_
  rw[zgG (fun y hy=>by
   obtain⟨j,hj⟩:=List.mem_iff_getElem?.1 hy
   exact hfd j y (by have:=(List.getElem?_eq_some_iff.1 hj).1;omega) hj)]
  exact o3
 have hil:i<per.length:=by omega
 have hx:per[i]?=some per[i]:=List.getElem?_eq_getElem hil
 generalize per[i]=x at hx
 have w1:wr .i64 ((i:Int)+1)=((i+1:Nat):Int):=by rw[zS (by omega) (by omega)];omega
 obtain⟨b,q,g1,g2,_⟩:=sg.get (F:=F) hx
 have ra:rdL K' (b,q) none=some (.i .i64 x.1):=(g2 K' (yd.refl _)).1 0 (by omega)
 simp only[zf,zg,zj,Nat.add_zero,Nat.zero_add,zt,r2,zh,g1,ra,xL,zR]
 refine⟨fun heq=>?_,fun hne=>?_⟩
 ·refine LitS.start ?_
  intro v13 K5 l5
  have o5:=o3.sub l5.s
  obtain⟨va,c2,sa⟩:=o5.slP.upto (k:=i) (by omega)
  simp only[zf,zg,zj,Nat.zero_add,zt,o5.r2,zh,YQ,c2]
  refine l5.app Yc VU (by omega) sa (by simp;omega) ?_
  intro v18 K6 l6
  have o6:=o3.sub l6.s
  obtain⟨vb,c3,sb⟩:=o6.slP.from (k:=i+1) (by omega)
  simp only[zf,zg,zj,Nat.zero_add,zt,o6.r2,zh,xl,w1,YQ,c3]
  refine l6.app Yc VU (by omega) sb (by simp;omega) ?_
  intro v24 K7 l7
  have hat:=zgH hx heq hfd
  have hfl:[]++zm zes (per.take i)++zm zes (per.drop (i+1))=zm zes (rmP id per):=by
   rw[List.nil_append,←ya,hat]
  have hln:0+(per.take i).length+(per.drop (i+1)).length=(rmP id per).length:=by
   rw[hat,List.length_append];omega
  rw[hfl,hln]at l7
  have o8:=o3.newP l7.o (fun r d hr _=>l7.s r d hr) (fun b hb=>.inl (l7.f b hb))
  simp only[zf,zg,zj,Nat.zero_add,yv]
  refine o3.st l7.s (by omega) l7.o.cellsOf ?_
  refine⟨⟨by simp[z8,yB,Xm,o6.r2,o3.r2,o.ps.same],trivial⟩,?_⟩
  exact fin _ v24 o8
 ·simp only[zf,xl,w1]
  rw[hI]
  refine⟨m-1,by omega,i+1,by omega,by simp[e0],by simp[e1],by simp[e6],by simp,rfl,fun j y hj hy=>?_⟩
  by_cases h9:j=i
  ·subst h9;rw[hx]at hy;cases hy;exact hne
  ·exact hfd j y (by omega) hy
end
end
section
variable {F:Nat→Option AFn}
section
variable {L K:Lg} {u:Nat} {σ:Tms} {per:List (Int×Int)} {sv pv ov:AV}
structure RFine (σ:Tms)(per:List (Int×Int))(B:Int):Prop where
 g:XG σ.x B
 b:B<1000000
 p:PerOk per σ.x
theorem RFine.l {B:Int}(h:RFine σ per B):σ.x.l.length<1000000:=by have:=h.g.len;have:=h.b;omega
theorem RFine.pl {B:Int}(h:RFine σ per B):per.length<1000000:=by rw[h.p.len];exact h.l
theorem RFine.q {B:Int}(h:RFine σ per B):0≤σ.x.seq∧σ.x.seq<4611686018427387904:=by have:=h.g.pos;have:=h.g.seq;have:=h.b;omega
theorem ziK (hf:H_f70 F)(o:ROpen L u σ per sv pv ov K){B:Int}(fi:RFine σ per B)(id when period:Int) :
  zd F k_f70 [.p (some (u,0)),.i .i64 id,.i .i64 when,.i .i64 period] K fun v K'=>v=.i .i64 (σ.x.arm id when period).2∧∃per' sv' pv',ROpen L u { σ with x:=(σ.x.arm id when period).1 } per' sv' pv' ov K'∧PerOk per' (σ.x.arm id when period).1:=by
 refine zr ?_
 intro Q hQ
 apply r_f70 hf.code
 unfold D_f70_1
 have bad:zfs when period=true→zl (some (.i .i64 1)) Q K:=fun h=>⟨K,zu.refl _,hQ _ _ ⟨by simp[Xs.arm,h],per,sv,pv,by simpa[Xs.arm,h]using o,by simpa[Xs.arm,h]using fi.p⟩⟩
 by_cases c1:when<0
 ·simp[c1];exact bad (by simp[zfs];omega)
 by_cases c2:4611686018427387904<when
 ·simp[c1,c2];exact bad (by simp[zfs];omega)
 by_cases c3:period<0
 ·simp[c1,c2,c3];exact bad (by simp[zfs];omega)
 by_cases c4:4611686018427387904<period
 ·simp[c1,c2,c3,c4];exact bad (by simp[zfs];omega)
 have hb:zfs when period=false:=by simp[zfs];omega
 simp only[zf,y0,vQ,c1,c2,c3,c4,decide_false,zx,yk,zT,zX,zB]
 have pl:=fi.pl
 have ll:=fi.l
 refine (zdT hf.f68 o fi.g.nd (by omega) (by omega) id).mono ?_
 rintro _ K2 ⟨rfl,sv2,pv2,o2⟩
 simp only[zf,zg,zj,Nat.add_zero]
 have gs:=fi.g.stop id
 have hq:=fi.q
 have hls:(σ.x.stop id).l.length<1000000:=by have:=vw id σ.x.l;simp only[Xs.stop];omega
 refine (hputR hf.f69 o2 gs.sorted gs.below hls hq id when).mono ?_
 rintro _ K3 ⟨rfl,sv3,o3⟩
 simp only[zf,zg,zj,Nat.zero_add,zt,o3.r2,zh]
 simp[zE,zo,zq,zp]
 refine zaX (cs:=zes (id,period)) rfl rfl rfl ?_
 intro v19 K4 o19 s4 f19
 have s19:SlG zes 3 K4 v19 [(id,period)]:=yy (f:=zes) Yc (by simpa[zm]using o19)
 have o4:=o3.sub s4
 have hrl:(rmP id per).length≤per.length:=by
  have:=fi.p.stop fi.g.nd id
  rw[this.len,fi.p.len];exact vw _ _
 refine o4.ps.app Yc VU (by omega) s19 (by simp;omega) ?_
 intro v20 K5 p5 k5 f5
 have o5:=o4.newP (v:=v20) (l:=rmP id per++[(id,period)]) (by rw[ya];simpa using p5) k5 f5
 simp only[zf,zg,zj,Nat.zero_add,yv]
 have kr:K5 u=some (.raw (.cells [sv3,.i .i64 (σ.x.seq+1),pv2,ov,.i .i64 σ.named])):=k5 u _ o4.root (fun h9=>(o4.a2 u h9).1 rfl)
 rw[zH kr (by simp) p5.cellsOf]
 refine⟨_,zu.refl _,hQ _ _ ⟨by simp[Xs.arm,hb],rmP id per++[(id,period)],sv3,v20,?_,?_⟩⟩
 ·simp only[Xs.arm,hb]
  exact o5.pf _
 ·simp only[Xs.arm,hb]
  exact fi.p.armed fi.g.nd id when period
theorem zg6 (a b:Int)(X:Lg)(k:AV→Lg→Prop):za F .min [.i .i64 a,.i .i64 b] X k=k (.i .i64 (min a b)) X:=by simp
theorem zc5 {w p now:Int}(hp:0<p):(if (zy w p (min now 4611686018427387904)).2=0∧now<(zy w p (min now 4611686018427387904)).1 then true else false)=(if (zy w p now).2=0∧now<(zy w p now).1 then true else false)∧((zy w p now).2=0∧now<(zy w p now).1→(zy w p (min now 4611686018427387904)).1=(zy w p now).1):=by
 by_cases h:now≤4611686018427387904
 ·rw[Int.min_eq_left h];exact⟨rfl,fun _=>rfl⟩
 ·rw[Int.min_eq_right (by omega)]
  have h1:zy w p now=(0,1):=by unfold zy;rw[if_pos (by omega)]
  have h2:¬((zy w p 4611686018427387904).2=0∧now<(zy w p 4611686018427387904).1):=by
   intro ⟨_,h3⟩
   unfold zy at h3
   split at h3
   ·simp at h3;omega
   ·split at h3
    ·simp at h3;omega
    ·simp at h3
     unfold zM yx at h3;omega
  rw[if_neg h2,h1]
  simp
theorem zgB (hf:H_f84 F)(o:ROpen L u σ per sv pv ov K){B:Int}(fi:RFine σ per B)(now:Int) :
  zd F k_f84 [.p (some (u,0)),.i .i64 now] K fun v K'=>v=vL (σ.x.take now).2.1 (σ.x.take now).2.2∧∃per' sv' pv',ROpen L u { σ with x:=(σ.x.take now).1 } per' sv' pv' ov K'∧PerOk per' (σ.x.take now).1:=by
 refine zr ?_
 intro Q hQ
 apply r_f84 hf.code
 unfold D_f84_1 D_f84_2
 simp only[zf,xa]
 intro rc hrc
 obtain⟨K1,hK1⟩:∃K1,K1=K.put rc (.raw (.cells [.i .i64 0,.i .i64 0,.i .i64 0])):=⟨_,rfl⟩
 obtain⟨L1,hL1⟩:∃L1,L1=L.put rc (.raw (.cells [.i .i64 0,.i .i64 0,.i .i64 0])):=⟨_,rfl⟩
 have krc:K1 rc=some (.raw (.cells [.i .i64 0,.i .i64 0,.i .i64 0])):=by rw[hK1,ze]
 have nrc:=o.ne hrc
 have o1:ROpen L1 u σ per sv pv ov K1:=by rw[hK1,hL1];exact o.onto hrc _
 have lrc:L1 rc=some (.raw (.cells [.i .i64 0,.i .i64 0,.i .i64 0])):=by rw[hL1,ze]
 have low:∀r d,r≠u→L r=some d→L1 r=some d:=fun r d _ hd=>by
  rw[hL1,zb _ _ _ (by rintro rfl;rw[nrc.2.1]at hd;cases hd)];exact hd
 rw[←hK1]
 have idle:σ.x.take now=(σ.x,(0,0,0),false)→stL 3 K1 (fun _ L22=>zl (yz Env.nil Env.nil L22 [.cell (.c (.p (some (rc,0)))) (some 3),.tmp (.c (.b false))]) Q L22) [.p (some (rc,0)),.agg [.i .i64 0,.i .i64 0,.i .i64 0]]:=by
  intro htk
  rw[zw krc (by simp) (by simp) (by simp),zU _ _ (ze _ _ _) (by simp[zo])]
  refine⟨K,?_,hQ _ _ ⟨by rw[htk];simp[zo,vL],per,sv,pv,by rw[htk];exact o,by rw[htk];exact fi.p⟩⟩
  rw[hK1,zA];exact ((yd.refl K).put hrc _).sees
 have sg:=o1.slG
 have hlen:=fun X k=>sg.len (F:=F) X k
 by_cases c1:now<0
 ·have htk:σ.x.take now=(σ.x,(0,0,0),false):=by
   unfold Xs.take;split
   ·rfl
   ·rw[if_pos (.inl c1)]
  simp[c1,zE]
  exact idle htk
 cases hx:σ.x.l with
 | nil =>
  have htk:σ.x.take now=(σ.x,(0,0,0),false):=by unfold Xs.take;simp[hx]
  have l0:((σ.x.l.length:Nat):Int)=0:=by rw[hx];rfl
  simp only[zf,y0,c1,decide_false,zx,yk,zg,zj,Nat.add_zero,Nat.zero_add,zt,o1.r0,zh,hlen,xL,l0,decide_true,zT,zX]
  simp[zE]
  exact idle htk
 | cons y r =>
  have l0:¬((σ.x.l.length:Nat):Int)=0:=by rw[hx];simp;omega
  have hy:σ.x.l[0]?=some y:=by rw[hx];rfl
  obtain⟨b,q,q1,q2,_⟩:=sg.get (F:=F) hy
  have q1:∀(X:Lg) (k:AV→Lg→Prop),za F (.iad 3) [sv,.i .i64 0] X k=k (.p (some (b,q))) X:=q1
  have rw_:rdL K1 (b,q+1) none=some (.i .i64 y.w):=(q2 K1 (yd.refl _)).1 1 (by omega)
  have rall:=(q2 K1 (yd.refl _)).2
  simp only[zf,y0,vQ,c1,decide_false,zx,yk,zg,zj,Nat.add_zero,Nat.zero_add,zt,o1.r0,zh,hlen,xL,l0,zT,zX,q1,rw_,zR]
  refine⟨fun c2=>?_,fun c2=>?_⟩
  ·have htk:σ.x.take now=(σ.x,(0,0,0),false):=by unfold Xs.take;simp[hx,c2]
   simp[zE]
   exact idle htk
  obtain⟨p,hp,hp1,hp2⟩:=fi.g.per y (by rw[hx];simp)
  have hpo:vM y.id per=some p:=by rw[←fi.p.eq];exact hp
  have hnc:=fun hpp:0<p=>zc5 (w:=y.w) (p:=p) (now:=now) hpp
  have htk:σ.x.take now=(if (zy y.w p now).2=0∧now<(zy y.w p now).1 then ((σ.x.stop y.id).arm y.id (zy y.w p now).1 p).1 else σ.x.stop y.id,(y.id,y.w,now),true):=by
   unfold Xs.take
   simp only[hx,List.head?_cons]
   rw[if_neg (by omega)]
   simp only[hp,Option.getD_some]
  unfold D_f84_3
  simp only[zf,zg,zj,Nat.add_zero,zt,o1.r0,zh,q1,rall,xa]
  intro x7 hx7
  rw[yv,zw (ze _ _ _) (It.one3 y) (It.len3 y) (by simp),zA,show zo [AV.i .i64 0,.i .i64 0,.i .i64 0] 0 y.cells=y.cells by simp[zo,It.cells]]
  obtain⟨K2,hK2⟩:∃K2,K2=K1.put x7 (.raw (.cells y.cells)):=⟨_,rfl⟩
  obtain⟨L2,hL2⟩:∃L2,L2=L1.put x7 (.raw (.cells y.cells)):=⟨_,rfl⟩
  have n7:=o1.ne hx7
  have o2:ROpen L2 u σ per sv pv ov K2:=by rw[hK2,hL2];exact o1.onto hx7 _
  have l7:L2 x7=some (.raw (.cells y.cells)):=by rw[hL2,ze]
  have l2rc:L2 rc=some (.raw (.cells [.i .i64 0,.i .i64 0,.i .i64 0])):=by
   rw[hL2,zb _ _ _ (by rintro rfl;rw[krc]at hx7;cases hx7)];exact lrc
  have low2:∀r d,r≠u→L1 r=some d→L2 r=some d:=fun r d _ hd=>by
   rw[hL2,zb _ _ _ (by rintro rfl;rw[n7.2.1]at hd;cases hd)];exact hd
  rw[←hK2]
  -- what is at the boxes,whatever came
  have c7:∀{σ':Tms} {per':List (Int×Int)} {sv' pv' ov':AV} {K':Lg},ROpen L2 u σ' per' sv' pv' ov' K'→rdL K' (x7,0) none=some (.i .i64 y.id)∧rdL K' (x7,1) none=some (.i .i64 y.w):=by
   intro σ' per' sv' pv' ov' K' o'
   have h:=o'.old x7 _ n7.1 l7
   exact⟨by rw[zk h];rfl,by rw[zk h];rfl⟩
  have fin:∀{σ':Tms} {per':List (Int×Int)} {sv' pv':AV} {K':Lg},ROpen L2 u σ' per' sv' pv' ov K'→σ'={ σ with x:=(σ.x.take now).1 }→PerOk per' (σ.x.take now).1→D_f84_7 F Q (.i .i64 now) (.p (some (rc,0))) (.p (some (x7,0))) K':=by
   intro σ' per' sv' pv' K' o' hσ hpk
   obtain⟨a1,a2⟩:=c7 o'
   unfold D_f84_7
   simp only[zf,zj,Nat.add_zero,Nat.zero_add,zt,a1,a2,zh]
   simp[zE,zo,zq,zp]
   have krc':=o'.old rc _ nrc.1 l2rc
   rw[zw krc' (by simp) (by simp) (by simp),zU _ _ (ze _ _ _) (by simp[zo])]
   have o3:=(o'.below low2).below low
   have f1:slB sv'≠some rc:=fun h9=>by have:=(o'.a1 rc h9).2;rw[l2rc]at this;cases this
   have f2:slB pv'≠some rc:=fun h9=>by have:=(o'.a2 rc h9).2.1;rw[l2rc]at this;cases this
   have f3:slB ov≠some rc:=fun h9=>by have:=(o'.a3 rc h9).2.1;rw[l2rc]at this;cases this
   refine⟨_,zu.refl _,hQ _ _ ⟨by rw[htk];simp[zo,vL],per',sv',pv',?_,hpk⟩⟩
   rw[←hσ]
   exact o3.putX nrc.1 nrc.2.1 f1 f2 f3 _
  unfold D_f84_4
  obtain⟨a1,a2⟩:=c7 o2
  simp only[zf,zj,Nat.add_zero,Nat.zero_add,zt,a1,zh]
  have pl:=fi.pl
  have ll:=fi.l
  refine (zfQ hf.f82 o2 (by omega) y.id).mono ?_
  rintro _ K3 ⟨rfl,hK3⟩
  rw[hK3,hpo,Option.getD_some]
  unfold D_f84_5
  simp only[zf,zj,Nat.add_zero,Nat.zero_add,zt,a1,zh]
  refine (zdT hf.f68 o2 fi.g.nd (by omega) (by omega) y.id).mono ?_
  rintro _ K4 ⟨rfl,sv4,pv4,o4⟩
  obtain⟨a3,a4⟩:=c7 o4
  have pst:=fi.p.stop fi.g.nd y.id
  unfold D_f84_6
  simp only[zf,vQ,zR]
  refine⟨fun hpp=>?_,fun hpp=>?_⟩
  rotate_left
  ·refine fin o4 ?_ ?_
   ·rw[htk,if_neg]
    rintro⟨h1,_⟩
    have:zy y.w p now=(0,1):=by unfold zy;rw[if_pos (by omega)]
    rw[this]at h1;cases h1
   ·rw[htk,if_neg]
    ·exact pst
    ·rintro⟨h1,_⟩
     have:zy y.w p now=(0,1):=by unfold zy;rw[if_pos (by omega)]
     rw[this]at h1;cases h1
  obtain⟨h8,h9⟩:=hnc hpp
  simp only[zf,zj,Nat.add_zero,Nat.zero_add,zt,a4,zh,zg6]
  refine (zc6 hf.f83 _ _ _ _).mono ?_
  rintro _ K5 ⟨rfl,hK5⟩
  rw[hK5]
  generalize hc:zy y.w p (min now 4611686018427387904)=c at h8 h9
  simp only[zf,yb,List.getElem?_cons_zero,List.getElem?_cons_succ,zh]
  by_cases d1:c.2=0
  ·by_cases d2:now<c.1
   ·rw[if_pos ⟨d1,d2⟩]at h8
    have hyes:(zy y.w p now).2=0∧now<(zy y.w p now).1:=by
     by_cases h:(zy y.w p now).2=0∧now<(zy y.w p now).1
     ·exact h
     ·rw[if_neg h]at h8;cases h8
    have hce:=h9 hyes
    rw[if_pos hyes]at htk
    simp only[zf,xL,d1,decide_true,zx,yk,vQ,d2,zT,zZ,zj,Nat.add_zero,zt,a3,zh]
    have fi4:RFine { σ with x:=σ.x.stop y.id } (rmP y.id per) B:=⟨fi.g.stop y.id,fi.b,pst⟩
    refine (ziK hf.f70 o4 fi4 y.id c.1 p).mono ?_
    rintro _ K6 ⟨rfl,per6,sv6,pv6,o6,pk6⟩
    refine fin o6 ?_ ?_
    ·rw[htk,hce]
    ·rw[htk,←hce];exact pk6
   ·have hno:¬((zy y.w p now).2=0∧now<(zy y.w p now).1):=by
     rw[if_neg (fun h=>d2 h.2)]at h8
     intro h;rw[if_pos h]at h8;cases h8
    rw[if_neg hno]at htk
    simp only[zf,xL,d1,decide_true,zx,yk,vQ,d2,decide_false,zT,zB]
    exact fin o4 (by rw[htk]) (by rw[htk];exact pst)
  ·have hno:¬((zy y.w p now).2=0∧now<(zy y.w p now).1):=by
    rw[if_neg (fun h=>d1 h.1)]at h8
    intro h;rw[if_pos h]at h8;cases h8
   rw[if_neg hno]at htk
   simp[d1]
   exact fin o4 (by rw[htk]) (by rw[htk];exact pst)
end
end
section
variable {F:Nat→Option AFn}
def fI (n:Int):List AV:=[.i .i64 n]
theorem Yp (n:Int):(fI n).length=1:=rfl
theorem ze1 (n:Int):(fI n).all AV.one=true:=rfl
theorem Wt.len3 (w:Wt):w.cells.length=3:=rfl
theorem Wt.one3 (w:Wt):w.cells.all AV.one=true:=rfl
theorem vI (w:Wk):w.cells.length=5:=rfl
theorem Un (w:Wk):w.cells.all AV.one=true:=rfl
theorem YR:∀l:List Wk,yp l=zm Wk.cells l
 | []=>rfl
 | w::r=>by simp[yp,zm,YR r]
def crt (x:Ch)(bv sv rv:AV):List AV:=[.i .i64 x.cap,.b x.timed,.b x.signal,.b x.closed,bv,sv,rv]
structure CROpen (L:Lg)(c:Nat)(x:Ch)(bv sv rv:AV)(K:Lg):Prop where
 root:K c=some (.raw (.cells (crt x bv sv rv)))
 bs:OSe K bv (zm fI x.vals) x.vals.length 1
 ss:OSe K sv (zm Wt.cells x.sends) x.sends.length 3
 rs:OSe K rv (zm Wt.cells x.recvs) x.recvs.length 3
 a1:∀b,slB bv=some b→b≠c∧L b=none
 a2:∀b,slB sv=some b→b≠c∧L b=none∧slB bv≠some b
 a3:∀b,slB rv=some b→b≠c∧L b=none∧slB bv≠some b∧slB sv≠some b
 old:∀r d,r≠c→L r=some d→K r=some d
 len:x.recvs.length≤1000000∧x.sends.length≤1000000∧x.vals.length≤1000000
def ZW (c:Nat)(x:Ch)(h:Hp):Prop:=∃bv sv rv M,CROpen Lg.nil c x bv sv rv M∧Sat M h
section
variable {L K:Lg} {c:Nat} {x:Ch} {bv sv rv:AV}
theorem CROpen.ne (o:CROpen L c x bv sv rv K){b:Nat}(hb:K b=none):b≠c∧L b=none∧slB bv≠some b∧slB sv≠some b∧slB rv≠some b:=by
 have h1:b≠c:=by rintro rfl;have:=o.root;rw[hb]at this;cases this
 refine⟨h1,?_,?_,?_,?_⟩
 ·cases h:L b with
  | none=>rfl
  | some d=>rw[o.old b d h1 h]at hb;cases hb
 ·intro h;have:=o.bs.block h;rw[hb]at this;cases this
 ·intro h;have:=o.ss.block h;rw[hb]at this;cases this
 ·intro h;have:=o.rs.block h;rw[hb]at this;cases this
theorem CROpen.shut (o:CROpen L c x bv sv rv K):zu K (L.put c (.abs (ZW c x))):=by
 refine yW (fun b=>b=c∨slB bv=some b∨slB sv=some b∨slB rv=some b) (.inl rfl) ?_ ?_ (.inl ⟨_,o.root⟩) ?_
 ·intro b d hb hd
  simp only[not_or]at hb
  exact o.old b d hb.1 hd
 ·rintro b (rfl | h | h | h) hb
  ·exact absurd rfl hb
  ·exact (o.a1 b h).2
  ·exact (o.a2 b h).2.1
  ·exact (o.a3 b h).2.1
 ·intro M hp hM hN hs
  refine⟨bv,sv,rv,M,⟨?_,o.bs.mono fun b hb=>hM b (.inr (.inl hb)),o.ss.mono fun b hb=>hM b (.inr (.inr (.inl hb))),o.rs.mono fun b hb=>hM b (.inr (.inr (.inr hb))),fun b hb=>⟨(o.a1 b hb).1,rfl⟩,fun b hb=>⟨(o.a2 b hb).1,rfl,(o.a2 b hb).2.2⟩,fun b hb=>⟨(o.a3 b hb).1,rfl,(o.a3 b hb).2.2⟩,fun r d _ hd=>by simp[Lg.nil]at hd,o.len⟩,hs⟩
  rw[hM c (.inl rfl)];exact o.root
theorem vi {f:Nat}{vs:List AV}{Q:AV→Lg→Prop}(e:L c=some (.abs (ZW c x)))(H:∀bv sv rv K,CROpen L c x bv sv rv K→zd F f vs K Q):zd F f vs L Q:=by
 apply yX e
 rintro hm ⟨bv,sv,rv,M,o,hs⟩
 refine⟨M,hs,by rw[o.root];simp,fun hf=>?_⟩
 obtain⟨S,hS⟩:∃S:Nat→Prop,S=fun b=>b=c∨slB bv=some b∨slB sv=some b∨slB rv=some b:=⟨_,rfl⟩
 have hi:∀b d,M b=some d→(M.over L) b=some d:=fun b d h=>by simp[Lg.over,h]
 have sb:∀{v:AV} {cs:List AV} {n z:Nat},OSe M v cs n z→OSe (M.over L) v cs n z:=fun h=>h.sub fun b d _ hd=>hi b d hd
 refine H bv sv rv (M.over L) ⟨hi _ _ o.root,sb o.bs,sb o.ss,sb o.rs,fun b hb=>⟨(o.a1 b hb).1,hf b _ (o.bs.block hb) (o.a1 b hb).1⟩,fun b hb=>⟨(o.a2 b hb).1,hf b _ (o.ss.block hb) (o.a2 b hb).1,(o.a2 b hb).2.2⟩,
  fun b hb=>⟨(o.a3 b hb).1,hf b _ (o.rs.block hb) (o.a3 b hb).1,(o.a3 b hb).2.2⟩,fun r d hr hd=>?_,o.len⟩
 have:M r=none:=by
  cases h:M r with
  | none=>rfl
  | some e=>have:=hf r e h hr;rw[hd]at this;cases this
 simp[Lg.over,this,hd]
theorem CROpen.back (o:CROpen L c x bv sv rv K)(e:L c=some (.abs (ZW c x))):zu K L:=by
 have:=o.shut
 rwa [yc L c _ e]at this
theorem CROpen.sub (o:CROpen L c x bv sv rv K){K':Lg}(h:yd K K'):CROpen L c x bv sv rv K' :=
 ⟨h _ _ o.root,o.bs.sub fun b d _ hd=>h b d hd,o.ss.sub fun b d _ hd=>h b d hd,o.rs.sub fun b d _ hd=>h b d hd,o.a1,o.a2,o.a3,fun r d hr hd=>h r d (o.old r d hr hd),o.len⟩
theorem CROpen.onto (o:CROpen L c x bv sv rv K){b:Nat}(hb:K b=none)(d:LC):CROpen (L.put b d) c x bv sv rv (K.put b d):=by
 obtain⟨n1,n2,n3,n4,n5⟩:=o.ne hb
 have key:∀{r:Nat} {v:AV},slB v=some r→slB v≠some b→(L.put b d) r=L r:=fun {r} {v} h1 h2=>zb _ _ _ (by rintro rfl;exact h2 h1)
 have o':=o.sub ((yd.refl K).put hb d)
 refine⟨o'.root,o'.bs,o'.ss,o'.rs,fun r h=>?_,fun r h=>?_,fun r h=>?_,fun r e hr he=>?_,o.len⟩
 ·rw[key h n3];exact o.a1 r h
 ·rw[key h n4];exact o.a2 r h
 ·rw[key h n5];exact o.a3 r h
 ·rw[Lg.put_apply]at he ⊢
  split
  ·rename_i h9;rw[if_pos h9]at he;exact he
  ·rename_i h9;rw[if_neg h9]at he;exact o.old r e hr he
theorem CROpen.below (o:CROpen L c x bv sv rv K){L0:Lg}(h:∀r d,r≠c→L0 r=some d→L r=some d):CROpen L0 c x bv sv rv K:=by
 have key:∀b,b≠c→L b=none→L0 b=none:=fun b h1 h2=>by
  cases h3:L0 b with
  | none=>rfl
  | some d=>rw[h b d h1 h3]at h2;cases h2
 exact⟨o.root,o.bs,o.ss,o.rs,fun b hb=>⟨(o.a1 b hb).1,key b (o.a1 b hb).1 (o.a1 b hb).2⟩,fun b hb=>⟨(o.a2 b hb).1,key b (o.a2 b hb).1 (o.a2 b hb).2.1,(o.a2 b hb).2.2⟩,
  fun b hb=>⟨(o.a3 b hb).1,key b (o.a3 b hb).1 (o.a3 b hb).2.1,(o.a3 b hb).2.2⟩,fun r d hr hd=>o.old r d hr (h r d hr hd),o.len⟩
theorem CROpen.newB (o:CROpen L c x bv sv rv K){v:AV}{l:List Int}{K1:Lg}(h:LitS K v (zm fI l) l.length 1 K1)(hl:l.length≤1000000):CROpen L c { x with vals:=l } v sv rv (K1.put c (.raw (.cells (crt x v sv rv)))):=by
 have fr:=fun b hb=>o.ne (h.f b hb)
 have kp:∀{b:Nat} {d:LC},b≠c→K b=some d→(K1.put c (.raw (.cells (crt x v sv rv)))) b=some d:=fun {b d} h1 h2=>by rw[zb _ _ _ h1];exact h.s b d h2
 exact⟨ze _ _ _,h.o.mono fun b hb=>zb _ _ _ (fr b hb).1,o.ss.sub fun b d hb hd=>kp (o.a2 b hb).1 hd,o.rs.sub fun b d hb hd=>kp (o.a3 b hb).1 hd,
  fun b hb=>⟨(fr b hb).1,(fr b hb).2.1⟩,fun b hb=>⟨(o.a2 b hb).1,(o.a2 b hb).2.1,fun h9=>(fr b h9).2.2.2.1 hb⟩,fun b hb=>⟨(o.a3 b hb).1,(o.a3 b hb).2.1,fun h9=>(fr b h9).2.2.2.2 hb,(o.a3 b hb).2.2.2⟩,
  fun r d hr hd=>kp hr (o.old r d hr hd),⟨o.len.1,o.len.2.1,hl⟩⟩
theorem CROpen.newR (o:CROpen L c x bv sv rv K){v:AV}{l:List Wt}{K1:Lg}(h:LitS K v (zm Wt.cells l) l.length 3 K1)(hl:l.length≤1000000):CROpen L c { x with recvs:=l } bv sv v (K1.put c (.raw (.cells (crt x bv sv v)))):=by
 have fr:=fun b hb=>o.ne (h.f b hb)
 have kp:∀{b:Nat} {d:LC},b≠c→K b=some d→(K1.put c (.raw (.cells (crt x bv sv v)))) b=some d:=fun {b d} h1 h2=>by rw[zb _ _ _ h1];exact h.s b d h2
 exact⟨ze _ _ _,o.bs.sub fun b d hb hd=>kp (o.a1 b hb).1 hd,o.ss.sub fun b d hb hd=>kp (o.a2 b hb).1 hd,h.o.mono fun b hb=>zb _ _ _ (fr b hb).1,
  o.a1,o.a2,fun b hb=>⟨(fr b hb).1,(fr b hb).2.1,(fr b hb).2.2.1,(fr b hb).2.2.2.1⟩,
  fun r d hr hd=>kp hr (o.old r d hr hd),⟨hl,o.len.2⟩⟩
theorem CROpen.newS (o:CROpen L c x bv sv rv K){v:AV}{l:List Wt}{K1:Lg}(h:LitS K v (zm Wt.cells l) l.length 3 K1)(hl:l.length≤1000000):CROpen L c { x with sends:=l } bv v rv (K1.put c (.raw (.cells (crt x bv v rv)))):=by
 have fr:=fun b hb=>o.ne (h.f b hb)
 have kp:∀{b:Nat} {d:LC},b≠c→K b=some d→(K1.put c (.raw (.cells (crt x bv v rv)))) b=some d:=fun {b d} h1 h2=>by rw[zb _ _ _ h1];exact h.s b d h2
 exact⟨ze _ _ _,o.bs.sub fun b d hb hd=>kp (o.a1 b hb).1 hd,h.o.mono fun b hb=>zb _ _ _ (fr b hb).1,o.rs.sub fun b d hb hd=>kp (o.a3 b hb).1 hd,
  o.a1,fun b hb=>⟨(fr b hb).1,(fr b hb).2.1,(fr b hb).2.2.1⟩,fun b hb=>⟨(o.a3 b hb).1,(o.a3 b hb).2.1,(o.a3 b hb).2.2.1,fun h9=>(fr b h9).2.2.2.2 hb⟩,
  fun r d hr hd=>kp hr (o.old r d hr hd),⟨o.len.1,hl,o.len.2.2⟩⟩
theorem CROpen.closed (o:CROpen L c x bv sv rv K):CROpen L c { x with closed:=true } bv sv rv (K.put c (.raw (.cells (crt { x with closed:=true } bv sv rv)))) :=
 ⟨ze _ _ _,o.bs.mono fun b hb=>zb _ _ _ (o.a1 b hb).1,o.ss.mono fun b hb=>zb _ _ _ (o.a2 b hb).1,o.rs.mono fun b hb=>zb _ _ _ (o.a3 b hb).1,o.a1,o.a2,o.a3,
  fun r d hr hd=>by rw[zb _ _ _ hr];exact o.old r d hr hd,o.len⟩
theorem LitS.nil (K:Lg)(z:Nat):LitS K (.sl none 0 0 0) [] 0 z K:=⟨.inl (OSl.nil K z),yd.refl K,fun b h=>by cases h⟩
theorem CROpen.rd (o:CROpen L c x bv sv rv K)(i:Nat):rdL K (c,i) none=(crt x bv sv rv)[i]?:=zk o.root
theorem CROpen.r0 (o:CROpen L c x bv sv rv K):rdL K (c,0) none=some (.i .i64 x.cap):=o.rd 0
theorem CROpen.r1 (o:CROpen L c x bv sv rv K):rdL K (c,1) none=some (.b x.timed):=o.rd 1
theorem CROpen.r2 (o:CROpen L c x bv sv rv K):rdL K (c,2) none=some (.b x.signal):=o.rd 2
theorem CROpen.r3 (o:CROpen L c x bv sv rv K):rdL K (c,3) none=some (.b x.closed):=o.rd 3
theorem CROpen.r4 (o:CROpen L c x bv sv rv K):rdL K (c,4) none=some bv:=o.rd 4
theorem CROpen.r5 (o:CROpen L c x bv sv rv K):rdL K (c,5) none=some sv:=o.rd 5
theorem CROpen.r6 (o:CROpen L c x bv sv rv K):rdL K (c,6) none=some rv:=o.rd 6
theorem CROpen.sb (o:CROpen L c x bv sv rv K):SlG fI 1 K bv x.vals:=OSe.slG Yp o.bs
theorem CROpen.sS (o:CROpen L c x bv sv rv K):SlG Wt.cells 3 K sv x.sends:=OSe.slG Wt.len3 o.ss
theorem CROpen.sR (o:CROpen L c x bv sv rv K):SlG Wt.cells 3 K rv x.recvs:=OSe.slG Wt.len3 o.rs
theorem CROpen.st (o:CROpen L c x bv sv rv K){K1:Lg}(h:yd K K1){i:Nat}(hi:i<7){w:AV}(hw:w.cellsOf=some [w]){k:AV→Lg→Prop}
  (hk:k .bad (K1.put c (.raw (.cells ((crt x bv sv rv).set i w))))):stL 1 K1 k [.p (some (c,i)),w]:=by
 rw[zH (h _ _ o.root) (by simpa[crt]using hi) hw];exact hk
def Lg.putR (L:Lg)(c:Option Nat)(x:Ch):Lg:=match c with
 | none=>L
 | some c=>L.put c (.abs (ZW c x))
def Lg.hasR (L:Lg)(s:Nat)(c:Option Nat)(x:Ch):Prop:=∀a,c=some a→a≠s∧L a=some (.abs (ZW a x))
theorem zdn (hf:H_f79 F){s:Nat}{c:Option Nat}{x:Ch}(hx:x.timed=true)(h:L.hasR s c x):zd F k_f79 [ptr c] L fun v L'=>v=.b (ZG c x)∧L'=L.putR c x.dropped:=by
 refine zr ?_
 intro Q hQ
 cases c with
 | none =>
  apply r_f79 hf.code
  unfold D_f79_1
  simp[ptr]
  exact⟨L,zu.refl _,hQ _ _ ⟨rfl,rfl⟩⟩
 | some c =>
  have e:=(h c rfl).2
  apply vi e
  intro bv sv rv K o
  apply r_f79 hf.code
  unfold D_f79_1
  have hlen:=fun X k=>o.sb.len (F:=F) X k
  have r1:=o.r1
  rw[hx]at r1
  have fin:∀(b:Bool) (y:Ch) {K':Lg},ZG (some c) x=b→x.dropped=y→zu K' (L.put c (.abs (ZW c y)))→zl (some (.b b)) Q K':=by
   intro b y K' h1 h2 h3
   subst h1 h2
   exact⟨_,h3,hQ _ _ ⟨rfl,rfl⟩⟩
  by_cases hv:(x.vals.length:Int)=0
  ·have hl:x.vals=[]:=List.length_eq_zero_iff.1 (by omega)
   simp[ptr,r1,o.r4,hlen,hl]
   exact fin _ x (by simp[ZG,Ch.left,hl]) (by cases x;simp[Ch.dropped]at hl ⊢;exact hl) o.shut
  ·have hp:0<x.vals.length:=by omega
   simp only[ptr,Option.map_some,zf,wI,zx,yk,zg,zj,Nat.zero_add,zt,r1,zh,yf,Bool.not_true,zX,o.r4,hlen,xL,hv,decide_false,zB,yv]
   refine o.st (yd.refl _) (by omega) rfl ?_
   have o1:=o.newB (l:=[]) (LitS.nil K 1) (by simp)
   exact fin _ { x with vals:=[] } (by simp[ZG,Ch.left,hp]) rfl o1.shut
def Ch.snd (x:Ch)(v:Int):Ch×List Wk×Bool:=match x.recvs with
 | w::ws=>({ x with recvs:=ws },[⟨w.t,w.c,v,true,false⟩],true)
 | []=>if x.vals.length<x.cap then ({ x with vals:=x.vals++[v] },[],true)else (x,[],false)
theorem zcX (hf:H_f85 F)(o:CROpen L c x bv sv rv K)(hl:x.vals.length<1000000)(v:Int):zd F k_f85 [.p (some (c,0)),.i .i64 v] K fun r K'=>∃s,r=.tup [.b (x.snd v).2.2,s] ∧
  xu (L.put c (.abs (ZW c (x.snd v).1))) s (yp (x.snd v).2.1) (x.snd v).2.1.length 5 K':=by
 refine zr ?_
 intro Q hQ
 apply r_f85 hf.code
 unfold D_f85_1 D_f85_2
 have hlen:=fun X k=>o.sR.len (F:=F) X k
 have hlenB:=fun X k=>o.sb.len (F:=F) X k
 cases hr:x.recvs with
 | cons w ws =>
  have hsn:x.snd v=({ x with recvs:=ws },[⟨w.t,w.c,v,true,false⟩],true):=by simp[Ch.snd,hr]
  have hlr:=o.len.1
  rw[hr]at hlr
  simp at hlr
  have c0:(0:Int)<(x.recvs.length:Int):=by rw[hr];simp
  have hx0:x.recvs[0]?=some w:=by rw[hr];rfl
  obtain⟨b,q,q1,q2,_⟩:=o.sR.get (F:=F) hx0
  have rall:=(q2 K (yd.refl _)).2
  have q1':∀(X:Lg) (k:AV→Lg→Prop),za F (.iad 3) [rv,.i .i64 0] X k=k (.p (some (b,q))) X:=q1
  simp only[zf,zg,zj,Nat.zero_add,zt,o.r6,zh,hlen,vQ,c0,decide_true,zZ,q1',rall,xa]
  intro x11 hx11
  rw[yv,zw (ze _ _ _) (Wt.one3 w) (Wt.len3 w) (by simp),zA,zbP]
  have n11:=o.ne hx11
  have o2:=o.onto hx11 (.raw (.cells w.cells))
  have l11:(L.put x11 (.raw (.cells w.cells))) x11=some (.raw (.cells w.cells)):=ze _ _ _
  have low:∀r d,r≠c→L r=some d→(L.put x11 (.raw (.cells w.cells))) r=some d:=fun r d _ hd=>by
   rw[zb _ _ _ (by rintro rfl;rw[n11.2.1]at hd;cases hd)];exact hd
  generalize hK2:K.put x11 (.raw (.cells w.cells))=K2 at o2 ⊢
  generalize L.put x11 (.raw (.cells w.cells))=L2 at o2 l11 low
  refine LitS.start ?_
  intro v13 K3 l3
  have o3:=o2.sub l3.s
  obtain⟨vb,c3,s3⟩:=o3.sR.from (k:=1) (by omega)
  have c3':zaP 3 true false false [rv,.i .i64 1]=some vb:=c3
  simp only[zf,zg,zj,Nat.zero_add,zt,o3.r6,zh,YQ,c3']
  rw[hr]at s3
  simp only[List.drop_succ_cons,List.drop_zero]at s3
  refine l3.app Wt.len3 Wt.one3 (by omega) s3 (by omega) ?_
  intro v18 K4 l4
  have o5:=o2.newR (l:=ws) (by simpa using l4) (by omega)
  simp only[zf,zg,zj,Nat.zero_add,yv]
  refine o2.st l4.s (by omega) l4.o.cellsOf ?_
  have k11:=o5.old x11 _ n11.1 l11
  have e5:(crt x bv sv rv).set 6 v18=crt x bv sv v18:=rfl
  rw[e5]
  generalize K4.put c (.raw (.cells (crt x bv sv v18)))=K5 at o5 k11
  have g0:rdL K5 (x11,0) none=some (.i .i64 w.t):=by rw[zk k11];rfl
  have g1:rdL K5 (x11,1) none=some (.i .i64 w.c):=by rw[zk k11];rfl
  simp only[zf,zj,Nat.zero_add,Nat.add_zero,zt,g0,g1,zh]
  simp[zE,zo,zq,zp]
  rw[yg (c:=Wk.cells ⟨w.t,w.c,v,true,false⟩) _ _ (by simp[y5,zE,zo,zq,zp,Wk.cells,AV.cellsOf]) rfl]
  intro b1 hb1
  have o6:=(o5.below low)
  have n1:=o6.ne hb1
  have o7:=o6.onto hb1 (.raw (.cells (Wk.cells ⟨w.t,w.c,v,true,false⟩)))
  have sh:=o7.shut
  rw[yJ _ n1.1]at sh
  refine⟨_,sh,hQ _ _ ⟨_,by rw[hsn],?_⟩⟩
  rw[hsn]
  exact .inr ⟨b1,0,by rw[zb _ _ _ n1.1];exact n1.2.1,by simp,rfl,rfl,by simp[yp]⟩
 | nil =>
  have c0:¬(0:Int)<(x.recvs.length:Int):=by rw[hr];simp
  simp only[zf,zg,zj,Nat.zero_add,zt,o.r6,zh,hlen,vQ,c0,decide_false,zB]
  unfold D_f85_3
  simp only[zf,zg,zj,Nat.zero_add,Nat.add_zero,zt,o.r4,o.r0,zh,hlenB,y0,zR]
  refine⟨fun hlt=>?_,fun hnl=>?_⟩
  rotate_left
  ·have hsn:x.snd v=(x,[],false):=by simp only[Ch.snd,hr];rw[if_neg (by omega)]
   refine⟨_,o.shut,hQ _ _ ⟨_,by rw[hsn],?_⟩⟩
   rw[hsn]
   exact .inl ⟨rfl,rfl,rfl,rfl⟩
  ·have hsn:x.snd v=({ x with vals:=x.vals++[v] },[],true):=by simp only[Ch.snd,hr];rw[if_pos (by omega)]
   refine LitS.start ?_
   intro v9 K3 l3
   have o3:=o.sub l3.s
   simp only[zf,zg,zj,Nat.zero_add,zt,o3.r4,zh]
   refine l3.app Yp ze1 (by omega) o3.sb (by omega) ?_
   intro v13 K4 l4
   refine new1 rfl ?_
   intro v14 K5 o14 k5 f14
   have s5:yd K4 K5:=fun r d hr'=>k5.none_ hr'
   have s14:SlG fI 1 K5 v14 [v]:=yy (f:=fI) Yp (by simpa[zm,fI]using o14)
   refine (l4.mono s5).app Yp ze1 (by omega) s14 (by simp;omega) ?_
   intro v15 K6 l6
   have o6:=o.newB (l:=x.vals++[v]) (by rw[ya];simpa using l6) (by simp;omega)
   simp only[zf,zg,zj,Nat.zero_add,yv]
   refine o.st l6.s (by omega) l6.o.cellsOf ?_
   refine⟨_,o6.shut,hQ _ _ ⟨_,by rw[hsn],?_⟩⟩
   rw[hsn]
   exact .inl ⟨rfl,rfl,rfl,rfl⟩
theorem zeo (hf:H_f86 F){s:Nat}{c:Option Nat}{x:Ch}(hx:x.timed=true)(hl:x.vals.length≤x.cap)(hc:x.cap<1000000)(h:L.hasR s c x)(now:Int):zd F k_f86 [ptr c,.i .i64 now] L fun v L'=>∃sl,v=.tup [sl,.b (yE c x now).2.2] ∧
  xu (L.putR c (yE c x now).1) sl (yp (yE c x now).2.1) (yE c x now).2.1.length 5 L':=by
 refine zr ?_
 intro Q hQ
 cases c with
 | none =>
  apply r_f86 hf.code
  unfold D_f86_1
  simp[ptr]
  exact⟨L,zu.refl _,hQ _ _ ⟨_,rfl,.inl ⟨rfl,rfl,rfl,rfl⟩⟩⟩
 | some c =>
  have e:=(h c rfl).2
  apply vi e
  intro bv sv rv K o
  apply r_f86 hf.code
  unfold D_f86_1
  have r1:=o.r1
  rw[hx]at r1
  have hps:x.put now=x.snd now:=by
   unfold Ch.put Ch.snd
   rw[if_pos hx]
   cases x.recvs with
   | cons w ws=>rfl
   | nil =>
    by_cases h9:x.vals.length=x.cap
    ·simp[h9]
    ·simp only[h9,if_false];rw[if_pos (by omega)]
  simp only[ptr,Option.map_some,zf,wI,zx,yk,zg,zj,Nat.zero_add,zt,r1,zh,yf,Bool.not_true,zX,zB]
  refine (zcX hf.f85 o (by omega) now).mono ?_
  rintro _ K2 ⟨sl,rfl,hfs⟩
  simp only[zf,yb,List.getElem?_cons_zero,List.getElem?_cons_succ,zh]
  exact⟨K2,zu.refl _,hQ _ _ ⟨sl,by simp only[yE,hps],by simp only[yE,hps,Lg.putR];exact hfs⟩⟩
theorem UZ (hf:H_f99 F){v:AV}{l:List Wt}(hv:SlG Wt.cells 3 K v l)(hl:l.length≤1000000)(task:Int):zd F k_f99 [v,.i .i64 task] K fun r K'=>r=.b (l.any fun y=>!decide (y.t=task))∧K'=K:=by
 refine zr ?_
 intro Q hQ
 apply r_f99 hf.code
 unfold D_f99_1 D_f99_4 D_f99_6
 obtain⟨I,hI⟩:∃I:Nat→Env→Lg→Prop,I=fun m E K'=>∃i:Nat,m+i=l.length∧E 0=v∧E 1=.i .i64 task∧E 5=.i .i64 i∧K'=K∧(l.any fun y=>!decide (y.t=task))=((l.drop i).any fun y=>!decide (y.t=task)):=⟨_,rfl⟩
 refine zQ I l.length ?_ ?_
 ·rw[hI];exact⟨0,by omega,by simp[zJ],by simp[zJ],by simp,rfl,rfl⟩
 intro m E t K' hi
 rw[hI]at hi
 obtain⟨i,hm,e0,e1,e5,rfl,hfd⟩:=hi
 have hlen:=fun X k=>hv.len (F:=F) X k
 unfold D_f99_7
 rw[e0,e1,e5]
 simp only[zf,hlen,y0,zR]
 refine⟨fun hlt=>?_,fun hnl=>?_⟩
 rotate_left
 ·unfold D_f99_3
  exact⟨K',zu.refl _,hQ _ _ ⟨by rw[hfd,List.drop_eq_nil_iff.2 (by omega)];rfl,rfl⟩⟩
 have hil:i<l.length:=by omega
 have hx:l[i]?=some l[i]:=List.getElem?_eq_getElem hil
 have hdr:l.drop i=l[i]::l.drop (i+1):=List.drop_eq_getElem_cons hil
 generalize l[i]=x at hx hdr
 have w1:wr .i64 ((i:Int)+1)=((i+1:Nat):Int):=by rw[zS (by omega) (by omega)];omega
 obtain⟨b,q,q1,q2,_⟩:=hv.get (F:=F) hx
 have ra:rdL K' (b,q) none=some (.i .i64 x.t):=(q2 K' (yd.refl _)).1 0 (by omega)
 rw[hdr]at hfd
 simp only[zf,zj,Nat.add_zero,zt,ra,zh,q1,w7,zR]
 refine⟨fun hne=>?_,fun heq=>?_⟩
 ·exact⟨K',zu.refl _,hQ _ _ ⟨by rw[hfd];simp[hne],rfl⟩⟩
 ·simp only[zf,xl,w1]
  rw[hI]
  have heq':x.t=task:=by simpa using heq
  exact⟨m-1,by omega,i+1,by omega,by simp[e0],by simp[e1],by simp,rfl,by rw[hfd];simp[heq']⟩
theorem VD (hf:H_f100 F)(L:Lg)(w:Wt)(send:Bool):zd F k_f100 [.p none,w.av,.b send] L fun v L'=>v=.i .i64 6∧L'=L:=by
 refine zr ?_
 intro Q hQ
 apply r_f100 hf.code
 unfold D_f100_1 D_f100_5 D_f100_6 D_f100_7 Wt.av
 simp only[zf,ZB]
 rw[zN _ _ _ (Wt.one3 w)]
 intro b0 hb0
 simp only[zf,Z4,Bool.not_false,zZ]
 exact⟨L,((yd.refl L).put hb0 _).sees,hQ _ _ ⟨rfl,rfl⟩⟩
theorem zcO (hf:H_f100 F)(e:L c=some (.abs (ZW c x)))(hs:x.sends=[])(hl:x.recvs.length<1000000)(w:Wt) :
  zd F k_f100 [.p (some (c,0)),w.av,.b false] L fun v L'=>v=.i .i64 (x.waits w false).2∧L'=L.put c (.abs (ZW c (x.waits w false).1)):=by
 refine zr ?_
 intro Q hQ
 apply vi e
 intro bv sv rv K o
 apply r_f100 hf.code
 unfold D_f100_1 Wt.av
 simp only[zf,ZB]
 rw[zN _ _ _ (Wt.one3 w)]
 intro b0 hb0
 have n0:=o.ne hb0
 have o1:=o.onto hb0 (.raw (.cells w.cells))
 have l0:(L.put b0 (.raw (.cells w.cells))) b0=some (.raw (.cells w.cells)):=ze _ _ _
 have low:∀r d,r≠c→L r=some d→(L.put b0 (.raw (.cells w.cells))) r=some d:=fun r d _ hd=>by
  rw[zb _ _ _ (by rintro rfl;rw[n0.2.1]at hd;cases hd)];exact hd
 generalize K.put b0 (.raw (.cells w.cells))=K1 at o1
 generalize L.put b0 (.raw (.cells w.cells))=L1 at o1 l0 low
 have hlenS:=fun X k=>o1.sS.len (F:=F) X k
 have hlenB:=fun X k=>o1.sb.len (F:=F) X k
 have k0:=o1.old b0 _ n0.1 l0
 have g0:rdL K1 (b0,0) none=some (.i .i64 w.t):=by rw[zk k0];rfl
 have fin:∀(n:Int) (y:Ch) {bv' sv' rv':AV} {K':Lg},x.waits w false=(y,n)→CROpen L1 c y bv' sv' rv' K'→zl (some (.i .i64 n)) Q K':=by
  intro n y bv' sv' rv' K' h1 o'
  exact⟨_,(o'.below low).shut,hQ _ _ ⟨by rw[h1],by rw[h1]⟩⟩
 unfold D_f100_5 D_f100_6 D_f100_8 D_f100_9 D_f100_11 D_f100_12
 simp only[zf,wI,zB,Ze,xv,zX,zg,zj,Nat.zero_add,zt,o1.r3,zh]
 cases hc:x.closed with
 | true =>
  simp only[zf,zZ]
  unfold D_f100_13
  exact fin 5 x (by simp[Ch.waits,hc]) o1
 | false =>
  simp only[zf,zB]
  unfold D_f100_16
  simp only[zf,Ze,xv,zX]
  unfold D_f100_17
  simp only[zf,zB,yf,Bool.not_false,zx,yk,zg,zj,Nat.zero_add,zt,o1.r4,zh,hlenB,vQ]
  have any0:(x.sends.any fun y=>!decide (y.t=w.t))=false:=by rw[hs];rfl
  by_cases hv:(0:Int)<(x.vals.length:Int)
  ·simp only[zf,hv,decide_true,Bool.not_false,YJ,xv,zx,zT]
   unfold D_f100_15
   simp only[zf,hv,decide_true,Bool.not_false,zx,zT,zZ]
   refine fin 1 x ?_ o1
   have:0<x.vals.length:=by omega
   simp[Ch.waits,hc,Ch.free,this]
  ·simp only[zf,hv,decide_false,zx,yk,zg,zj,Nat.zero_add,Nat.add_zero,zt,o1.r5,g0,zh,xG]
   refine (UZ hf.f99 o1.sS o1.len.2.1 w.t).mono ?_
   rintro _ K2 ⟨rfl,hK2⟩
   rw[hK2,any0]
   simp only[zf,hv,decide_false,Bool.not_false,zx,zX,zT]
   unfold D_f100_15
   simp only[zf,hv,decide_false,Bool.not_false,zx,zX,zT,zB]
   refine LitS.start ?_
   intro v12 K3 l3
   have o3:=o1.sub l3.s
   simp only[zf,zg,zj,Nat.zero_add,zt,o3.r6,zh]
   refine l3.app Wt.len3 Wt.one3 (by omega) o3.sR (by omega) ?_
   intro v16 K4 l4
   have k4:rdL K4 (b0,0) (some 3)=some (.agg w.cells):=by rw[yj (l4.s _ _ k0) (by simp[Wt.cells])];rfl
   have k1:rdL K1 (b0,0) (some 3)=some (.agg w.cells):=by rw[yj k0 (by simp[Wt.cells])];rfl
   simp only[zf,zt,k4,zh]
   refine U5 rfl (Wt.len3 w) (Wt.one3 w) ?_
   intro v18 K5 o18 s5 f18
   have s18:SlG Wt.cells 3 K5 v18 [w]:=yy (f:=Wt.cells) Wt.len3 (by simpa[zm]using o18)
   refine (l4.mono s5).app Wt.len3 Wt.one3 (by omega) s18 (by simp;omega) ?_
   intro v19 K6 l6
   have o6:=o1.newR (l:=x.recvs++[w]) (by rw[ya];simpa using l6) (by simp;omega)
   simp only[zf,zg,zj,Nat.zero_add,yv]
   refine o1.st l6.s (by omega) l6.o.cellsOf ?_
   refine⟨⟨by simp[z8,yB,Xm,k4,k1,Wt.cells,vk,zaR,YD,wR],trivial⟩,?_⟩
   unfold D_f100_3
   refine fin 0 _ ?_ o6
   have:¬0<x.vals.length:=by omega
   simp[Ch.waits,hc,Ch.free,this,Ch.wait,hs]
def SlV {α:Type}(f:α→List AV)(z:Nat)(K:Lg)(v:AV)(l:List α):Prop:=∃a cap ex,v=.sl a l.length cap ex∧(l=[]∨∃b off cs,a=some (b,off)∧(K b=some (.raw (.cells cs))∨K b=some (.raw (.ro cs)))∧off+l.length * z≤cs.length∧∀(i:Nat) (x:α),l[i]?=some x→(cs.drop (off+i * z)).take z=f x)
theorem SlV.len {α:Type}{f:α→List AV}{z:Nat}{v:AV}{l:List α}(h:SlV f z K v l)(X:Lg)(k:AV→Lg→Prop):za F .lenSl [v] X k=k (.i .i64 l.length) X:=by
 obtain⟨a,cap,ex,rfl,_⟩:=h
 simp
theorem SlV.get {α:Type}{f:α→List AV}{z:Nat}{v:AV}{l:List α}(h:SlV f z K v l){i:Nat}{x:α}(hi:l[i]?=some x):∃b o,(∀(X:Lg) (k:AV→Lg→Prop),za F (.iad z) [v,.i .i64 i] X k=k (.p (some (b,o))) X) ∧
  (∀X:Lg,yd K X→(∀j,j<z→rdL X (b,o+j) none=(f x)[j]?)∧rdL X (b,o) (some z)=some (.agg (f x)))∧K b≠none:=by
 obtain⟨a,cap,ex,rfl,h1 | ⟨b,off,cs,rfl,h2,h6,h3⟩⟩:=h
 ·subst h1;simp at hi
 ·have hl:=(List.getElem?_eq_some_iff.1 hi).1
  have h4:=zgF hl h6
  have h5:=h3 i x hi
  refine⟨b,off+i * z,fun X k=>?_,fun X hX=>?_,?_⟩
  ·rw[yF F X k z b off l.length cap ex .i64 i (by omega) (by omega)]
   simp
  ·rcases h2 with h2 | h2
   ·refine⟨fun j hj=>?_,?_⟩
    ·rw[zk (hX _ _ h2),Xr h5 hj]
    ·rw[yj (hX _ _ h2) h4,h5]
   ·refine⟨fun j hj=>?_,?_⟩
    ·rw[zgJ (hX _ _ h2),Xr h5 hj]
    ·rw[zaT (hX _ _ h2) h4,h5]
  ·rcases h2 with h2 | h2<;>rw[h2]<;>simp
theorem zhY (x y:Wk):zgR x.cells y.cells [(0,1),(1,1),(2,1),(3,0),(4,0)]=some (decide (x=y)):=by
 obtain⟨a,b,d,e,f⟩:=x
 obtain⟨a',b',d',e',f'⟩:=y
 cases e<;>cases e'<;>cases f<;>cases f'<;>by_cases h1:a=a'<;>by_cases h2:b=b'<;>by_cases h3:d=d'<;>simp[Wk.cells,zgR,zdl,V4,h1,h2,h3]
theorem zaI (hf:H_f88 F){a b:AV}{l m:List Wk}(ha:SlV Wk.cells 5 K a l)(hb:SlV Wk.cells 5 K b m)(hl:l.length≤1000000):zd F k_f88 [a,b] K fun v K'=>v=.b (decide (l=m))∧K'=K:=by
 refine zr ?_
 intro Q hQ
 apply r_f88 hf.code
 generalize hE:zJ [a,b] 0=E
 have e0:E 0=a:=by rw[←hE];simp[zJ]
 have e1:E 1=b:=by rw[←hE];simp[zJ]
 clear hE
 have hlenA:=fun X k=>ha.len (F:=F) X k
 have hlenB:=fun X k=>hb.len (F:=F) X k
 unfold D_f88_1 D_f88_2
 have p0:(Env.put E 4 (.b false)) 0=a:=by simp[e0]
 have p1:(Env.put E 4 (.b false)) 1=b:=by simp[e1]
 generalize Env.put E 4 (.b false)=E1 at p0 p1
 simp only[zf,p0,p1,hlenA,hlenB,w7,zR]
 refine⟨fun hne=>?_,fun heq=>?_⟩
 ·refine⟨K,zu.refl _,hQ _ _ ⟨?_,rfl⟩⟩
  have:l≠m:=by rintro rfl;exact hne rfl
  simp[this]
 have hlm:l.length=m.length:=by
  have:¬((l.length:Int)≠(m.length:Int)):=heq
  omega
 unfold D_f88_5 D_f88_7
 obtain⟨I,hI⟩:∃I:Nat→Env→Lg→Prop,I=fun n E K'=>∃i:Nat,n+i=l.length∧E 0=a∧E 1=b∧E 5=.i .i64 i∧K'=K∧∀j,j<i→l[j]?=m[j]?:=⟨_,rfl⟩
 refine zQ I l.length ?_ ?_
 ·rw[hI];exact⟨0,by omega,by simp[p0],by simp[p1],by simp,rfl,fun j h=>by omega⟩
 intro n E t K' hi
 rw[hI]at hi
 obtain⟨i,hm,e0,e1,e5,rfl,hfd⟩:=hi
 unfold D_f88_8
 rw[e0,e1,e5]
 simp only[zf,hlenA,y0,zR]
 refine⟨fun hlt=>?_,fun hnl=>?_⟩
 rotate_left
 ·unfold D_f88_4
  refine⟨K',zu.refl _,hQ _ _ ⟨?_,rfl⟩⟩
  have:l=m:=by
   apply List.ext_getElem?
   intro j
   by_cases hj:j<i
   ·exact hfd j hj
   ·rw[List.getElem?_eq_none (by omega),List.getElem?_eq_none (by omega)]
  simp[this]
 have hil:i<l.length:=by omega
 have hx:l[i]?=some l[i]:=List.getElem?_eq_getElem hil
 have hy:m[i]?=some (m[i]'(by omega)):=List.getElem?_eq_getElem (by omega)
 generalize l[i]=x at hx
 generalize m[i]'(by omega)=y at hy
 have w1:wr .i64 ((i:Int)+1)=((i+1:Nat):Int):=by rw[zS (by omega) (by omega)];omega
 obtain⟨b1,q1,g1,g2,_⟩:=ha.get (F:=F) hx
 obtain⟨b2,q2,g3,g4,_⟩:=hb.get (F:=F) hy
 simp only[zf,g1,zt,(g2 K' (yd.refl _)).2,g3,(g4 K' (yd.refl _)).2,zh,zfN,zhY,Option.map_some]
 by_cases hxy:x=y
 ·simp only[hxy,decide_true,bne_self_eq_false,zB,zf,xl,w1]
  rw[hI]
  refine⟨n-1,by omega,i+1,by omega,by simp[e0],by simp[e1],by simp,rfl,fun j hj=>?_⟩
  by_cases h9:j=i
  ·subst h9;rw[hx,hy,hxy]
  ·exact hfd j (by omega)
 ·have:(decide (x=y) != true)=true:=by simp[hxy]
  rw[this]
  simp only[zZ]
  refine⟨K',zu.refl _,hQ _ _ ⟨?_,rfl⟩⟩
  have:l≠m:=by rintro rfl;rw[hx]at hy;cases hy;exact hxy rfl
  simp[this]
end
end
section
variable {F:Nat→Option AFn}
theorem Uo (w:On):w.cells.length=4:=rfl
theorem zbu (w:On):w.cells.all AV.one=true:=w.cells_one
def Yz (u:Nat)(σ:Tms)(h:Hp):Prop:=∃per sv pv ov M,ROpen Lg.nil u σ per sv pv ov M∧PerOk per σ.x∧Sat M h
section
variable {L K:Lg} {u:Nat} {σ:Tms} {per:List (Int×Int)} {sv pv ov:AV}
theorem ROpen.shut (o:ROpen L u σ per sv pv ov K)(pk:PerOk per σ.x):zu K (L.put u (.abs (Yz u σ))):=by
 refine yW (fun b=>b=u∨slB sv=some b∨slB pv=some b∨slB ov=some b) (.inl rfl) ?_ ?_ (.inl ⟨_,o.root⟩) ?_
 ·intro b d hb hd
  simp only[not_or]at hb
  exact o.old b d hb.1 hd
 ·rintro b (rfl | h | h | h) hb
  ·exact absurd rfl hb
  ·exact (o.a1 b h).2
  ·exact (o.a2 b h).2.1
  ·exact (o.a3 b h).2.1
 ·intro M hp hM hN hs
  refine⟨per,sv,pv,ov,M,⟨?_,o.hs.mono fun b hb=>hM b (.inr (.inl hb)),o.ps.mono fun b hb=>hM b (.inr (.inr (.inl hb))),o.os.mono fun b hb=>hM b (.inr (.inr (.inr hb))),fun b hb=>⟨(o.a1 b hb).1,rfl⟩,fun b hb=>⟨(o.a2 b hb).1,rfl,(o.a2 b hb).2.2⟩,fun b hb=>⟨(o.a3 b hb).1,rfl,(o.a3 b hb).2.2⟩,fun r d _ hd=>by simp[Lg.nil]at hd⟩,pk,hs⟩
  rw[hM u (.inl rfl)];exact o.root
theorem wt {f:Nat}{vs:List AV}{Q:AV→Lg→Prop}(e:L u=some (.abs (Yz u σ)))(H:∀per sv pv ov K,ROpen L u σ per sv pv ov K→PerOk per σ.x→zd F f vs K Q):zd F f vs L Q:=by
 apply yX e
 rintro hm ⟨per,sv,pv,ov,M,o,pk,hs⟩
 refine⟨M,hs,by rw[o.root];simp,fun hf=>?_⟩
 have hi:∀b d,M b=some d→(M.over L) b=some d:=fun b d h=>by simp[Lg.over,h]
 have sb:∀{v:AV} {cs:List AV} {n z:Nat},OSe M v cs n z→OSe (M.over L) v cs n z:=fun h=>h.sub fun b d _ hd=>hi b d hd
 refine H per sv pv ov (M.over L) ⟨hi _ _ o.root,sb o.hs,sb o.ps,o.os.sub fun b d _ hd=>hi b d hd,fun b hb=>⟨(o.a1 b hb).1,hf b _ (o.hs.block hb) (o.a1 b hb).1⟩,fun b hb=>⟨(o.a2 b hb).1,hf b _ (o.ps.block hb) (o.a2 b hb).1,(o.a2 b hb).2.2⟩,
  fun b hb=>⟨(o.a3 b hb).1,hf b _ (o.os.block hb) (o.a3 b hb).1,(o.a3 b hb).2.2⟩,fun r d hr hd=>?_⟩ pk
 have:M r=none:=by
  cases h:M r with
  | none=>rfl
  | some e=>have:=hf r e h hr;rw[hd]at this;cases this
 simp[Lg.over,this,hd]
theorem ROpen.back (o:ROpen L u σ per sv pv ov K)(pk:PerOk per σ.x)(e:L u=some (.abs (Yz u σ))):zu K L:=by
 have:=o.shut pk
 rwa [yc L u _ e]at this
theorem ROpen.putOld (o:ROpen L u σ per sv pv ov K){b:Nat}(h1:b≠u){d0:LC}(h2:L b=some d0)(d:LC):ROpen (L.put b d) u σ per sv pv ov (K.put b d):=by
 have ne:∀{r:Nat},L r=none→r≠b:=fun hr=>by rintro rfl;rw[h2]at hr;cases hr
 have e1:=fun r hr=>ne (o.a1 r hr).2
 have e2:=fun r hr=>ne (o.a2 r hr).2.1
 have e3:=fun r hr=>ne (o.a3 r hr).2.1
 refine⟨by rw[zb _ _ _ (Ne.symm h1)];exact o.root,o.hs.mono fun r hr=>zb _ _ _ (e1 r hr),o.ps.mono fun r hr=>zb _ _ _ (e2 r hr),o.os.mono fun r hr=>zb _ _ _ (e3 r hr),
  fun r hr=>by rw[zb _ _ _ (e1 r hr)];exact o.a1 r hr,fun r hr=>by rw[zb _ _ _ (e2 r hr)];exact o.a2 r hr,fun r hr=>by rw[zb _ _ _ (e3 r hr)];exact o.a3 r hr,fun r e hr he=>?_⟩
 rw[Lg.put_apply]at he ⊢
 split
 ·rename_i h9;rw[if_pos h9]at he;exact he
 ·rename_i h9;rw[if_neg h9]at he;exact o.old r e hr he
theorem ROpen.newO (o:ROpen L u σ per sv pv ov K){v:AV}{l:List On}{K1:Lg}(h1:OSl K1 v (zm On.cells l) l.length 4)(h2:Yy (slB ov) K K1)(h3:∀b,slB v=some b→K b=none∨slB ov=some b) :
  ROpen L u { σ with ones:=l } per sv pv v (K1.put u (.raw (.cells [sv,.i .i64 σ.x.seq,pv,v,.i .i64 σ.named]))):=by
 have fr:∀b,slB v=some b→b≠u∧L b=none∧slB sv≠some b∧slB pv≠some b:=fun b hb=>by
  rcases h3 b hb with h | h
  ·have:=o.ne h;exact⟨this.1,this.2.1,this.2.2.1,this.2.2.2.1⟩
  ·exact o.a3 b h
 have kp:∀{b:Nat} {d:LC},b≠u→slB ov≠some b→K b=some d→(K1.put u (.raw (.cells [sv,.i .i64 σ.x.seq,pv,v,.i .i64 σ.named]))) b=some d:=fun {b d} g1 g2 g3=>by rw[zb _ _ _ g1];exact h2 b d g3 g2
 exact⟨ze _ _ _,o.hs.sub fun b d hb hd=>kp (o.a1 b hb).1 (fun h9=>(o.a3 b h9).2.2.1 hb) hd,o.ps.sub fun b d hb hd=>kp (o.a2 b hb).1 (fun h9=>(o.a3 b h9).2.2.2 hb) hd,h1.mono fun b hb=>zb _ _ _ (fr b hb).1,
  o.a1,o.a2,fr,fun r d hr hd=>kp hr (fun h9=>by have:=(o.a3 r h9).2.1;rw[hd]at this;cases this) (o.old r d hr hd)⟩
theorem zcp (hf:H_f78 F)(o:ROpen L u σ per sv pv ov K)(id:Int):zd F k_f78 [.p (some (u,0)),.i .i64 id] K fun v K'=>v=.b (σ.has id)∧K'=K:=by
 refine zr ?_
 intro Q hQ
 apply r_f78 hf.code
 unfold D_f78_1
 have hlen:=fun X k=>o.slO.len (F:=F) X k
 have fin:∀b:Bool,σ.has id=b→zl (some (.b b)) Q K:=fun b h=>⟨K,zu.refl _,hQ _ _ ⟨by rw[h],rfl⟩⟩
 by_cases h:0≤id
 ·simp only[zf,vK,ge_iff_le,h,decide_true,zx,yk,zg,zj,Nat.zero_add,zt,o.r3,zh,hlen,y0,zT]
  exact fin _ (by simp[Tms.has,h])
 ·simp[h]
  exact fin _ (by simp[Tms.has,h])
theorem OSe.osl {v:AV}{cs:List AV}{n size:Nat}(h:OSe K v cs n size)(hn:0<n):OSl K v cs n size:=by
 rcases h with h | ⟨h1,_⟩
 ·exact h
 ·omega
theorem zib {B:Int}(fi:RFine σ per B)(ho:σ.ones.length<1000000)(o:ROpen L u σ per sv pv ov K)(w:On){k:AV→Lg→Prop}
  (hk:∀v K1,v.cellsOf=some [v]→ROpen L u { σ with ones:=σ.ones++[w] } per sv pv v (K1.put u (.raw (.cells [sv,.i .i64 σ.x.seq,pv,v,.i .i64 σ.named])))→K1 u=some (.raw (.cells [sv,.i .i64 σ.x.seq,pv,ov,.i .i64 σ.named]))→k v K1) :
  za F (.bslice [.i .i64 0,.i .i64 0,.p none,.i .i64 0] 1 4 [0]) [.agg w.cells] K fun v5 L5=>za F (.app 4 32) [ov,v5] L5 k:=by
 refine U5 (cs:=w.cells) rfl (Uo w) (zbu w) ?_
 intro v5 K4 o5 s4 f5
 have s5:SlG On.cells 4 K4 v5 [w]:=yy (f:=On.cells) Uo (by simpa[zm]using o5)
 have o4:=o.sub s4
 refine OSe.app (v:=ov) Uo zbu (by omega) (.inl o4.os) s5 (by simp;omega) ?_
 intro v6 K5 p6 k6 f6
 have os6:OSl K5 v6 (zm On.cells (σ.ones++[w])) (σ.ones++[w]).length 4:=by rw[ya];simpa using p6.osl (by simp)
 have o6:=o4.newO os6 k6 f6
 exact hk v6 K5 os6.cellsOf o6 (k6 u _ o4.root (fun h9=>(o4.a3 u h9).1 rfl))
end
end
section
variable {F:Nat→Option AFn}
section
variable {L K:Lg} {u:Nat} {σ:Tms} {per:List (Int×Int)} {sv pv ov:AV}
structure TFine (σ:Tms)(B:Int):Prop where
 g:XG σ.x B
 b:B<1000000
 o:σ.ones.length<1000000
 n:0≤σ.named
theorem TFine.r {B:Int}(h:TFine σ B)(pk:PerOk per σ.x):RFine σ per B:=⟨h.g,h.b,pk⟩
theorem TFine.ll {B:Int}(h:TFine σ B):σ.x.l.length<1000000:=by have:=h.g.len;have:=h.b;omega
theorem zeD {w:On}{now d:Int}(h:(σ.make w now d).2.2=0):(σ.make w now d).2.1=σ.ones.length∧(σ.make w now d).1.ones=σ.ones++[{ w with gen:=w.gen+1 }]:=by
 simp only[Tms.make]at h ⊢
 split at h
 ·simp at h
 ·rename_i h1
  split at h
  ·simp at h
  ·rename_i h2
   rw[if_neg h1,if_neg h2]
   simp[Tms.armed]
theorem zaY (when:Int):zM 0 (max when 0)=max (zM when 0) 0:=by unfold zM yx;omega
theorem za0 (hf:H_f77 F)(e:L u=some (.abs (Yz u σ))){B:Int}(fi:TFine σ B)(when ctx:Int) :
  zd F k_f77 [.p (some (u,0)),.i .i64 when,.i .i64 ctx] L fun v L'=>v=.tup [.i .i64 (σ.make ⟨4,ctx,none,0⟩ 0 when).2.1,.i .i64 (σ.make ⟨4,ctx,none,0⟩ 0 when).2.2]∧L'=L.put u (.abs (Yz u (σ.make ⟨4,ctx,none,0⟩ 0 when).1)):=by
 refine zr ?_
 intro Q hQ
 apply wt e
 intro per sv pv ov K o pk
 apply r_f77 hf.code
 unfold D_f77_1
 have hbn:zdI 0=false:=by simp[zdI]
 simp only[zf,y0,zR]
 refine⟨fun c1=>?_,fun c1=>?_⟩
 ·have hm:σ.make ⟨4,ctx,none,0⟩ 0 when=(σ,0,1):=by simp[Tms.make,c1]
  exact⟨_,o.shut pk,hQ _ _ ⟨by rw[hm],by rw[hm]⟩⟩
 have hm:σ.make ⟨4,ctx,none,0⟩ 0 when=({ σ with ones:=σ.ones++[(⟨4,ctx,none,0⟩:On)] }.armed σ.ones.length ⟨4,ctx,none,0⟩ 0 when,(σ.ones.length:Int),0):=by
  simp only[Tms.make]
  rw[if_neg (by simp[hbn];omega),if_neg (by simp),if_pos trivial]
 simp only[zf,zg,zj,Nat.zero_add,zt,o.r3,zh]
 have hb:∀k:AV→Lg→Prop,za F (.build [.i .i64 0,.i .i64 0,.p none,.i .i64 0] [(0,1),(1,1),(3,1)]) [.i .i64 4,.i .i64 ctx,.i .i64 1] K k=k (.agg (On.cells ⟨4,ctx,none,1⟩)) K:=by
  intro k;simp[zE,zo,zq,zp,On.cells,ptr]
 rw[hb]
 refine zib (fi.r pk) fi.o o ⟨4,ctx,none,1⟩ ?_
 intro v6 K5 hv6 o6 kr
 simp only[zf,zg,zj,Nat.zero_add,yv]
 rw[zH kr (by simp) hv6]
 simp only[List.set_cons_succ,List.set_cons_zero]
 generalize K5.put u (.raw (.cells [sv,.i .i64 σ.x.seq,pv,v6,.i .i64 σ.named]))=K6 at o6
 have hlen:=fun X k=>o6.slO.len (F:=F) X k
 have ho:=fi.o
 have wl:wr .i64 (((σ.ones++[(⟨4,ctx,none,1⟩:On)]).length:Int)-1)=(σ.ones.length:Int):=by simp only[List.length_append,List.length_cons,List.length_nil];rw[zS (by omega) (by omega)];omega
 simp only[zf,zg,zj,Nat.zero_add,Nat.add_zero,zt,o6.r3,zh,hlen,zbB,wl]
 refine (Vj hf.f63 _ _).mono ?_
 rintro _ K7 ⟨rfl,hK7⟩
 rw[hK7]
 have fi6:RFine { σ with ones:=σ.ones++[(⟨4,ctx,none,1⟩:On)] } per B:=⟨fi.g,fi.b,pk⟩
 refine (ziK hf.f70 o6 fi6 _ _ _).mono ?_
 rintro _ K8 ⟨rfl,per',sv',pv',o8,pk8⟩
 simp only[←zaY,wl]at o8 pk8
 refine⟨_,o8.shut pk8,hQ _ _ ⟨by rw[hm,wl],?_⟩⟩
 rw[hm]
 have e1:(σ.ones++[(⟨4,ctx,none,0⟩:On)]).set σ.ones.length ⟨4,ctx,none,0+1⟩=σ.ones++[(⟨4,ctx,none,1⟩:On)]:=by simp
 simp only[Tms.armed,e1]
 rw[if_neg (by omega)]
theorem zcT (hf:H_f80 F)(o:ROpen L u σ per sv pv ov K)(pk:PerOk per σ.x){B:Int}(fi:TFine σ B)(id:Int){w:On}(ho:σ.one id=some w){x:Ch}(hx:x.timed=true)(hc:L.hasR u w.c x) :
  zd F k_f80 [.p (some (u,0)),.i .i64 id] K fun v K'=>v=.tup [.b (ZG w.c x||(yQ id σ.x.l).isSome),.i .i64 0]∧∃sv' pv',ROpen (L.putR w.c x.dropped) u { σ with x:=σ.x.stop id } (rmP id per) sv' pv' ov K':=by
 refine zr ?_
 intro Q hQ
 obtain⟨i,rfl,hi,hw,hh⟩:=zce ho
 apply r_f80 hf.code
 unfold D_f80_1
 refine (zcp hf.f78 o _).mono ?_
 rintro _ K1 ⟨rfl,hK1⟩
 rw[hK1,hh]
 simp only[zf,yf,Bool.not_true,zB,zg,zj,Nat.add_zero]
 have ll:=fi.ll
 have pl:=(fi.r pk).pl
 refine (zdT hf.f68 o fi.g.nd (by omega) (by omega) _).mono ?_
 rintro _ K2 ⟨rfl,sv',pv',o2⟩
 obtain⟨b,q,q1,q2,_⟩:=o2.slO.get (F:=F) (show ({ σ with x:=σ.x.stop i }:Tms).ones[i]?=some w from hw)
 have r2:rdL K2 (b,q+2) none=some (ptr w.c):=(q2 K2 (yd.refl _)).1 2 (by omega)
 simp only[zf,zg,zj,Nat.zero_add,zt,o2.r3,zh,q1,r2]
 have hc2:K2.hasR u w.c x:=fun a ha=>⟨(hc a ha).1,o2.old a _ (hc a ha).1 (hc a ha).2⟩
 refine (zdn hf.f79 hx hc2).mono ?_
 rintro _ K3 ⟨rfl,hK3⟩
 have o3:ROpen (L.putR w.c x.dropped) u { σ with x:=σ.x.stop i } (rmP i per) sv' pv' ov K3:=by
  rw[hK3]
  cases hcc:w.c with
  | none=>exact o2
  | some a=>exact o2.putOld (hc a hcc).1 (hc a hcc).2 _
 cases hfi:(yQ (i:Int) σ.x.l).isSome with
 | true =>
  simp only[zf,YJ,xv,zT]
  exact⟨K3,zu.refl _,hQ _ _ ⟨by rw[hfi];simp,sv',pv',o3⟩⟩
 | false =>
  simp only[zf,zx,yk,zX]
  exact⟨K3,zu.refl _,hQ _ _ ⟨by rw[hfi];simp,sv',pv',o3⟩⟩
theorem zcU (hf:H_f80 F)(e:L u=some (.abs (Yz u σ)))(id:Int)(ho:σ.one id=none) :
  zd F k_f80 [.p (some (u,0)),.i .i64 id] L fun v L'=>v=.tup [.b false,.i .i64 4]∧L'=L:=by
 refine zr ?_
 intro Q hQ
 apply wt e
 intro per sv pv ov K o pk
 apply r_f80 hf.code
 unfold D_f80_1
 refine (zcp hf.f78 o _).mono ?_
 rintro _ K1 ⟨rfl,hK1⟩
 rw[hK1,zcd ho]
 simp only[zf,yf,Bool.not_false,zZ]
 exact⟨L,o.back pk e,hQ _ _ ⟨rfl,rfl⟩⟩
theorem zep {c:Option Nat}{x:Ch}(h:∀a,c=some a→a≠u)(d:LC):(L.putR c x).put u d=(L.put u d).putR c x:=by
 cases c with
 | none=>rfl
 | some a=>exact yJ _ (h a rfl) _ _
theorem zcS (hf:H_f80 F)(e:L u=some (.abs (Yz u σ))){B:Int}(fi:TFine σ B)(id:Int){w:On}(ho:σ.one id=some w){x:Ch}(hx:x.timed=true)(hc:L.hasR u w.c x) :
  zd F k_f80 [.p (some (u,0)),.i .i64 id] L fun v L'=>v=.tup [.b (ZG w.c x||(yQ id σ.x.l).isSome),.i .i64 0]∧L'=(L.put u (.abs (Yz u { σ with x:=σ.x.stop id }))).putR w.c x.dropped:=by
 apply wt e
 intro per sv pv ov K o pk
 refine (zcT hf o pk fi id ho hx hc).sees ?_
 rintro _ K' ⟨rfl,sv',pv',o'⟩
 refine⟨_,o'.shut (pk.stop fi.g.nd id),rfl,?_⟩
 exact zep (fun a ha=>(hc a ha).1) _
end
end
section
variable {F:Nat→Option AFn}
section
variable {L K:Lg} {u:Nat} {σ:Tms} {per:List (Int×Int)} {sv pv ov:AV}
theorem zdh (hf:H_f87 F)(e:L u=some (.abs (Yz u σ))){B:Int}(fi:TFine σ B)(now:Int)(hk:(σ.x.take now).2.2=false) :
  zd F k_f87 [.p (some (u,0)),.i .i64 now] L fun v L'=>v=.tup [X5 0 0 0 0 0 (.sl none 0 0 0) false,.b false]∧L'=L:=by
 refine zr ?_
 intro Q hQ
 apply wt e
 intro per sv pv ov K o pk
 apply r_f87 hf.code
 unfold D_f87_1 D_f87_2
 simp only[zf,xa]
 intro x4 hx4
 have n4:=o.ne hx4
 obtain⟨K1,hK1⟩:∃K1,K1=K.put x4 (.raw (.cells [.i .i64 0,.i .i64 0,.i .i64 0,.i .i64 0,.i .i64 0,.sl none 0 0 0,.b false])):=⟨_,rfl⟩
 obtain⟨L1,hL1⟩:∃L1,L1=L.put x4 (.raw (.cells [.i .i64 0,.i .i64 0,.i .i64 0,.i .i64 0,.i .i64 0,.sl none 0 0 0,.b false])):=⟨_,rfl⟩
 have o1:ROpen L1 u σ per sv pv ov K1:=by rw[hK1,hL1];exact o.onto hx4 _
 have l4:L1 x4=some (.raw (.cells [.i .i64 0,.i .i64 0,.i .i64 0,.i .i64 0,.i .i64 0,.sl none 0 0 0,.b false])):=by rw[hL1,ze]
 have low:∀r d,r≠u→L r=some d→L1 r=some d:=fun r d _ hd=>by
  rw[hL1,zb _ _ _ (by rintro rfl;rw[n4.2.1]at hd;cases hd)];exact hd
 rw[←hK1]
 simp only[zf,zg,zj,Nat.add_zero]
 refine (zgB hf.f84 o1 (fi.r pk) now).mono ?_
 rintro _ K2 ⟨rfl,per',sv',pv',o2,pk2⟩
 have hx:(σ.x.take now).1=σ.x∧(σ.x.take now).2.1=(0,0,0):=by
  unfold Xs.take at hk ⊢
  split
  ·exact⟨rfl,rfl⟩
  ·rename_i y hy
   rw[hy]at hk
   simp only at hk
   split
   ·exact⟨rfl,rfl⟩
   ·rename_i h9;rw[if_neg h9]at hk;simp at hk
 rw[hx.1]at o2 pk2
 rw[hk,hx.2]
 simp only[zf,vL,yb,List.getElem?_cons_zero,List.getElem?_cons_succ,zh,xa]
 intro x6 hx6
 rw[yv,zw (ze _ _ _) (by simp) (by simp) (by simp),zA]
 have o3:=o2.sub ((yd.refl K2).put hx6 (.raw (.cells (zo [.i .i64 0,.i .i64 0,.i .i64 0] 0 [.i .i64 0,.i .i64 0,.i .i64 0]))))
 generalize K2.put x6 (.raw (.cells (zo [.i .i64 0,.i .i64 0,.i .i64 0] 0 [.i .i64 0,.i .i64 0,.i .i64 0])))=K3 at o3
 unfold D_f87_3
 simp[zE]
 have k4:=o3.old x4 _ n4.1 l4
 rw[zw k4 (by simp) (by simp) (by simp),zU _ _ (ze _ _ _) (by simp[zo])]
 have o5:=o3.below low
 have f1:slB sv'≠some x4:=fun h9=>by have:=(o3.a1 x4 h9).2;rw[l4]at this;cases this
 have f2:slB pv'≠some x4:=fun h9=>by have:=(o3.a2 x4 h9).2.1;rw[l4]at this;cases this
 have f3:slB ov≠some x4:=fun h9=>by have:=(o3.a3 x4 h9).2.1;rw[l4]at this;cases this
 refine⟨_,(o5.putX n4.1 n4.2.1 f1 f2 f3 _).back pk2 e,hQ _ _ ⟨?_,rfl⟩⟩
 simp[zo,X5]
theorem zdg (hf:H_f87 F)(e:L u=some (.abs (Yz u σ))){B:Int}(fi:TFine σ B)(now:Int){x':Xs}{id when:Int}(tk:σ.x.take now=(x',(id,when,now),true))
  {w:On} (ho:σ.one id=some w) {x:Ch} (hx:x.timed=true) (hl:x.vals.length≤x.cap) (hcp:x.cap<1000000) (hc:L.hasR u w.c x) :
  zd F k_f87 [.p (some (u,0)),.i .i64 now] L fun v L'=>∃sl,v=.tup [X5 id w.kind when now w.data sl (yE w.c x now).2.2,.b true] ∧
   xu ((L.put u (.abs (Yz u { σ with x:=x' }))).putR w.c (yE w.c x now).1) sl (yp (yE w.c x now).2.1) (yE w.c x now).2.1.length 5 L':=by
 refine zr ?_
 intro Q hQ
 obtain⟨i,rfl,hi,hw,hh⟩:=zce ho
 apply wt e
 intro per sv pv ov K o pk
 apply r_f87 hf.code
 unfold D_f87_1 D_f87_2
 simp only[zf,xa]
 intro x4 hx4
 have n4:=o.ne hx4
 obtain⟨K1,hK1⟩:∃K1,K1=K.put x4 (.raw (.cells [.i .i64 0,.i .i64 0,.i .i64 0,.i .i64 0,.i .i64 0,.sl none 0 0 0,.b false])):=⟨_,rfl⟩
 obtain⟨L1,hL1⟩:∃L1,L1=L.put x4 (.raw (.cells [.i .i64 0,.i .i64 0,.i .i64 0,.i .i64 0,.i .i64 0,.sl none 0 0 0,.b false])):=⟨_,rfl⟩
 have o1:ROpen L1 u σ per sv pv ov K1:=by rw[hK1,hL1];exact o.onto hx4 _
 have l4:L1 x4=some (.raw (.cells [.i .i64 0,.i .i64 0,.i .i64 0,.i .i64 0,.i .i64 0,.sl none 0 0 0,.b false])):=by rw[hL1,ze]
 have low:∀r d,r≠u→L r=some d→L1 r=some d:=fun r d _ hd=>by
  rw[hL1,zb _ _ _ (by rintro rfl;rw[n4.2.1]at hd;cases hd)];exact hd
 rw[←hK1]
 simp only[zf,zg,zj,Nat.add_zero]
 refine (zgB hf.f84 o1 (fi.r pk) now).mono ?_
 rintro _ K2 ⟨rfl,per',sv',pv',o2,pk2⟩
 rw[tk]at o2 pk2 ⊢
 simp only[zf,vL,yb,List.getElem?_cons_zero,List.getElem?_cons_succ,zh,xa]
 intro x6 hx6
 have n6:=o2.ne hx6
 rw[yv,zw (ze _ _ _) (by simp) (by simp) (by simp),zA]
 have hsp:zo [AV.i .i64 0,.i .i64 0,.i .i64 0] 0 [.i .i64 i,.i .i64 when,.i .i64 now]=[.i .i64 i,.i .i64 when,.i .i64 now]:=rfl
 rw[hsp]
 have k64:x6≠x4:=by rintro rfl;have:=o2.old x6 _ n4.1 l4;rw[hx6]at this;cases this
 have o3:=o2.onto hx6 (.raw (.cells [.i .i64 i,.i .i64 when,.i .i64 now]))
 have l6:(L1.put x6 (.raw (.cells [.i .i64 i,.i .i64 when,.i .i64 now]))) x6=some (.raw (.cells [.i .i64 i,.i .i64 when,.i .i64 now])):=ze _ _ _
 have l46:(L1.put x6 (.raw (.cells [.i .i64 i,.i .i64 when,.i .i64 now]))) x4=some (.raw (.cells [.i .i64 0,.i .i64 0,.i .i64 0,.i .i64 0,.i .i64 0,.sl none 0 0 0,.b false])):=by rw[zb _ _ _ (Ne.symm k64)];exact l4
 have low3:∀r d,r≠u→L1 r=some d→(L1.put x6 (.raw (.cells [.i .i64 i,.i .i64 when,.i .i64 now]))) r=some d:=fun r d _ hd=>by
  rw[zb _ _ _ (by rintro rfl;rw[n6.2.1]at hd;cases hd)];exact hd
 generalize K2.put x6 (.raw (.cells [.i .i64 i,.i .i64 when,.i .i64 now]))=K3 at o3
 generalize L1.put x6 (.raw (.cells [.i .i64 i,.i .i64 when,.i .i64 now]))=L3 at o3 l6 l46 low3
 clear hx6 hx4 hK1 hL1 o2 o1
 unfold D_f87_3 D_f87_4
 have k6:=o3.old x6 _ n6.1 l6
 have a0:rdL K3 (x6,0) none=some (.i .i64 i):=by rw[zk k6];rfl
 obtain⟨b,q,q1,q2,_⟩:=o3.slO.get (F:=F) (show ({ σ with x:=x' }:Tms).ones[i]?=some w from hw)
 have rall:=(q2 K3 (yd.refl _)).2
 simp only[zf,yf,Bool.not_true,zB,zg,zj,Nat.zero_add,Nat.add_zero,zt,o3.r3,a0,zh,q1,rall,xa]
 intro x8 hx8
 have n8:=o3.ne hx8
 rw[yv,zw (ze _ _ _) (zbu w) (Uo w) (by simp),zA]
 have hsp2:zo [AV.i .i64 0,.i .i64 0,.p none,.i .i64 0] 0 w.cells=w.cells:=rfl
 rw[hsp2]
 have k84:x8≠x4:=by rintro rfl;have:=o3.old x8 _ n4.1 l46;rw[hx8]at this;cases this
 have k86:x8≠x6:=by rintro rfl;rw[k6]at hx8;cases hx8
 have o4:=o3.onto hx8 (.raw (.cells w.cells))
 have l8:(L3.put x8 (.raw (.cells w.cells))) x8=some (.raw (.cells w.cells)):=ze _ _ _
 have low4:∀r d,r≠u→L3 r=some d→(L3.put x8 (.raw (.cells w.cells))) r=some d:=fun r d _ hd=>by
  rw[zb _ _ _ (by rintro rfl;rw[n8.2.1]at hd;cases hd)];exact hd
 generalize K3.put x8 (.raw (.cells w.cells))=K4 at o4
 generalize L3.put x8 (.raw (.cells w.cells))=L4 at o4 l8 low4
 have l44:=low4 x4 _ n4.1 l46
 have l64:=low4 x6 _ n6.1 l6
 have lowAll:∀r d,r≠u→L r=some d→L4 r=some d:=fun r d hr hd=>low4 r d hr (low3 r d hr (low r d hr hd))
 unfold D_f87_5
 have k6':=o4.old x6 _ n6.1 l64
 have k8':=o4.old x8 _ n8.1 l8
 have b0:rdL K4 (x6,0) none=some (.i .i64 i):=by rw[zk k6'];rfl
 have b1:rdL K4 (x6,1) none=some (.i .i64 when):=by rw[zk k6'];rfl
 have d0:rdL K4 (x8,0) none=some (.i .i64 w.kind):=by rw[zk k8'];rfl
 have d1:rdL K4 (x8,1) none=some (.i .i64 w.data):=by rw[zk k8'];rfl
 have d2:rdL K4 (x8,2) none=some (ptr w.c):=by rw[zk k8'];rfl
 simp only[zf,zj,Nat.zero_add,Nat.add_zero,zt,b0,b1,d0,d1,zh]
 have hb:∀k:AV→Lg→Prop,za F (.build [.i .i64 0,.i .i64 0,.i .i64 0,.i .i64 0,.i .i64 0,.sl none 0 0 0,.b false] [(0,1),(1,1),(2,1),(3,1),(4,1)]) [.i .i64 i,.i .i64 w.kind,.i .i64 when,.i .i64 now,.i .i64 w.data] K4 k=k (.agg [.i .i64 i,.i .i64 w.kind,.i .i64 when,.i .i64 now,.i .i64 w.data,.sl none 0 0 0,.b false]) K4:=by
  intro k;simp[zE,zo,zq,zp]
 rw[hb]
 simp only[zf,xa]
 intro x10 hx10
 have n10:=o4.ne hx10
 rw[yv,zw (ze _ _ _) (by simp) (by simp) (by simp),zA,Xl]
 have k10:∀{r:Nat} {d:LC},r≠u→L4 r=some d→x10≠r:=fun hr hd=>by rintro rfl;rw[n10.2.1]at hd;cases hd
 have o5:=o4.onto hx10 (.raw (.cells [.i .i64 i,.i .i64 w.kind,.i .i64 when,.i .i64 now,.i .i64 w.data,.sl none 0 0 0,.b false]))
 have l10:(L4.put x10 (.raw (.cells [.i .i64 i,.i .i64 w.kind,.i .i64 when,.i .i64 now,.i .i64 w.data,.sl none 0 0 0,.b false]))) x10=some (.raw (.cells [.i .i64 i,.i .i64 w.kind,.i .i64 when,.i .i64 now,.i .i64 w.data,.sl none 0 0 0,.b false])):=ze _ _ _
 have low5:∀r d,r≠u→L4 r=some d→(L4.put x10 (.raw (.cells [.i .i64 i,.i .i64 w.kind,.i .i64 when,.i .i64 now,.i .i64 w.data,.sl none 0 0 0,.b false]))) r=some d:=fun r d _ hd=>by
  rw[zb _ _ _ (by rintro rfl;rw[n10.2.1]at hd;cases hd)];exact hd
 generalize K4.put x10 (.raw (.cells [.i .i64 i,.i .i64 w.kind,.i .i64 when,.i .i64 now,.i .i64 w.data,.sl none 0 0 0,.b false]))=K5 at o5
 generalize L4.put x10 (.raw (.cells [.i .i64 i,.i .i64 w.kind,.i .i64 when,.i .i64 now,.i .i64 w.data,.sl none 0 0 0,.b false]))=L5 at o5 l10 low5
 have l45:=low5 x4 _ n4.1 l44
 have k8'':=o5.old x8 _ n8.1 (low5 x8 _ n8.1 l8)
 have e2:rdL K5 (x8,2) none=some (ptr w.c):=by rw[zk k8''];rfl
 have lowA:∀r d,r≠u→L r=some d→L5 r=some d:=fun r d hr hd=>low5 r d hr (lowAll r d hr hd)
 have lx4:L x4=none:=n4.2.1
 have sub0:∀{r:Nat} {P:LC},r≠u→L r=some P→r≠x4∧r≠x10:=fun hr hd=>⟨(by rintro rfl;rw[lx4]at hd;cases hd),fun h9=>by rw[h9]at hd;exact absurd (lowAll x10 _ n10.1 hd) (by rw[n10.2.1];simp)⟩
 have fin:∀(L0:Lg) (sl:AV) (kept:Bool) (K' Lb:Lg),ROpen Lb u { σ with x:=x' } per' sv' pv' ov K'→Lb x4=some (.raw (.cells [.i .i64 0,.i .i64 0,.i .i64 0,.i .i64 0,.i .i64 0,.sl none 0 0 0,.b false])) →
   Lb x10=some (.raw (.cells [.i .i64 i,.i .i64 w.kind,.i .i64 when,.i .i64 now,.i .i64 w.data,sl,.b kept]))→(∀r d,r≠u→L0 r=some d→r≠x4∧Lb r=some d)→sl.one=true→kept=(yE w.c x now).2.2 →
   xu ((L.put u (.abs (Yz u { σ with x:=x' }))).putR w.c (yE w.c x now).1) sl (yp (yE w.c x now).2.1) (yE w.c x now).2.1.length 5 (L0.put u (.abs (Yz u { σ with x:=x' }))) →
   (za F (.ld (some 7)) [.p (some (x10,0))] K' fun v26 L26=>za F (.st 7) [.p (some (x4,0)),v26] L26 fun _ L27=>zl (yz Env.nil Env.nil L27 [.cell (.c (.p (some (x4,0)))) (some 7),.tmp (.c (.b true))]) Q L27):=by
  intro L0 sl kept K' Lb o' h4 h10 hL0 hone hk hfs
  have r10:rdL K' (x10,0) (some 7)=some (.agg [.i .i64 i,.i .i64 w.kind,.i .i64 when,.i .i64 now,.i .i64 w.data,sl,.b kept]):=by
   rw[yj (o'.old x10 _ n10.1 h10) (by simp)];rfl
  simp only[zf,zt,r10,zh]
  rw[yv,zw (o'.old x4 _ n4.1 h4) (by simp[hone]) (by simp) (by simp),zU _ _ (ze _ _ _) (by simp[zo])]
  have o'':=(o'.putOld n4.1 h4 (.raw (.cells (zo [.i .i64 0,.i .i64 0,.i .i64 0,.i .i64 0,.i .i64 0,.sl none 0 0 0,.b false] 0 [.i .i64 i,.i .i64 w.kind,.i .i64 when,.i .i64 now,.i .i64 w.data,sl,.b kept])))).below (L0:=L0) (fun r d hr hd=>by rw[zb _ _ _ (hL0 r d hr hd).1];exact (hL0 r d hr hd).2)
  refine⟨_,o''.shut pk2,hQ _ _ ⟨sl,?_,hfs⟩⟩
  rw[Xl,hk];rfl
 simp only[zf,zj,Nat.zero_add,zt,e2,zh]
 cases hcc:w.c with
 | none =>
  simp only[zf,ptr,Option.map_none,Z4,Bool.not_true,zB]
  refine fin L (.sl none 0 0 0) false K5 L5 o5 l45 l10 (fun r d hr hd=>⟨(sub0 hr hd).1,lowA r d hr hd⟩) rfl (by rw[hcc];rfl) ?_
  rw[hcc]
  exact .inl ⟨rfl,rfl,rfl,rfl⟩
 | some a =>
  have ha:=hc a hcc
  have ha5:=lowA a _ ha.1 ha.2
  have hcK:K5.hasR u (some a) x:=fun q hq=>by cases hq;exact⟨ha.1,o5.old a _ ha.1 ha5⟩
  have na4:a≠x4:=(sub0 ha.1 ha.2).1
  have na10:a≠x10:=(sub0 ha.1 ha.2).2
  rw[hcc]at e2
  simp only[ptr,Option.map_some]at e2
  simp only[zf,ptr,Option.map_some,wI,zZ,zj,Nat.zero_add,zt,e2,zh]
  refine (zeo hf.f86 hx hl hcp hcK now).mono ?_
  rintro _ K6 ⟨sl,rfl,hfs⟩
  have o6:=o5.putOld ha.1 ha5 (.abs (ZW a (yE (some a) x now).1))
  have l4a:(L5.put a (.abs (ZW a (yE (some a) x now).1))) x4=some (.raw (.cells [.i .i64 0,.i .i64 0,.i .i64 0,.i .i64 0,.i .i64 0,.sl none 0 0 0,.b false])):=by rw[zb _ _ _ (Ne.symm na4)];exact l45
  have l10a:(L5.put a (.abs (ZW a (yE (some a) x now).1))) x10=some (.raw (.cells [.i .i64 i,.i .i64 w.kind,.i .i64 when,.i .i64 now,.i .i64 w.data,.sl none 0 0 0,.b false])):=by rw[zb _ _ _ (Ne.symm na10)];exact l10
  have lowa:∀r d,r≠u→(L.put a (.abs (ZW a (yE (some a) x now).1))) r=some d→r≠x4∧r≠x10∧(L5.put a (.abs (ZW a (yE (some a) x now).1))) r=some d:=by
   intro r d hr hd
   rw[Lg.put_apply]at hd ⊢
   by_cases h9:r=a
   ·rw[if_pos h9]at hd ⊢;exact⟨by rw[h9];exact na4,by rw[h9];exact na10,hd⟩
   ·rw[if_neg h9]at hd ⊢;exact⟨(sub0 hr hd).1,(sub0 hr hd).2,lowA r d hr hd⟩
  -- whatever slice came
  have tail:∀(L0 Lb:Lg),ROpen Lb u { σ with x:=x' } per' sv' pv' ov K6→Lb x4=some (.raw (.cells [.i .i64 0,.i .i64 0,.i .i64 0,.i .i64 0,.i .i64 0,.sl none 0 0 0,.b false])) →
    Lb x10=some (.raw (.cells [.i .i64 i,.i .i64 w.kind,.i .i64 when,.i .i64 now,.i .i64 w.data,.sl none 0 0 0,.b false]))→(∀r d,r≠u→L0 r=some d→r≠x4∧r≠x10∧Lb r=some d)→sl.cellsOf=some [sl] →
    xu ((L.put u (.abs (Yz u { σ with x:=x' }))).putR w.c (yE w.c x now).1) sl (yp (yE w.c x now).2.1) (yE w.c x now).2.1.length 5 (L0.put u (.abs (Yz u { σ with x:=x' }))) →
    (za F (.ext 0) [.tup [sl,.b (yE (some a) x now).2.2]] K6 fun v18 L18=>za F (.ext 1) [.tup [sl,.b (yE (some a) x now).2.2]] L18 fun v19 L19=>za F (.fad 5) [.p (some (x10,0))] L19 fun v20 L20=>za F (.st 1) [v20,v18] L20 fun _ L21 =>
     za F (.fad 6) [.p (some (x10,0))] L21 fun v22 L22=>za F (.st 1) [v22,v19] L22 fun _ L23=>za F (.ld (some 7)) [.p (some (x10,0))] L23 fun v24 L24=>za F (.st 7) [.p (some (x4,0)),v24] L24 fun _ L25 =>
     zl (yz Env.nil Env.nil L25 [.cell (.c (.p (some (x4,0)))) (some 7),.tmp (.c (.b true))]) Q L25):=by
   intro L0 Lb o' h4 h10 hL0 hsl hfr
   simp only[zf,yb,List.getElem?_cons_zero,List.getElem?_cons_succ,zh,zj,Nat.zero_add,yv]
   rw[zH (o'.old x10 _ n10.1 h10) (by simp) hsl]
   simp only[zf,zj,Nat.zero_add,yv]
   rw[zH (ze _ _ _) (by simp) rfl,zA]
   have o9:=o'.putOld n10.1 h10 (.raw (.cells [.i .i64 i,.i .i64 w.kind,.i .i64 when,.i .i64 now,.i .i64 w.data,sl,.b (yE (some a) x now).2.2]))
   have h410:x4≠x10:=Ne.symm (k10 n4.1 l44)
   refine fin L0 sl _ _ _ o9 (by rw[zb _ _ _ h410];exact h4) (ze _ _ _) (fun r d hr hd=>⟨(hL0 r d hr hd).1,by rw[zb _ _ _ (hL0 r d hr hd).2.1];exact (hL0 r d hr hd).2.2⟩) (by have:=vF hsl;simpa using this) (by rw[hcc]) hfr
  rcases hfs with⟨f1,f2,f3,f4⟩ | ⟨b1,ex,f1,f2,f3,f4,f5⟩
  ·subst f4 f3
   refine tail (L.put a (.abs (ZW a (yE (some a) x now).1))) _ o6 l4a l10a lowa rfl ?_
   rw[hcc]
   exact .inl ⟨f1,f2,rfl,yJ _ ha.1 _ _⟩
  ·subst f5 f3
   simp only[Lg.putR]at f1
   have nb:=o6.ne f1
   have o7:=o6.onto f1 (.raw (.cells (yp (yE (some a) x now).2.1)))
   have nb4:x4≠b1:=by rintro rfl;rw[nb.2.1]at l4a;cases l4a
   have nb10:x10≠b1:=by rintro rfl;rw[nb.2.1]at l10a;cases l10a
   refine tail ((L.put a (.abs (ZW a (yE (some a) x now).1))).put b1 (.raw (.cells (yp (yE (some a) x now).2.1)))) _ o7 (by rw[zb _ _ _ nb4];exact l4a) (by rw[zb _ _ _ nb10];exact l10a) ?_ rfl ?_
   ·intro r d hr hd
    rw[Lg.put_apply]at hd ⊢
    by_cases h9:r=b1
    ·rw[if_pos h9]at hd ⊢;exact⟨by rw[h9];exact Ne.symm nb4,by rw[h9];exact Ne.symm nb10,hd⟩
    ·rw[if_neg h9]at hd ⊢;exact lowa r d hr hd
   ·rw[hcc]
    refine .inr ⟨b1,ex,?_,f2,rfl,f4,?_⟩
    ·simp only[Lg.putR]
     have:(L.put a (.abs (ZW a (yE (some a) x now).1))) b1=none:=by
      cases h:(L.put a (.abs (ZW a (yE (some a) x now).1))) b1 with
      | none=>rfl
      | some d=>have:=(lowa b1 d nb.1 h).2.2;rw[nb.2.1]at this;cases this
     rw[←yJ _ ha.1,zb _ _ _ nb.1];exact this
    ·simp only[Lg.putR]
     rw[yJ _ nb.1,←yJ _ ha.1]
end
end
section
theorem zhb {τ:Tms}{k:Nat}{o:On}(h:τ.ones[k]?=some o):τ.one (k:Int)=some o:=by
 have hk:k<τ.ones.length:=(List.getElem?_eq_some_iff.1 h).1
 have hh:τ.has (k:Int)=true:=by unfold Tms.has;simp;omega
 simp only[Tms.one,hh,if_true,Int.toNat_natCast,h]
end
section
theorem zbR {S:CX}{i:Nat}{o:One}{k:Int}(hi:S.σ.ones[i]?=some o)(w:Nat):(S.setOne i { o with timer:=k }).σ.ones[w]?=(S.σ.ones[w]?).map fun (x:One)=>if w=i then { x with timer:=k }else x:=by
 show (S.σ.ones.set i _)[w]?=_
 have hl:i<S.σ.ones.length:=(List.getElem?_eq_some_iff.1 hi).1
 by_cases e:i=w
 ·subst e;rw[List.getElem?_set_self hl,hi];simp
 ·rw[List.getElem?_set_ne e]
  cases S.σ.ones[w]? with
  | none=>rfl
  | some x=>simp[Ne.symm e]
theorem WF.setT {S:CX}(h:WF S){i:Nat}{o:One}{k:Int}{τ':Tms}(hi:S.σ.ones[i]?=some o)(hl:τ'.x.l.length≤1000000)(ht:∀(q:Nat) (p:On),τ'.ones[q]?=some p→p.c=none):WF ({ S.setOne i { o with timer:=k }with τ:=τ' }:CX):=by
 have back:∀(w:Nat) (y:One),(S.setOne i { o with timer:=k }).σ.ones[w]?=some y→∃z,S.σ.ones[w]?=some z∧y.node=z.node∧y.free=z.free∧y.err=z.err∧y.c=z.c:=by
  intro w y hy
  rw[zbR hi]at hy
  cases e:S.σ.ones[w]? with
  | none=>rw[e]at hy;cases hy
  | some z =>
   rw[e]at hy;simp at hy
   refine⟨z,rfl,?_⟩
   subst hy
   split<;>exact⟨rfl,rfl,rfl,rfl⟩
 have hlen:(S.setOne i { o with timer:=k }).σ.ones.length=S.σ.ones.length:=by simp[CX.setOne]
 refine⟨h.tr,⟨by show (S.setOne i { o with timer:=k }).σ.ones.length≤64;rw[hlen];exact h.sz.1,h.sz.2⟩,?_,?_,h.who2,?_,?_,?_,?_,hl⟩
 ·show S.σ.tree.length=(S.setOne i { o with timer:=k }).σ.ones.length+S.σ.afts.length
  rw[hlen];exact h.len
 ·intro w y hy
  obtain⟨z,hz,e1,_⟩:=back w y hy
  rw[e1];exact h.who1 w z hz
 ·intro q hq
  rcases h.cover q hq with⟨w,x,c1,c2,c3⟩ | hh
  ·refine .inl ⟨w,_,c1,by rw[zbR hi,c2];rfl,?_⟩
   simp only;split<;>exact c3
  ·exact .inr hh
 ·intro w q y n hy hq hn
  obtain⟨z,hz,e1,e2,e3,_⟩:=back w y hy
  rw[e2,e3]
  exact h.live w q z n hz (by rw[←e1];exact hq) hn
 ·intro y hy a ha
  obtain⟨w,hw⟩:=List.mem_iff_getElem?.1 hy
  obtain⟨z,hz,_,_,_,e4⟩:=back w y hw
  exact h.chs z (List.mem_of_getElem? hz) a (by rw[←e4];exact ha)
 ·intro y hy s p hs hp
  unfold Tms.one at hp
  split at hp
  ·exact ht _ p hp
  ·cases hp
end
section
variable {F:Nat→Option AFn}
section
variable {L K:Lg} {c:Nat} {x:Ch} {bv sv rv:AV}
theorem U3 (hf:H_f197 F){v:AV}{l:List Wk}(hv:SlG Wk.cells 5 K v l)(hl:l.length≤1000000)(task:Int):zd F k_f197 [v,.i .i64 task] K fun r K'=>r=.b (l.any fun y=>decide (y.t=task))∧K'=K:=by
 refine zr ?_
 intro Q hQ
 apply r_f197 hf.code
 unfold D_f197_1 D_f197_4 D_f197_6
 obtain⟨I,hI⟩:∃I:Nat→Env→Lg→Prop,I=fun m E K'=>∃i:Nat,m+i=l.length∧E 0=v∧E 1=.i .i64 task∧E 5=.i .i64 i∧K'=K∧(l.any fun y=>decide (y.t=task))=((l.drop i).any fun y=>decide (y.t=task)):=⟨_,rfl⟩
 refine zQ I l.length ?_ ?_
 ·rw[hI];exact⟨0,by omega,by simp[zJ],by simp[zJ],by simp,rfl,rfl⟩
 intro m E t K' hi
 rw[hI]at hi
 obtain⟨i,hm,e0,e1,e5,rfl,hfd⟩:=hi
 have hlen:=fun X k=>hv.len (F:=F) X k
 unfold D_f197_7
 rw[e0,e1,e5]
 simp only[zf,hlen,y0,zR]
 refine⟨fun hlt=>?_,fun hnl=>?_⟩
 rotate_left
 ·unfold D_f197_3
  exact⟨K',zu.refl _,hQ _ _ ⟨by rw[hfd,List.drop_eq_nil_iff.2 (by omega)];rfl,rfl⟩⟩
 have hil:i<l.length:=by omega
 have hx:l[i]?=some l[i]:=List.getElem?_eq_getElem hil
 have hdr:l.drop i=l[i]::l.drop (i+1):=List.drop_eq_getElem_cons hil
 generalize l[i]=x at hx hdr
 have w1:wr .i64 ((i:Int)+1)=((i+1:Nat):Int):=by rw[zS (by omega) (by omega)];omega
 obtain⟨b,q,q1,q2,_⟩:=hv.get (F:=F) hx
 have ra:rdL K' (b,q) none=some (.i .i64 x.t):=(q2 K' (yd.refl _)).1 0 (by omega)
 rw[hdr]at hfd
 simp only[zf,zj,Nat.add_zero,zt,ra,zh,q1,xL,zR]
 refine⟨fun heq=>?_,fun hne=>?_⟩
 ·exact⟨K',zu.refl _,hQ _ _ ⟨by rw[hfd];simp[heq],rfl⟩⟩
 ·simp only[zf,xl,w1]
  rw[hI]
  exact⟨m-1,by omega,i+1,by omega,by simp[e0],by simp[e1],by simp,rfl,by rw[hfd];simp[hne]⟩
theorem zcN (p:Bool)(acc:List Wk)(w:Wt):(yr p acc w).length≤acc.length+1:=by unfold yr;split<;>simp
theorem Yn (p:Bool):∀(l:List Wt) (acc:List Wk),(l.foldl (yr p) acc).length≤acc.length+l.length
 | [],acc=>by simp
 | w::r,acc=>by have:=Yn p r (yr p acc w);have:=zcN p acc w;simp only[List.foldl_cons,List.length_cons];omega
theorem UI (p:Bool){l:List Wt}{i:Nat}{w:Wt}(h:l[i]?=some w)(acc:List Wk):(l.take (i+1)).foldl (yr p) acc=yr p ((l.take i).foldl (yr p) acc) w:=by
 have hi:=(List.getElem?_eq_some_iff.1 h)
 rw[List.take_add_one,h]
 simp[List.foldl_append]
theorem ze9 (hf:H_f198 F)(o:CROpen L c x bv sv rv K)(hl:x.recvs.length+x.sends.length≤1000000):zd F k_f198 [.p (some (c,0))] K fun v K' =>
  ∃K1,LitS K v (zm Wk.cells x.wakes) x.wakes.length 5 K1∧CROpen L c x.ended bv (.sl none 0 0 0) (.sl none 0 0 0) K'∧(∀r,r≠c→K' r=K1 r):=by
 refine zr ?_
 intro Q hQ
 apply r_f198 hf.code
 generalize hE:zJ [AV.p (some (c,0))] 0=E
 have e0:E 0=.p (some (c,0)):=by rw[←hE];simp[zJ]
 clear hE
 unfold D_f198_1 D_f198_2 D_f198_11 D_f198_13
 -- those that wait to receive
 obtain⟨I,hI⟩:∃I:Nat→Env→Lg→Prop,I=fun m E K'=>∃i:Nat,m+i=x.recvs.length∧E 0=.p (some (c,0))∧E 4=.i .i64 i∧LitS K (E 3) (zm Wk.cells ((x.recvs.take i).foldl (yr false) [])) ((x.recvs.take i).foldl (yr false) []).length 5 K':=⟨_,rfl⟩
 refine zQ I x.recvs.length ?_ ?_
 ·rw[hI];exact⟨0,by omega,by simp[e0],by simp,by simpa[zm]using LitS.nil K 5⟩
 intro m E t K' hi
 rw[hI]at hi
 obtain⟨i,hm,e0,e4,li⟩:=hi
 have o':=o.sub li.s
 have hlen:=fun X k=>o'.sR.len (F:=F) X k
 unfold D_f198_14
 rw[e0,e4]
 simp only[zf,zg,zj,Nat.zero_add,zt,o'.r6,zh,hlen,y0,zR]
 refine⟨fun hlt=>?_,fun hnl=>?_⟩
 ·have hil:i<x.recvs.length:=by omega
  have hx:x.recvs[i]?=some x.recvs[i]:=List.getElem?_eq_getElem hil
  generalize x.recvs[i]=w at hx
  have hal:=Yn false (x.recvs.take i) []
  have hrl:=o.len.1
  rw[List.length_take]at hal
  simp only[List.length_nil,Nat.zero_add]at hal
  have hstep:=UI false hx []
  generalize hacc:(x.recvs.take i).foldl (yr false) []=acc at li hal hstep
  have w1:wr .i64 ((i:Int)+1)=((i+1:Nat):Int):=by rw[zS (by omega) (by omega)];omega
  obtain⟨b,q,q1,q2,_⟩:=o'.sR.get (F:=F) hx
  have ra:rdL K' (b,q) none=some (.i .i64 w.t):=(q2 K' (yd.refl _)).1 0 (by omega)
  have rb:rdL K' (b,q+1) none=some (.i .i64 w.c):=(q2 K' (yd.refl _)).1 1 (by omega)
  unfold D_f198_15
  rw[e0,e4]
  simp only[zf,zg,zj,Nat.zero_add,Nat.add_zero,zt,o'.r6,zh,q1,ra]
  refine (U3 hf.f197 (OSe.slG vI li.o) (by omega) w.t).mono ?_
  rintro _ K2 ⟨rfl,hK2⟩
  rw[hK2]
  cases hany:(acc.any fun y=>decide (y.t=w.t))with
  | true =>
   have hw:yr false acc w=acc:=by unfold yr;rw[if_pos hany]
   simp only[zf,yf,Bool.not_true,zB,xl,w1]
   rw[hI]
   refine⟨m-1,by omega,i+1,by omega,by simp[e0],by simp,?_⟩
   rw[hstep,hw]
   simpa using li
  | false =>
   have hw:yr false acc w=acc++[⟨w.t,w.c,0,false,false⟩]:=by unfold yr;rw[if_neg (by rw[hany];simp)]
   simp only[zf,yf,Bool.not_false,zZ,zg,zj,Nat.zero_add,Nat.add_zero,zt,o'.r6,zh,q1,ra,rb]
   have hb:∀k:AV→Lg→Prop,za F (.build [.i .i64 0,.i .i64 0,.i .i64 0,.b false,.b false] [(0,1),(1,1)]) [.i .i64 w.t,.i .i64 w.c] K' k=k (.agg (Wk.cells ⟨w.t,w.c,0,false,false⟩)) K':=by
    intro k;simp[zE,zo,zq,zp,Wk.cells]
   rw[hb]
   refine U5 rfl (vI _) (Un _) ?_
   intro v22 K3 o22 s3 f22
   have s22:SlG Wk.cells 5 K3 v22 [⟨w.t,w.c,0,false,false⟩]:=yy (f:=Wk.cells) vI (by simpa[zm]using o22)
   refine (li.mono s3).app vI Un (by omega) s22 (by simp;omega) ?_
   intro v23 K4 l4
   simp only[zf,xl,w1]
   rw[hI]
   refine⟨m-1,by omega,i+1,by omega,by simp[e0],by simp,?_⟩
   rw[hstep,hw,ya]
   simpa using l4
 -- those that wait to send
 have hi0:i=x.recvs.length:=by omega
 subst hi0
 rw[List.take_length]at li
 clear hI I hm e4 t
 unfold D_f198_6 D_f198_8
 obtain⟨acc0,ha0⟩:∃acc0,acc0=x.recvs.foldl (yr false) []:=⟨_,rfl⟩
 have hal0:=Yn false x.recvs []
 rw[←ha0]at li hal0
 obtain⟨I,hI⟩:∃I:Nat→Env→Lg→Prop,I=fun m E K'=>∃i:Nat,m+i=x.sends.length∧E 0=.p (some (c,0))∧E 5=.i .i64 i∧LitS K (E 3) (zm Wk.cells ((x.sends.take i).foldl (yr true) acc0)) ((x.sends.take i).foldl (yr true) acc0).length 5 K':=⟨_,rfl⟩
 refine zQ I x.sends.length ?_ ?_
 ·rw[hI];exact⟨0,by omega,by simp[e0],by simp,by simpa[zm]using li⟩
 intro m E t K' hi
 rw[hI]at hi
 obtain⟨i,hm,e0,e5,li⟩:=hi
 have o':=o.sub li.s
 have hlen:=fun X k=>o'.sS.len (F:=F) X k
 unfold D_f198_9
 rw[e0,e5]
 simp only[zf,zg,zj,Nat.zero_add,zt,o'.r5,zh,hlen,y0,zR]
 refine⟨fun hlt=>?_,fun hnl=>?_⟩
 ·have hil:i<x.sends.length:=by omega
  have hx:x.sends[i]?=some x.sends[i]:=List.getElem?_eq_getElem hil
  generalize x.sends[i]=w at hx
  have hal:=Yn true (x.sends.take i) acc0
  have hrl:=o.len.2.1
  rw[List.length_take]at hal
  simp only[List.length_nil,Nat.zero_add]at hal0
  have hstep:=UI true hx acc0
  generalize hacc:(x.sends.take i).foldl (yr true) acc0=acc at li hal hstep
  have w1:wr .i64 ((i:Int)+1)=((i+1:Nat):Int):=by rw[zS (by omega) (by omega)];omega
  obtain⟨b,q,q1,q2,_⟩:=o'.sS.get (F:=F) hx
  have ra:rdL K' (b,q) none=some (.i .i64 w.t):=(q2 K' (yd.refl _)).1 0 (by omega)
  have rb:rdL K' (b,q+1) none=some (.i .i64 w.c):=(q2 K' (yd.refl _)).1 1 (by omega)
  unfold D_f198_10
  rw[e0,e5]
  simp only[zf,zg,zj,Nat.zero_add,Nat.add_zero,zt,o'.r5,zh,q1,ra]
  refine (U3 hf.f197 (OSe.slG vI li.o) (by omega) w.t).mono ?_
  rintro _ K2 ⟨rfl,hK2⟩
  rw[hK2]
  cases hany:(acc.any fun y=>decide (y.t=w.t))with
  | true =>
   have hw:yr true acc w=acc:=by unfold yr;rw[if_pos hany]
   simp only[zf,yf,Bool.not_true,zB,xl,w1]
   rw[hI]
   refine⟨m-1,by omega,i+1,by omega,by simp[e0],by simp,?_⟩
   rw[hstep,hw]
   simpa using li
  | false =>
   have hw:yr true acc w=acc++[⟨w.t,w.c,0,false,true⟩]:=by unfold yr;rw[if_neg (by rw[hany];simp)]
   simp only[zf,yf,Bool.not_false,zZ,zg,zj,Nat.zero_add,Nat.add_zero,zt,o'.r5,zh,q1,ra,rb]
   have hb:∀k:AV→Lg→Prop,za F (.build [.i .i64 0,.i .i64 0,.i .i64 0,.b false,.b false] [(0,1),(1,1),(4,1)]) [.i .i64 w.t,.i .i64 w.c,.b true] K' k=k (.agg (Wk.cells ⟨w.t,w.c,0,false,true⟩)) K':=by
    intro k;simp[zE,zo,zq,zp,Wk.cells]
   rw[hb]
   refine U5 rfl (vI _) (Un _) ?_
   intro v22 K3 o22 s3 f22
   have s22:SlG Wk.cells 5 K3 v22 [⟨w.t,w.c,0,false,true⟩]:=yy (f:=Wk.cells) vI (by simpa[zm]using o22)
   refine (li.mono s3).app vI Un (by omega) s22 (by simp;omega) ?_
   intro v23 K4 l4
   simp only[zf,xl,w1]
   rw[hI]
   refine⟨m-1,by omega,i+1,by omega,by simp[e0],by simp,?_⟩
   rw[hstep,hw,ya]
   simpa using l4
 have hi0:i=x.sends.length:=by omega
 subst hi0
 rw[List.take_length]at li
 unfold D_f198_5
 simp only[zf,zg,zj,Nat.zero_add,yv]
 have o1:=o'.newR (l:=[]) (LitS.nil K' 3) (by simp)
 refine o'.st (yd.refl _) (by omega) rfl ?_
 have e1:(crt x bv sv rv).set 6 (.sl none 0 0 0)=crt { x with recvs:=[] } bv sv (.sl none 0 0 0):=rfl
 rw[e1]
 have o1':CROpen L c { x with recvs:=[] } bv sv (.sl none 0 0 0) (K'.put c (.raw (.cells (crt { x with recvs:=[] } bv sv (.sl none 0 0 0))))):=o1
 have o2:=o1'.newS (l:=[]) (LitS.nil _ 3) (by simp)
 simp only[zf,zg,zj,Nat.zero_add,yv]
 refine o1'.st (yd.refl _) (by omega) rfl ?_
 have e2:(crt { x with recvs:=[] } bv sv (.sl none 0 0 0)).set 5 (.sl none 0 0 0)=crt { x with recvs:=[],sends:=[] } bv (.sl none 0 0 0) (.sl none 0 0 0):=rfl
 rw[e2]
 have o2':CROpen L c { x with recvs:=[],sends:=[] } bv (.sl none 0 0 0) (.sl none 0 0 0) ((K'.put c (.raw (.cells (crt { x with recvs:=[] } bv sv (.sl none 0 0 0))))).put c (.raw (.cells (crt { x with recvs:=[],sends:=[] } bv (.sl none 0 0 0) (.sl none 0 0 0))))):=o2
 have o3:=o2'.closed
 simp only[zf,zg,zj,Nat.zero_add,yv]
 refine o2'.st (yd.refl _) (by omega) rfl ?_
 have e3:(crt { x with recvs:=[],sends:=[] } bv (.sl none 0 0 0) (.sl none 0 0 0)).set 3 (.b true)=crt x.ended bv (.sl none 0 0 0) (.sl none 0 0 0):=rfl
 rw[e3]
 refine⟨_,zu.refl _,hQ _ _ ⟨K',?_,o3,fun r hr=>by rw[zb _ _ _ hr,zb _ _ _ hr,zb _ _ _ hr]⟩⟩
 rw[ha0]at li
 exact li
theorem zbl (hf:H_f199 F)(e:L c=some (.abs (ZW c x)))(hlen:x.recvs.length+x.sends.length≤1000000):zd F k_f199 [.p (some (c,0))] L fun v L'=>LitS (L.put c (.abs (ZW c x.endS.1))) v (zm Wk.cells x.endS.2) x.endS.2.length 5 L':=by
 refine zr ?_
 intro Q hQ
 apply vi e
 intro bv sv rv K o
 apply r_f199 hf.code
 unfold D_f199_1
 have r2:=o.r2
 have r3:=o.r3
 cases hs:x.signal with
 | false =>
  rw[hs]at r2
  simp only[zf,wI,zx,yk,zg,zj,Nat.zero_add,zt,r2,zh,yf,Bool.not_false,zX,YJ,xv,zT,zZ]
  refine⟨_,o.shut,hQ _ _ ?_⟩
  simp only[Ch.endS,hs]
  exact LitS.nil _ 5
 | true =>
  rw[hs]at r2
  cases hc:x.closed with
  | true =>
   rw[hc]at r3
   simp only[zf,wI,zx,yk,zg,zj,Nat.zero_add,zt,r2,r3,zh,yf,Bool.not_true,zX,zZ]
   refine⟨_,o.shut,hQ _ _ ?_⟩
   simp only[Ch.endS,hs,hc]
   exact LitS.nil _ 5
  | false =>
   rw[hc]at r3
   simp only[zf,wI,zx,yk,zg,zj,Nat.zero_add,zt,r2,r3,zh,yf,Bool.not_true,zX,zB]
   refine (ze9 hf.f198 o hlen).mono ?_
   rintro v K' ⟨K1,li,o',hk⟩
   have he:x.endS=(x.ended,x.wakes):=by simp[Ch.endS,hs,hc]
   have fr:∀b,slB v=some b→b≠c∧L b=none∧slB bv≠some b:=fun b hb=>⟨(o.ne (li.f b hb)).1,(o.ne (li.f b hb)).2.1,(o.ne (li.f b hb)).2.2.1⟩
   -- the slice's block lies beside
   cases hsl:slB v with
   | none =>
    refine⟨_,o'.shut,hQ _ _ ?_⟩
    rw[he]
    refine⟨li.o.mono (fun b hb=>by rw[hsl]at hb;cases hb),yd.refl _,(fun b hb=>by rw[hsl]at hb;cases hb)⟩
   | some b =>
    obtain⟨n1,n2,n3⟩:=fr b hsl
    have hb1:=li.o.block hsl
    have hbK:K' b=some (.raw (.cells (zm Wk.cells x.wakes))):=by rw[hk b n1];exact hb1
    have o2:CROpen (L.put b (.raw (.cells (zm Wk.cells x.wakes)))) c x.ended bv (.sl none 0 0 0) (.sl none 0 0 0) K':=by
     refine⟨o'.root,o'.bs,o'.ss,o'.rs,fun q hq=>⟨(o'.a1 q hq).1,?_⟩,(fun q hq=>by cases hq),(fun q hq=>by cases hq),fun r d hr hd=>?_,o'.len⟩
     ·rw[zb _ _ _ (by rintro rfl;exact n3 hq)];exact (o'.a1 q hq).2
     ·rw[Lg.put_apply]at hd
      split at hd
      ·rename_i h9;rw[h9,hbK];exact hd
      ·exact o'.old r d hr hd
    refine⟨_,o2.shut,hQ _ _ ?_⟩
    rw[he]
    refine⟨li.o.mono fun q hq=>?_,fun r d hd=>?_,fun q hq=>?_⟩
    ·rw[hsl]at hq;cases hq
     rw[zb _ _ _ n1,ze,hb1]
    ·by_cases h9:r=c
     ·subst h9;rw[ze]at hd ⊢;exact hd
     ·rw[zb _ _ _ h9]at hd ⊢
      rw[zb _ _ _ (by rintro rfl;rw[n2]at hd;cases hd)];exact hd
    ·rw[hsl]at hq;cases hq
     rw[zb _ _ _ n1];exact n2
theorem WN (hf:H_f199 F)(L:Lg):zd F k_f199 [.p none] L fun v L'=>v=.sl none 0 0 0∧L'=L:=by
 refine zr ?_
 intro Q hQ
 apply r_f199 hf.code
 unfold D_f199_1
 simp only[zf,Z4,Bool.not_false,YJ,xv,zT,zZ]
 exact⟨L,zu.refl _,hQ _ _ ⟨rfl,rfl⟩⟩
end
end
section
variable {F:Nat→Option AFn}
structure SlD where
 v:AV
 cs:List AV
 n:Nat
 z:Nat
structure GO (L:Lg)(r:Nat)(cs:List AV)(sl:List SlD)(K:Lg):Prop where
 root:K r=some (.raw (.cells cs))
 own:∀(i:Nat) (p:SlD),sl[i]?=some p→OSl K p.v p.cs p.n p.z
 ap:∀(i:Nat) (p:SlD),sl[i]?=some p→∀b,slB p.v=some b→b≠r∧L b=none
 nd:∀(i j:Nat) (p q:SlD),i≠j→sl[i]?=some p→sl[j]?=some q→∀b,slB p.v=some b→slB q.v≠some b
 old:∀q d,q≠r→L q=some d→K q=some d
section
variable {L K:Lg} {r:Nat} {cs:List AV} {sl:List SlD}
theorem GO.ne (o:GO L r cs sl K){b:Nat}(hb:K b=none):b≠r∧L b=none∧∀(i:Nat) (p:SlD),sl[i]?=some p→slB p.v≠some b:=by
 have h1:b≠r:=by rintro rfl;have:=o.root;rw[hb]at this;cases this
 refine⟨h1,?_,fun i p hp h=>?_⟩
 ·cases h:L b with
  | none=>rfl
  | some d=>rw[o.old b d h1 h]at hb;cases hb
 ·have:=(o.own i p hp).block h;rw[hb]at this;cases this
theorem GO.sub (o:GO L r cs sl K){K':Lg}(h:yd K K'):GO L r cs sl K' :=
 ⟨h _ _ o.root,fun i p hp=>(o.own i p hp).sub fun b d _ hd=>h b d hd,o.ap,o.nd,fun q d hq hd=>h q d (o.old q d hq hd)⟩
theorem GO.keep (o:GO L r cs sl K){K':Lg}{e:Option Nat}(h:Yy e K K')(h1:e≠some r)(h2:∀(i:Nat) (p:SlD),sl[i]?=some p→∀b,e=some b→slB p.v≠some b)(h3:∀b,e=some b→L b=none):GO L r cs sl K' :=
 ⟨h _ _ o.root h1,fun i p hp=>(o.own i p hp).sub fun b d hb hd=>h b d hd (fun h9=>h2 i p hp b h9 hb),o.ap,o.nd,fun q d hq hd=>h q d (o.old q d hq hd) (fun h9=>by have:=h3 q h9;rw[hd]at this;cases this)⟩
theorem GO.onto (o:GO L r cs sl K){b:Nat}(hb:K b=none)(d:LC):GO (L.put b d) r cs sl (K.put b d):=by
 obtain⟨n1,n2,n3⟩:=o.ne hb
 have o':=o.sub ((yd.refl K).put hb d)
 refine⟨o'.root,o'.own,fun i p hp q hq=>?_,o.nd,fun q e hq he=>?_⟩
 ·rw[zb _ _ _ (by rintro rfl;exact n3 i p hp hq)];exact o.ap i p hp q hq
 ·rw[Lg.put_apply]at he ⊢
  split
  ·rename_i h9;rw[if_pos h9]at he;exact he
  ·rename_i h9;rw[if_neg h9]at he;exact o.old q e hq he
theorem GO.below (o:GO L r cs sl K){L0:Lg}(h:∀q d,q≠r→L0 q=some d→L q=some d):GO L0 r cs sl K:=by
 refine⟨o.root,o.own,fun i p hp b hb=>⟨(o.ap i p hp b hb).1,?_⟩,o.nd,fun q d hq hd=>o.old q d hq (h q d hq hd)⟩
 obtain⟨h1,h2⟩:=o.ap i p hp b hb
 cases h3:L0 b with
 | none=>rfl
 | some d=>rw[h b d h1 h3]at h2;cases h2
theorem GO.putOld (o:GO L r cs sl K){b:Nat}(h1:b≠r){d0:LC}(h2:L b=some d0)(d:LC):GO (L.put b d) r cs sl (K.put b d):=by
 have ne:∀(i:Nat) (p:SlD),sl[i]?=some p→∀q,slB p.v=some q→q≠b:=fun i p hp q hq=>by rintro rfl;have:=(o.ap i p hp q hq).2;rw[h2]at this;cases this
 refine⟨by rw[zb _ _ _ (Ne.symm h1)];exact o.root,fun i p hp=>(o.own i p hp).mono fun q hq=>zb _ _ _ (ne i p hp q hq),fun i p hp q hq=>by rw[zb _ _ _ (ne i p hp q hq)];exact o.ap i p hp q hq,o.nd,fun q e hq he=>?_⟩
 rw[Lg.put_apply]at he ⊢
 split
 ·rename_i h9;rw[if_pos h9]at he;exact he
 ·rename_i h9;rw[if_neg h9]at he;exact o.old q e hq he
theorem we {α:Type}{l:List α}{i j:Nat}{x y:α}(h:(l.set i x)[j]?=some y):(i=j∧y=x∧i<l.length)∨(i≠j∧l[j]?=some y):=by
 by_cases hij:i=j
 ·subst hij
  have hl:=(List.getElem?_eq_some_iff.1 h).1
  simp at hl
  rw[List.getElem?_set_self hl]at h
  cases h
  exact .inl ⟨rfl,rfl,hl⟩
 ·rw[List.getElem?_set_ne hij]at h;exact .inr ⟨hij,h⟩
theorem GO.inplace (o:GO L r cs sl K){i:Nat}{p:SlD}(hp:sl[i]?=some p){b:Nat}(hb:slB p.v=some b){cs':List AV}(hl:cs'.length=p.cs.length):GO L r cs (sl.set i { p with cs:=cs' }) (K.put b (.raw (.cells cs'))):=by
 obtain⟨n1,n2⟩:=o.ap i p hp b hb
 refine⟨by rw[zb _ _ _ (Ne.symm n1)];exact o.root,fun j q hq=>?_,fun j q hq=>?_,fun j k q w hjk hq hw=>?_,fun q e hq he=>by rw[zb _ _ _ (by rintro rfl;rw[n2]at he;cases he)];exact o.old q e hq he⟩
 ·rcases we hq with⟨rfl,rfl,_⟩ | ⟨hij,hq⟩
  ·have:=o.own i p hp
   rcases this with⟨h1,h2,h3⟩ | ⟨b',ex,h1,h2,h3,h4,h5⟩
   ·rw[h3]at hb;cases hb
   ·rw[h2]at hb;simp[slB]at hb;subst hb
    exact .inr ⟨b',ex,h1,h2,h3,ze _ _ _,by rw[hl];exact h5⟩
  ·exact (o.own j q hq).mono fun w hw=>zb _ _ _ (by rintro rfl;exact o.nd i j p q hij hp hq w hb hw)
 ·rcases we hq with⟨rfl,rfl,_⟩ | ⟨hij,hq⟩
  ·exact o.ap i p hp
  ·exact o.ap j q hq
 ·rcases we hq with⟨rfl,rfl,_⟩ | ⟨hij,hq⟩<;>rcases we hw with⟨rfl,rfl,_⟩ | ⟨hik,hw⟩
  ·exact absurd rfl hjk
  ·exact o.nd i k p w hjk hp hw
  ·exact o.nd j i q p hjk hq hp
  ·exact o.nd j k q w hjk hq hw
theorem GO.grow (o:GO L r cs sl K){i:Nat}{p q:SlD}(hp:sl[i]?=some p){K1:Lg}(h1:OSl K1 q.v q.cs q.n q.z)(h2:Yy (slB p.v) K K1)(h3:∀b,slB q.v=some b→K b=none∨slB p.v=some b)(cs':List AV) :
  GO L r cs' (sl.set i q) (K1.put r (.raw (.cells cs'))):=by
 have fr:∀b,slB q.v=some b→b≠r∧L b=none∧∀(j:Nat) (w:SlD),i≠j→sl[j]?=some w→slB w.v≠some b:=fun b hb=>by
  rcases h3 b hb with h | h
  ·have:=o.ne h;exact⟨this.1,this.2.1,fun j w _ hw=>this.2.2 j w hw⟩
  ·exact⟨(o.ap i p hp b h).1,(o.ap i p hp b h).2,fun j w hj hw=>o.nd i j p w hj hp hw b h⟩
 have kp:∀{b:Nat} {d:LC},b≠r→slB p.v≠some b→K b=some d→(K1.put r (.raw (.cells cs'))) b=some d:=fun {b d} g1 g2 g3=>by rw[zb _ _ _ g1];exact h2 b d g3 g2
 refine⟨ze _ _ _,fun j w hw=>?_,fun j w hw=>?_,fun j k a w hjk ha hw=>?_,fun b d hb hd=>kp hb (fun h9=>by have:=(o.ap i p hp b h9).2;rw[hd]at this;cases this) (o.old b d hb hd)⟩
 ·rcases we hw with⟨rfl,rfl,_⟩ | ⟨hij,hw⟩
  ·exact h1.mono fun b hb=>zb _ _ _ (fr b hb).1
  ·exact (o.own j w hw).sub fun b d hb hd=>kp (o.ap j w hw b hb).1 (fun h9=>o.nd i j p w hij hp hw b h9 hb) hd
 ·rcases we hw with⟨rfl,rfl,_⟩ | ⟨hij,hw⟩
  ·exact fun b hb=>⟨(fr b hb).1,(fr b hb).2.1⟩
  ·exact o.ap j w hw
 ·rcases we ha with⟨rfl,rfl,_⟩ | ⟨hij,ha'⟩<;>rcases we hw with⟨rfl,rfl,_⟩ | ⟨hik,hw'⟩
  ·exact absurd rfl hjk
  ·exact fun b hb=>(fr b hb).2.2 k w hik hw'
  ·exact fun b hb h9=>(fr b h9).2.2 j a hij ha' hb
  ·exact o.nd j k a w hjk ha' hw'
theorem GO.rd (o:GO L r cs sl K)(i:Nat):rdL K (r,i) none=cs[i]?:=zk o.root
def GP (r:Nat)(P:List AV→List SlD→Prop)(h:Hp):Prop:=∃cs sl M,P cs sl∧GO Lg.nil r cs sl M∧Sat M h
theorem GO.shut {P:List AV→List SlD→Prop}(o:GO L r cs sl K)(hP:P cs sl):zu K (L.put r (.abs (GP r P))):=by
 refine yW (fun b=>b=r∨∃(i:Nat) (p:SlD),sl[i]?=some p∧slB p.v=some b) (.inl rfl) ?_ ?_ (.inl ⟨_,o.root⟩) ?_
 ·intro b d hb hd
  exact o.old b d (fun h9=>hb (.inl h9)) hd
 ·rintro b (rfl | ⟨i,p,hp,h⟩) hb
  ·exact absurd rfl hb
  ·exact (o.ap i p hp b h).2
 ·intro M hp hM hN hs
  refine⟨cs,sl,M,hP,⟨?_,fun i p hp=>(o.own i p hp).mono fun b hb=>hM b (.inr ⟨i,p,hp,hb⟩),fun i p hp b hb=>⟨(o.ap i p hp b hb).1,rfl⟩,o.nd,fun q d _ hd=>by simp[Lg.nil]at hd⟩,hs⟩
  rw[hM r (.inl rfl)];exact o.root
theorem GO.over {M:Lg}(o:GO Lg.nil r cs sl M)(hf:∀b c,M b=some c→b≠r→L b=none):GO L r cs sl (M.over L):=by
 have hi:∀b d,M b=some d→(M.over L) b=some d:=fun b d h=>by simp[Lg.over,h]
 refine⟨hi _ _ o.root,fun i p hp=>(o.own i p hp).sub fun b d _ hd=>hi b d hd,fun i p hp b hb=>⟨(o.ap i p hp b hb).1,hf b _ ((o.own i p hp).block hb) (o.ap i p hp b hb).1⟩,o.nd,fun q d hq hd=>?_⟩
 have:M q=none:=by
  cases h:M q with
  | none=>rfl
  | some e=>have:=hf q e h hq;rw[hd]at this;cases this
 simp[Lg.over,this,hd]
theorem zby {f:Nat}{vs:List AV}{Q:AV→Lg→Prop}{P:List AV→List SlD→Prop}(e:L r=some (.abs (GP r P)))(H:∀cs sl K,P cs sl→GO L r cs sl K→zd F f vs K Q):zd F f vs L Q:=by
 apply yX e
 rintro hm ⟨cs,sl,M,hP,o,hs⟩
 exact⟨M,hs,by rw[o.root];simp,fun hf=>H cs sl (M.over L) hP (o.over hf)⟩
end
end
section
variable {F:Nat→Option AFn}
structure RNd where
 after:Bool
 no:Int
 prog:Int
 gone:Bool
 plain:Bool
 err:Int
 cause:Int
 when:Int
 has:Bool
 own:Bool
 timer:Int
 c:Option Nat
def RNd.cells (x:RNd):List AV:=[.b x.after,.i .i64 x.no,.i .i64 x.prog,.b x.gone,.b x.plain,.i .i64 x.err,.i .i64 x.cause,.i .i64 x.when,.b x.has,.b x.own,.i .i64 x.timer,ptr x.c]
theorem RNd.len (x:RNd):x.cells.length=12:=rfl
theorem RNd.one (x:RNd):x.cells.all AV.one=true:=rfl
def zG (i:Nat)(o:One):RNd:=⟨false,i,0,false,o.free,o.err,o.cause,o.when,o.has,o.own,o.timer,o.c⟩
def wy (j:Nat)(a:Aft):RNd:=⟨true,j,a.prog,a.over,false,0,0,0,false,false,-1,none⟩
def ndc (n:Nd):List AV:=[.i .i64 n.parent,.b n.linked]
theorem vX (n:Nd):(ndc n).length=2:=rfl
structure NdsOk (σ:Cs)(nds:List RNd):Prop where
 len:nds.length=σ.tree.length
 one:∀(i k:Nat) (o:One),σ.ones[i]?=some o→o.node=(k:Int)→nds[k]?=some (zG i o)
 aft:∀(j k:Nat) (a:Aft),σ.afts[j]?=some a→a.node=(k:Int)→nds[k]?=some (wy j a)
def xsl (σ:Cs)(nds:List RNd)(tv nv cv av:AV):List SlD:=[⟨tv,zm ndc σ.tree,σ.tree.length,2⟩,⟨nv,zm RNd.cells nds,nds.length,12⟩,⟨cv,zm fI (σ.ones.map (·.node)),σ.ones.length,1⟩,⟨av,zm fI (σ.afts.map (·.node)),σ.afts.length,1⟩]
def xrt (σ:Cs)(tv nv cv av:AV):List AV:=[ptr σ.t,tv,nv,cv,av]
structure XR (L:Lg)(c:Nat)(σ:Cs)(nds:List RNd)(tv nv cv av:AV)(K:Lg):Prop where
 g:GO L c (xrt σ tv nv cv av) (xsl σ nds tv nv cv av) K
 n:NdsOk σ nds
section
variable {L K:Lg} {c:Nat} {σ:Cs} {nds:List RNd} {tv nv cv av:AV}
theorem XR.f0 (o:XR L c σ nds tv nv cv av K):rdL K (c,0) none=some (ptr σ.t):=o.g.rd 0
theorem XR.f1 (o:XR L c σ nds tv nv cv av K):rdL K (c,1) none=some tv:=o.g.rd 1
theorem XR.f2 (o:XR L c σ nds tv nv cv av K):rdL K (c,2) none=some nv:=o.g.rd 2
theorem XR.f3 (o:XR L c σ nds tv nv cv av K):rdL K (c,3) none=some cv:=o.g.rd 3
theorem XR.f4 (o:XR L c σ nds tv nv cv av K):rdL K (c,4) none=some av:=o.g.rd 4
theorem XR.ts (o:XR L c σ nds tv nv cv av K):OSl K tv (zm ndc σ.tree) σ.tree.length 2:=o.g.own 0 _ rfl
theorem XR.ns (o:XR L c σ nds tv nv cv av K):OSl K nv (zm RNd.cells nds) nds.length 12:=o.g.own 1 _ rfl
theorem XR.cs (o:XR L c σ nds tv nv cv av K):OSl K cv (zm fI (σ.ones.map (·.node))) σ.ones.length 1:=o.g.own 2 _ rfl
theorem XR.as (o:XR L c σ nds tv nv cv av K):OSl K av (zm fI (σ.afts.map (·.node))) σ.afts.length 1:=o.g.own 3 _ rfl
theorem XR.sT (o:XR L c σ nds tv nv cv av K):SlG ndc 2 K tv σ.tree:=yy vX o.ts
theorem XR.sC (o:XR L c σ nds tv nv cv av K):SlG fI 1 K cv (σ.ones.map (·.node)):=yy Yp (by simpa using o.cs)
theorem XR.sA (o:XR L c σ nds tv nv cv av K):SlG fI 1 K av (σ.afts.map (·.node)):=yy Yp (by simpa using o.as)
theorem XR.sub (o:XR L c σ nds tv nv cv av K){K':Lg}(h:yd K K'):XR L c σ nds tv nv cv av K':=⟨o.g.sub h,o.n⟩
theorem XR.onto (o:XR L c σ nds tv nv cv av K){b:Nat}(hb:K b=none)(d:LC):XR (L.put b d) c σ nds tv nv cv av (K.put b d):=⟨o.g.onto hb d,o.n⟩
theorem XR.putOld (o:XR L c σ nds tv nv cv av K){b:Nat}(h1:b≠c){d0:LC}(h2:L b=some d0)(d:LC):XR (L.put b d) c σ nds tv nv cv av (K.put b d):=⟨o.g.putOld h1 h2 d,o.n⟩
theorem XR.nb (o:XR L c σ nds tv nv cv av K){k:Nat}(hk:k<nds.length):∃b,slB nv=some b∧K b=some (.raw (.cells (zm RNd.cells nds)))∧∀(X:Lg) (p:AV→Lg→Prop),za F (.iad 12) [nv,.i .i64 k] X p=p (.p (some (b,k * 12))) X:=by
 obtain⟨b,h1,h2,h3,h4⟩:=o.ns.iad (F:=F) (x:=(k:Int)) (by omega) (by omega)
 exact⟨b,h1,h2,fun X p=>by simpa using h4 X p .i64⟩
theorem XR.tb (o:XR L c σ nds tv nv cv av K){k:Nat}(hk:k<σ.tree.length):∃b,slB tv=some b∧K b=some (.raw (.cells (zm ndc σ.tree)))∧∀(X:Lg) (p:AV→Lg→Prop),za F (.iad 2) [tv,.i .i64 k] X p=p (.p (some (b,k * 2))) X:=by
 obtain⟨b,h1,h2,h3,h4⟩:=o.ts.iad (F:=F) (x:=(k:Int)) (by omega) (by omega)
 exact⟨b,h1,h2,fun X p=>by simpa using h4 X p .i64⟩
theorem XR.node (o:XR L c σ nds tv nv cv av K){b:Nat}(hb:slB nv=some b){σ':Cs}{nds':List RNd}(hl:nds'.length=nds.length)(h1:σ'.t=σ.t)(h2:σ'.tree=σ.tree)(h3:σ'.ones.map (·.node)=σ.ones.map (·.node))(h4:σ'.afts.map (·.node)=σ.afts.map (·.node))(hn:NdsOk σ' nds') :
  XR L c σ' nds' tv nv cv av (K.put b (.raw (.cells (zm RNd.cells nds')))):=by
 refine⟨?_,hn⟩
 have:=o.g.inplace (i:=1) (p:=⟨nv,zm RNd.cells nds,nds.length,12⟩) rfl hb (cs':=zm RNd.cells nds') (by rw[zV RNd.len,zV RNd.len,hl])
 have e1:σ'.ones.length=σ.ones.length:=by simpa using congrArg List.length h3
 have e2:σ'.afts.length=σ.afts.length:=by simpa using congrArg List.length h4
 simp only[xrt,xsl,h1,h2,h3,h4,e1,e2,hl]at this ⊢
 exact this
theorem XR.retree (o:XR L c σ nds tv nv cv av K){b:Nat}(hb:slB tv=some b){ns:List Nd}(hl:ns.length=σ.tree.length) :
  XR L c { σ with tree:=ns } nds tv nv cv av (K.put b (.raw (.cells (zm ndc ns)))):=by
 refine⟨?_,⟨by rw[o.n.len,←hl],o.n.one,o.n.aft⟩⟩
 have:=o.g.inplace (i:=0) (p:=⟨tv,zm ndc σ.tree,σ.tree.length,2⟩) rfl hb (cs':=zm ndc ns) (by rw[zV vX,zV vX,hl])
 simp only[xrt,xsl,hl]at this ⊢
 exact this
theorem wz (hf:H_f194 F)(o:XR L c σ nds tv nv cv av K)(id:Int):zd F k_f194 [.p (some (c,0)),.i .i64 id] K fun v K'=>v=.b (σ.has id)∧K'=K:=by
 refine zr ?_
 intro Q hQ
 apply r_f194 hf.code
 unfold D_f194_1
 have hlen:=fun X k=>o.cs.len (F:=F) X k
 have fin:∀b:Bool,σ.has id=b→zl (some (.b b)) Q K:=fun b h=>⟨K,zu.refl _,hQ _ _ ⟨by rw[h],rfl⟩⟩
 by_cases h:0≤id
 ·simp only[zf,vK,ge_iff_le,h,decide_true,zx,yk,zg,zj,Nat.zero_add,zt,o.f3,zh,hlen,y0,zT]
  exact fin _ (by simp[Cs.has,h])
 ·simp[h]
  exact fin _ (by simp[Cs.has,h])
theorem xN (hf:H_f195 F)(o:XR L c σ nds tv nv cv av K){i k:Nat}{x:One}(hx:σ.ones[i]?=some x)(hk:x.node=(k:Int))(hl:k<nds.length):zd F k_f195 [.p (some (c,0)),.i .i64 i] K fun v K'=>(∃b,slB nv=some b∧v=.p (some (b,k * 12)))∧K'=K:=by
 refine zr ?_
 intro Q hQ
 apply r_f195 hf.code
 unfold D_f195_1
 obtain⟨q,w,q1,q2,_⟩:=o.sC.get (F:=F) (i:=i) (x:=(k:Int)) (by rw[List.getElem?_map,hx,←hk];rfl)
 have r0:rdL K (q,w) none=some (.i .i64 k):=(q2 K (yd.refl _)).1 0 (by omega)
 obtain⟨b,h1,h2,h3⟩:=o.nb (F:=F) hl
 simp only[zf,zg,zj,Nat.zero_add,zt,o.f2,o.f3,zh,q1,r0,h3]
 exact⟨K,zu.refl _,hQ _ _ ⟨⟨b,h1,rfl⟩,rfl⟩⟩
theorem XR.rn (o:XR L c σ nds tv nv cv av K){b k j:Nat}(hb:slB nv=some b){x:RNd}(hx:nds[k]?=some x)(hj:j<12):rdL K (b,k * 12+j) none=x.cells[j]?:=by
 rw[zk (o.ns.block hb),vo RNd.len nds k j x hx hj]
theorem zc8 (hf:H_f200 F)(o:XR L c σ nds tv nv cv av K)(hl:σ.tree.length≤1000)(k:Int):zd F k_f200 [.p (some (c,1)),.i .i64 k] K fun v K'=>LitS K v (zm fI ((zI σ.tree k).map fun (i:Nat)=>(i:Int))) (zI σ.tree k).length 1 K':=by
 refine zr ?_
 intro Q hQ
 apply r_f200 hf.code
 unfold D_f200_1 D_f200_2 D_f200_5 D_f200_7
 obtain⟨T,hT⟩:∃T,T=σ.tree:=⟨_,rfl⟩
 obtain⟨I,hI⟩:∃I:Nat→Env→Lg→Prop,I=fun m E K'=>∃i:Nat,m+i=T.length∧E 0=.p (some (c,1))∧E 1=.i .i64 k∧E 6=.i .i64 i ∧
   LitS K (E 5) (zm fI (((List.range i).filter (vn T k)).map fun (i:Nat)=>(i:Int))) ((List.range i).filter (vn T k)).length 1 K':=⟨_,rfl⟩
 refine zQ I T.length ?_ ?_
 ·rw[hI];exact⟨0,by omega,by simp[zJ],by simp[zJ],by simp,by simpa[zm]using LitS.nil K 1⟩
 intro m E t K' hi
 rw[hI]at hi
 obtain⟨i,hm,e0,e1,e6,li⟩:=hi
 have o':=o.sub li.s
 have hlen:=fun X k=>o'.sT.len (F:=F) X k
 unfold D_f200_8
 rw[e0,e1,e6]
 simp only[zf,zg,zj,Nat.add_zero,zt,o'.f1,zh,hlen,y0,zR]
 refine⟨fun hlt=>?_,fun hnl=>?_⟩
 rotate_left
 ·unfold D_f200_4
  have hi0:i=T.length:=by rw[hT]at hm ⊢;omega
  refine⟨K',zu.refl _,hQ _ _ ?_⟩
  rw[hi0]at li
  rw[←hT]
  exact li
 have hil:i<T.length:=by rw[hT];omega
 have hx:σ.tree[i]?=some T[i]:=by rw[←hT];exact List.getElem?_eq_getElem hil
 have hh:vn T k i=(T[i].linked&&decide (T[i].parent=k)):=by unfold vn;rw[List.getElem?_eq_getElem hil]
 generalize T[i]=x at hx hh
 have w1:wr .i64 ((i:Int)+1)=((i+1:Nat):Int):=by rw[zS (by omega) (by omega)];omega
 obtain⟨b,q,q1,q2,_⟩:=o'.sT.get (F:=F) hx
 have ra:rdL K' (b,q) none=some (.i .i64 x.parent):=(q2 K' (yd.refl _)).1 0 (by omega)
 have rb:rdL K' (b,q+1) none=some (.b x.linked):=(q2 K' (yd.refl _)).1 1 (by omega)
 have hrange:(List.range (i+1)).filter (vn T k)=(List.range i).filter (vn T k)++(if vn T k i=true then [i]else []):=by
  rw[List.range_succ,List.filter_append]
  congr 1
  by_cases h:vn T k i=true
  ·rw[if_pos h,List.filter_cons_of_pos h];rfl
  ·rw[if_neg h,List.filter_cons_of_neg h];rfl
 have hfl:((List.range i).filter (vn T k)).length≤i:=by have:=List.length_filter_le (vn T k) (List.range i);simpa using this
 have skip:vn T k i=false→∃m',m'<m∧I m' (Env.put E 6 (.i .i64 ((i+1:Nat):Int))) K':=by
  intro h
  rw[hI]
  refine⟨m-1,by omega,i+1,by omega,by simp[e0],by simp[e1],by simp,?_⟩
  rw[hrange,if_neg (by rw[h];simp),List.append_nil]
  simpa using li
 cases hlk:x.linked with
 | false =>
  rw[hlk]at rb hh
  simp only[zf,zg,zj,Nat.add_zero,zt,o'.f1,zh,q1,rb,Ze,xv,zX,zB,xl,w1]
  exact skip (by rw[hh];rfl)
 | true =>
  rw[hlk]at rb hh
  simp only[zf,zg,zj,Nat.add_zero,zt,o'.f1,zh,q1,rb,ra,zx,yk,xL,zT,zR]
  refine⟨fun hp=>?_,fun hp=>?_⟩
  ·refine new1 rfl ?_
   intro v23 K3 o23 k3 f23
   have s3:yd K' K3:=fun r d hr=>k3.none_ hr
   have s23:SlG fI 1 K3 v23 [(i:Int)]:=yy (f:=fI) Yp (by simpa[zm,fI]using o23)
   refine (li.mono s3).app Yp ze1 (by omega) s23 (by simp;omega) ?_
   intro v24 K4 l4
   simp only[zf,xl,w1]
   rw[hI]
   refine⟨m-1,by omega,i+1,by omega,by simp[e0],by simp[e1],by simp,?_⟩
   rw[hrange,if_pos (by rw[hh];simp[hp]),List.map_append,ya]
   simpa using l4
  ·simp only[zf,xl,w1]
   exact skip (by rw[hh];simp[hp])
theorem za8 (T:List Nd)(k:Nat):zm ndc (ye T fun i=>decide (i=k))=(zm ndc T).set (k * 2+1) (.b false):=by
 have key:∀(T S:List Nd) (k:Nat),S.length=T.length→(∀(i:Nat) (n m:Nd),T[i]?=some n→S[i]?=some m→m.parent=n.parent∧m.linked=(n.linked&&!decide (i=k)))→zm ndc S=(zm ndc T).set (k * 2+1) (.b false):=by
  intro T
  induction T with
  | nil=>intro S k hl _;have:=List.length_eq_zero_iff.1 hl;subst this;simp[zm]
  | cons n r ih =>
   intro S k hl h
   cases S with
   | nil=>simp at hl
   | cons m q =>
    obtain⟨h1,h2⟩:=h 0 n m rfl rfl
    cases k with
    | zero =>
     have hq:zm ndc q=zm ndc r:=by
      have:=ih q (r.length+5) (by simpa using hl) (fun i a b ha hb=>by
       obtain⟨g1,g2⟩:=h (i+1) a b (by simpa using ha) (by simpa using hb)
       refine⟨g1,?_⟩
       have hi:¬i=r.length+5:=by have:=(List.getElem?_eq_some_iff.1 ha).1;omega
       rw[g2];simp[hi])
      rw[this,List.set_eq_of_length_le]
      rw[zV vX];omega
     simp only[zm,ndc,List.cons_append,List.nil_append,hq,h1,h2]
     simp
    | succ k =>
     have hq:zm ndc q=(zm ndc r).set (k * 2+1) (.b false):=ih q k (by simpa using hl) (fun i a b ha hb=>by
      obtain⟨g1,g2⟩:=h (i+1) a b (by simpa using ha) (by simpa using hb)
      refine⟨g1,?_⟩
      rw[g2];simp)
     simp only[zm,ndc,List.cons_append,List.nil_append,hq,h1,h2]
     have e:(k+1) * 2+1=k * 2+1+1+1:=by omega
     rw[e];simp
 refine key T _ k (yC _ _) ?_
 intro i n m hn hm
 rw[y3,hn]at hm
 simp at hm
 subst hm
 exact⟨rfl,rfl⟩
theorem Zk (hf:H_f196 F)(o:XR L c σ nds tv nv cv av K){k:Nat}(hk:k<σ.tree.length):zd F k_f196 [.p (some (c,1)),.i .i64 k] K fun v K'=>(∃b,v=.b b)∧XR L c { σ with tree:=ye σ.tree fun i=>decide (i=k) } nds tv nv cv av K'∧∀b,slB tv≠some b→K' b=K b:=by
 refine zr ?_
 intro Q hQ
 apply r_f196 hf.code
 unfold D_f196_1
 have hlen:=fun X k=>o.sT.len (F:=F) X k
 have c1:¬(k:Int)<0:=by omega
 have c2:¬(k:Int)≥(σ.tree.length:Int):=by omega
 obtain⟨b,h1,h2,h3⟩:=o.tb (F:=F) hk
 have hx:σ.tree[k]?=some σ.tree[k]:=List.getElem?_eq_getElem hk
 generalize σ.tree[k]=x at hx
 have rb:rdL K (b,k * 2+1) none=some (.b x.linked):=by rw[zk h2,vo vX σ.tree k 1 x hx (by omega)];rfl
 have o2:=o.retree h1 (ns:=ye σ.tree fun i=>decide (i=k)) (yC _ _)
 rw[za8]at o2
 simp only[zf,y0,c1,decide_false,zx,yk,zg,zj,Nat.add_zero,zt,o.f1,zh,hlen,vK,c2,zX,h3,rb]
 cases hl:x.linked with
 | false =>
  rw[hl]at rb
  simp only[zf,yf,Bool.not_false,zX,zZ]
  refine⟨K,zu.refl _,hQ _ _ ⟨⟨_,rfl⟩,?_,fun _ _=>rfl⟩⟩
  have:(zm ndc σ.tree).set (k * 2+1) (.b false)=zm ndc σ.tree:=by
   apply List.ext_getElem?
   intro j
   by_cases hj:k * 2+1=j
   ·subst hj
    have e:=vo vX σ.tree k 1 x hx (by omega)
    rw[List.getElem?_set_self (by rw[zV vX];omega),e]
    simp[ndc,hl]
   ·rw[List.getElem?_set_ne hj]
  rw[this]at o2
  rwa [yc _ _ _ h2]at o2
 | true =>
  rw[hl]at rb
  simp only[zf,yf,Bool.not_true,zX,zB,zg,zj,Nat.add_zero,zt,o.f1,zh,h3,yv]
  rw[zH h2 (by rw[zV vX];omega) rfl]
  exact⟨_,zu.refl _,hQ _ _ ⟨⟨_,rfl⟩,o2,fun q hq=>zb _ _ _ (by rintro rfl;exact hq h1)⟩⟩
end
end
section
variable {F:Nat→Option AFn}
structure OutR (c:Nat)(S:CX)(L:Lg):Prop where
 tms:∀s,S.σ.t=some s→s≠c∧L s=some (.abs (Yz s S.τ))
 chs:∀o∈S.σ.ones,∀a,o.c=some a→a≠c∧S.σ.t≠some a∧L a=some (.abs (ZW a (S.χ a)))
def FrR (c:Nat)(σ:Cs)(L L':Lg):Prop:=∀r d,r≠c→σ.t≠some r→(∀o∈σ.ones,o.c≠some r)→L r=some d→L' r=some d
def w6 (L:Lg)(c:Nat)(vs:List AV)(b:Nat):Prop:=L b=none∧b≠c∧∀v∈vs,slB v≠some b
structure RRes (L:Lg)(c:Nat)(vs:List AV)(K:Lg)(v1 v2:AV)(ps:List (Lap×AV))(sts:List (Int×Int)):Prop where
 o1:OSl K v1 (zm zaD ps) ps.length 4
 o2:OSl K v2 (zm stc sts) sts.length 2
 ins:∀p∈ps,OSe K p.2 (zm Wk.cells p.1.wakes) p.1.wakes.length 5∧∀b,slB p.2=some b→w6 L c vs b∧slB v1≠some b∧slB v2≠some b
 f1:∀b,slB v1=some b→w6 L c vs b∧slB v2≠some b
 f2:∀b,slB v2=some b→w6 L c vs b
section
variable {L K:Lg} {c:Nat} {vs:List AV} {v1 v2:AV} {ps:List (Lap×AV)} {sts:List (Int×Int)}
theorem RRes.keep (h:RRes L c vs K v1 v2 ps sts){K' L':Lg}(hk:∀b x,w6 L c vs b→K b=some (.raw x)→K' b=some (.raw x))(hl:∀b,w6 L c vs b→K b≠none→L' b=none):RRes L' c vs K' v1 v2 ps sts:=by
 have fr:∀b,w6 L c vs b→K b≠none→w6 L' c vs b:=fun b hb hn=>⟨hl b hb hn,hb.2⟩
 have nn:∀{v:AV} {cs:List AV} {n z:Nat} {b:Nat},OSl K v cs n z→slB v=some b→K b≠none:=fun h1 h2=>by rw[h1.block h2];simp
 refine⟨h.o1.mono fun b hb=>?_,h.o2.mono fun b hb=>?_,fun p hp=>⟨(h.ins p hp).1.mono fun b hb=>?_,fun b hb=>⟨fr b ((h.ins p hp).2 b hb).1 (by rw[(h.ins p hp).1.block hb];simp),((h.ins p hp).2 b hb).2⟩⟩,fun b hb=>⟨fr b (h.f1 b hb).1 (nn h.o1 hb),(h.f1 b hb).2⟩,fun b hb=>fr b (h.f2 b hb) (nn h.o2 hb)⟩
 ·rw[h.o1.block hb];exact hk b _ (h.f1 b hb).1 (h.o1.block hb)
 ·rw[h.o2.block hb];exact hk b _ (h.f2 b hb) (h.o2.block hb)
 ·rw[(h.ins p hp).1.block hb];exact hk b _ ((h.ins p hp).2 b hb).1 ((h.ins p hp).1.block hb)
theorem RRes.sub (h:RRes L c vs K v1 v2 ps sts){K':Lg}(hk:yd K K'):RRes L c vs K' v1 v2 ps sts:=h.keep (fun b x _ hx=>hk b _ hx) (fun b hb _=>hb.1)
theorem RRes.nil (L:Lg)(c:Nat)(vs:List AV)(K:Lg):RRes L c vs K (.sl none 0 0 0) (.sl none 0 0 0) [] []:=⟨OSl.nil _ _,OSl.nil _ _,fun p hp=>by simp at hp,(fun b hb=>by cases hb),(fun b hb=>by cases hb)⟩
theorem zcm (p:Lap×AV):(zaD p).length=4:=rfl
theorem zaO (p:Int×Int):(stc p).length=2:=rfl
theorem zhf (p:Int×Int):(stc p).all AV.one=true:=rfl
theorem OSl.push1 {v:AV}{cs:List AV}{n z bytes:Nat}{zs:List AV}(h:OSl K v cs n z){x:List AV}(hz:zs.length=z)(hx:x.length=z)(h1:x.all AV.one=true)(h0:0<z)(hb:(n+1) * bytes≤70368744177664){k:AV→Lg→Prop}
  (hk:∀(v':AV) (K1:Lg),OSl K1 v' (cs++x) (n+1) z→Yy (slB v) K K1→(∀b,slB v'=some b→K b=none)→k v' K1):za F (.bslice zs 1 z [0]) [.agg x] K fun w L=>za F (.app z bytes) [v,w] L k:=by
 refine U5 hz hx h1 ?_
 intro w K1 ow s1 f1
 have hv:OSl K1 v cs n z:=h.sub fun b d _ hd=>s1 b d hd
 rw[WU]
 rcases ow with⟨h2,_⟩ | ⟨b,ex,h2,rfl,_,h3,h4⟩
 ·omega
 refine hv.app h0 rfl (by omega) (new:=x) ?_ (by omega) h1 hb ?_
 ·simp only[zF,h3,AB.read,cut,zq,Nat.zero_add,Nat.one_mul]
  rw[hx];simp[←hx]
 intro b2 K2 g hO
 have f2:K b2=none:=s1.none g.fresh
 refine hk _ _ hO ?_ ?_
 ·intro r d hr hne
  have r2:r≠b2:=by rintro rfl;rw[f2]at hr;cases hr
  rw[g.same r r2 hne];exact s1 r d hr
 ·intro q hq;simp[slB]at hq;subst hq;exact f2
theorem zga {ps:Lap×AV}(h:ps.2.one=true):(zaD ps).all AV.one=true:=by simp[zaD,h]
theorem RRes.lap (h:RRes L c vs K v1 v2 ps sts)(hl:ps.length<1000000){p:Lap×AV}(hp:OSe K p.2 (zm Wk.cells p.1.wakes) p.1.wakes.length 5)(hf:∀b,slB p.2=some b→w6 L c vs b∧slB v1≠some b∧slB v2≠some b){k:AV→Lg→Prop}
  (hk:∀(v':AV) (K1:Lg),RRes L c vs K1 v' v2 (ps++[p]) sts→Yy (slB v1) K K1→k v' K1) (hfree:∀b,K b=none→w6 L c vs b):za F (.bslice [.i .i64 0,.i .i64 0,.i .i64 0,.sl none 0 0 0] 1 4 [0]) [.agg (zaD p)] K fun w X=>za F (.app 4 48) [v1,w] X k:=by
 refine h.o1.push1 rfl rfl (zga hp.one) (by omega) (by omega) ?_
 intro v' K1 o1 k1 f1
 refine hk v' K1 ⟨by rw[ya];simpa[zm]using o1,h.o2.sub fun b d hb hd=>k1 b d hd (fun h9=>(h.f1 b h9).2 hb),fun q hq=>?_,fun b hb=>⟨hfree b (f1 b hb),fun h9=>by have:=h.o2.block h9;rw[f1 b hb]at this;cases this⟩,h.f2⟩ k1
 have key:∀q:Lap×AV,OSe K q.2 (zm Wk.cells q.1.wakes) q.1.wakes.length 5→(∀b,slB q.2=some b→w6 L c vs b∧slB v1≠some b∧slB v2≠some b)→OSe K1 q.2 (zm Wk.cells q.1.wakes) q.1.wakes.length 5∧∀b,slB q.2=some b→w6 L c vs b∧slB v'≠some b∧slB v2≠some b:=by
  intro q g1 g2
  refine⟨g1.sub fun b d hb hd=>k1 b d hd (g2 b hb).2.1,fun b hb=>⟨(g2 b hb).1,(fun h9=>by have:=g1.block hb;rw[f1 b h9]at this;cases this),(g2 b hb).2.2⟩⟩
 rcases List.mem_append.1 hq with hq | hq
 ·exact key q (h.ins q hq).1 (h.ins q hq).2
 ·simp at hq;subst hq;exact key q hp hf
theorem RRes.start (h:RRes L c vs K v1 v2 ps sts)(hl:sts.length<1000000){s:Int×Int}{k:AV→Lg→Prop}
  (hk:∀(v':AV) (K1:Lg),RRes L c vs K1 v1 v' ps (sts++[s])→Yy (slB v2) K K1→k v' K1) (hfree:∀b,K b=none→w6 L c vs b):za F (.bslice [.i .i64 0,.i .i64 0] 1 2 [0]) [.agg (stc s)] K fun w X=>za F (.app 2 16) [v2,w] X k:=by
 refine h.o2.push1 rfl rfl (zhf s) (by omega) (by omega) ?_
 intro v' K1 o2 k1 f1
 refine hk v' K1 ⟨h.o1.sub fun b d hb hd=>k1 b d hd (h.f1 b hb).2,by rw[ya];simpa[zm]using o2,fun q hq=>⟨(h.ins q hq).1.sub fun b d hb hd=>k1 b d hd ((h.ins q hq).2 b hb).2.2,fun b hb=>⟨((h.ins q hq).2 b hb).1,((h.ins q hq).2 b hb).2.1,fun h9=>by have:=(h.ins q hq).1.block hb;rw[f1 b h9]at this;cases this⟩⟩,fun b hb=>⟨(h.f1 b hb).1,fun h9=>by have:=h.o1.block hb;rw[f1 b h9]at this;cases this⟩,fun b hb=>hfree b (f1 b hb)⟩ k1
end
section
variable {L K:Lg} {c:Nat} {σ:Cs} {nds:List RNd} {tv nv cv av:AV} {S:CX}
theorem zfJ {b:Nat}(h:∀v∈[tv,nv,cv,av],slB v≠some b):∀(i:Nat) (p:SlD),(xsl σ nds tv nv cv av)[i]?=some p→slB p.v≠some b:=by
 intro i p hp
 have hi:=(List.getElem?_eq_some_iff.1 hp).1
 simp[xsl]at hi
 have:i=0∨i=1∨i=2∨i=3:=by omega
 rcases this with rfl | rfl | rfl | rfl<;>simp[xsl]at hp<;>subst hp<;>exact h _ (by simp)
theorem XR.free (o:XR L c σ nds tv nv cv av K){b:Nat}(hb:K b=none):w6 L c [tv,nv,cv,av] b:=by
 obtain⟨h1,h2,h3⟩:=o.g.ne hb
 refine⟨h2,h1,fun v hv=>?_⟩
 simp at hv
 rcases hv with rfl | rfl | rfl | rfl
 ·exact h3 0 _ rfl
 ·exact h3 1 _ rfl
 ·exact h3 2 _ rfl
 ·exact h3 3 _ rfl
theorem XR.keep (o:XR L c σ nds tv nv cv av K){K':Lg}{e:Option Nat}(h:Yy e K K')(hf:∀b,e=some b→w6 L c [tv,nv,cv,av] b):XR L c σ nds tv nv cv av K' :=
 ⟨o.g.keep h (fun h9=>(hf c h9).2.1 rfl) (fun i p hp b hb=>zfJ (hf b hb).2.2 i p hp) (fun b hb=>(hf b hb).1),o.n⟩
theorem NdsOk.setOne (h:NdsOk σ nds){w k:Nat}{x x':One}(hx:σ.ones[w]?=some x)(hk:x.node=(k:Int))(hn:x'.node=x.node):NdsOk { σ with ones:=σ.ones.set w x' } (nds.set k (zG w x')):=by
 have h0:=h.one w k x hx hk
 have hkl:=(List.getElem?_eq_some_iff.1 h0).1
 refine⟨by simp[h.len],fun i j o ho hj=>?_,fun q j a ha hj=>?_⟩
 ·rcases we ho with⟨rfl,rfl,_⟩ | ⟨hi,ho⟩
  ·have:j=k:=by rw[hn,hk]at hj;omega
   subst this
   rw[List.getElem?_set_self hkl]
  ·have h1:=h.one i j o ho hj
   have hjk:k≠j:=by rintro rfl;rw[h0]at h1;simp[zG]at h1;omega
   rw[List.getElem?_set_ne hjk];exact h1
 ·have h1:=h.aft q j a ha hj
  have hjk:k≠j:=by rintro rfl;rw[h0]at h1;simp[zG,wy]at h1
  rw[List.getElem?_set_ne hjk];exact h1
theorem NdsOk.setAft (h:NdsOk σ nds){w k:Nat}{x x':Aft}(hx:σ.afts[w]?=some x)(hk:x.node=(k:Int))(hn:x'.node=x.node):NdsOk { σ with afts:=σ.afts.set w x' } (nds.set k (wy w x')):=by
 have h0:=h.aft w k x hx hk
 have hkl:=(List.getElem?_eq_some_iff.1 h0).1
 refine⟨by simp[h.len],fun i j o ho hj=>?_,fun q j a ha hj=>?_⟩
 ·have h1:=h.one i j o ho hj
  have hjk:k≠j:=by rintro rfl;rw[h0]at h1;simp[zG,wy]at h1
  rw[List.getElem?_set_ne hjk];exact h1
 ·rcases we ha with⟨rfl,rfl,_⟩ | ⟨hi,ha⟩
  ·have:j=k:=by rw[hn,hk]at hj;omega
   subst this
   rw[List.getElem?_set_self hkl]
  ·have h1:=h.aft q j a ha hj
   have hjk:k≠j:=by rintro rfl;rw[h0]at h1;simp[wy]at h1;omega
   rw[List.getElem?_set_ne hjk];exact h1
theorem wm {α:Type}{f:α→Int}{l:List α}{i:Nat}{x x':α}(hx:l[i]?=some x)(h:f x'=f x):(l.set i x').map f=l.map f:=by
 apply List.ext_getElem?
 intro j
 simp only[List.getElem?_map]
 by_cases hj:i=j
 ·subst hj
  rw[List.getElem?_set_self (List.getElem?_eq_some_iff.1 hx).1,hx];simp[h]
 ·rw[List.getElem?_set_ne hj]
theorem ze7 (hf:H_f199 F)(o:XR L c S.σ nds tv nv cv av K)(out:OutR c S L){w:Nat}{x:One}(hx:S.σ.ones[w]?=some x)(hsz:∀a,x.c=some a→(S.χ a).recvs.length+(S.χ a).sends.length≤1000000) :
  zd F k_f199 [ptr x.c] K fun v K'=>∃L',XR L' c S.σ nds tv nv cv av K'∧OutR c (S.endT x.c).1 L'∧FrR c S.σ L L'∧(∀b,L b=none→L' b=none)∧OSe K' v (zm Wk.cells (S.endT x.c).2) (S.endT x.c).2.length 5∧(∀b,slB v=some b→K b=none)∧(∀b d,K b=some (.raw d)→K' b=some (.raw d)):=by
 have hmem:x∈S.σ.ones:=List.mem_of_getElem? hx
 cases hc:x.c with
 | none =>
  refine (WN hf K).mono ?_
  rintro v K' ⟨rfl,rfl⟩
  exact⟨L,o,out,fun r d _ _ _ h=>h,fun _ h=>h,.inl (OSl.nil _ _),(fun b hb=>by cases hb),fun _ _ h=>h⟩
 | some a =>
  obtain⟨h1,h2,h3⟩:=out.chs x hmem a hc
  have hKa:=o.g.old a _ h1 h3
  refine (zbl hf hKa (hsz a hc)).mono ?_
  intro v K' li
  have o2:=(o.putOld h1 h3 (.abs (ZW a (S.χ a).endS.1))).sub li.s
  refine⟨_,o2,⟨fun s hs=>?_,fun y hy q hq=>?_⟩,fun r d hr ht hcs hd=>?_,fun b hb=>?_,li.o,fun b hb=>?_,fun b d hb=>?_⟩
  ·have:=out.tms s hs
   have hsa:s≠a:=by rintro rfl;exact h2 hs
   exact⟨this.1,by rw[zb _ _ _ hsa];exact this.2⟩
  ·obtain⟨g1,g2,g3⟩:=out.chs y hy q hq
   refine⟨g1,g2,?_⟩
   by_cases hqa:q=a
   ·subst hqa;rw[ze];simp[CX.endT,y9]
   ·rw[zb _ _ _ hqa,g3];simp[CX.endT,y9,hqa]
  ·rw[zb _ _ _ (by rintro rfl;exact hcs x hmem hc)];exact hd
  ·rw[zb _ _ _ (by rintro rfl;rw[h3]at hb;cases hb)];exact hb
  ·have:=li.f b hb
   rw[zb _ _ _ (by rintro rfl;rw[ze]at this;cases this)]at this;exact this
  ·exact li.s b _ (by rw[zb _ _ _ (by rintro rfl;rw[hKa]at hb;cases hb)];exact hb)
theorem zcQ (hf:H_f80 F)(o:XR L c S.σ nds tv nv cv av K)(out:OutR c S L){B:Int}(tf:TFine S.τ B){u:Nat}(hu:S.σ.t=some u){id:Int}(hc:∀w,S.τ.one id=some w→w.c=none) :
  zd F k_f80 [.p (some (u,0)),.i .i64 id] K fun v K'=>(∃p q,v=.tup [p,q])∧∃L',XR L' c S.σ nds tv nv cv av K'∧OutR c (S.stopT id) L'∧FrR c S.σ L L'∧(∀b,L b=none→L' b=none)∧(∀b d,K b=some (.raw d)→K' b=some (.raw d))∧TFine (S.stopT id).τ B:=by
 obtain⟨h1,h2⟩:=out.tms u hu
 have hKu:=o.g.old u _ h1 h2
 cases ho:S.τ.one id with
 | none =>
  refine (zcU hf hKu id ho).mono ?_
  rintro v K' ⟨rfl,rfl⟩
  have:S.stopT id=S:=by unfold CX.stopT;rw[hu];simp only[ho]
  rw[this]
  exact⟨⟨_,_,rfl⟩,L,o,out,fun r d _ _ _ h=>h,fun _ h=>h,fun _ _ h=>h,tf⟩
 | some w =>
  have hw:=hc w ho
  refine (zcS hf hKu tf id ho (x:=.tm) rfl (fun a ha=>by rw[hw]at ha;cases ha)).mono ?_
  rintro v K' ⟨rfl,rfl⟩
  rw[hw]
  have:S.stopT id={ S with τ:={ S.τ with x:=S.τ.x.stop id } }:=by unfold CX.stopT;rw[hu];simp only[ho]
  rw[this]
  refine⟨⟨_,_,rfl⟩,_,o.putOld h1 h2 _,⟨fun s hs=>?_,fun y hy q hq=>?_⟩,fun r d hr ht _ hd=>?_,fun b hb=>?_,fun b d hb=>?_,⟨tf.g.stop id,tf.b,tf.o,tf.n⟩⟩
  ·have:s=u:=by rw[hu]at hs;cases hs;rfl
   subst this
   exact⟨h1,ze _ _ _⟩
  ·obtain⟨g1,g2,g3⟩:=out.chs y hy q hq
   exact⟨g1,g2,by rw[zb _ _ _ (by rintro rfl;exact g2 hu)];exact g3⟩
  ·rw[zb _ _ _ (by rintro rfl;exact ht hu)];exact hd
  ·rw[zb _ _ _ (by rintro rfl;rw[h2]at hb;cases hb)];exact hb
  ·simp only[Lg.putR]
   rw[zb _ _ _ (by rintro rfl;rw[hKu]at hb;cases hb)];exact hb
end
def xA (S:CX)(i:Nat):Prop:=∀(q:Nat) (x:Aft),S.σ.who i=some (-(q:Int)-1)→S.σ.afts[q]?=some x→x.over=false
theorem VC (T:List Nd)(err cause:Int)(A:Nat→Bool)(l1 l2:List Nat)(acc:Zq):walked T err cause A (l1++l2) acc=walked T err cause (fun i=>A i||decide (i∈l1)) l2 (walked T err cause A l1 acc):=by
 simp only[walked,List.foldl_append]
 obtain⟨X1,X2,X3⟩:=l1.foldl (z9 err cause) acc
 rw[XZ]
 simp only
 have hA3:(fun i=>A i||decide (i∈l1)||decide (i∈l2))=fun i=>A i||decide (i∈l1++l2):=by
  funext i;simp[Bool.or_assoc]
 rw[hA3]
 rfl
theorem xA.hit {T:List Nd}{acc:Zq}{i j:Nat}(err cause:Int)(h:xA acc.1 i)(hi:y8 T acc.1 i)(hj:y8 T acc.1 j)(hij:i≠j):xA (z9 err cause acc j).1 i:=by
 have hk:=wi err cause acc j
 intro q x hq hx
 rw[hk.1]at hq
 rcases hj with⟨w,y,h1,h2,h3,_⟩ | ⟨w,y,h1,h2,h3,h4,_⟩
 ·have hnn:¬((w:Int)<0):=by omega
  have:(z9 err cause acc j).1.σ.afts=acc.1.σ.afts:=by
   unfold z9
   simp only[h1,Option.getD_some,hnn,if_false,Int.toNat_natCast,h2]
   rw[(xO _ _).1,(wj _ _).1];rfl
  rw[this]at hx
  exact h q x hq hx
 ·have hneg:(-(w:Int)-1)<0:=by omega
  have hkk:(-(-(w:Int)-1)-1)=(w:Int):=by omega
  have he:(z9 err cause acc j).1.σ.afts=acc.1.σ.afts.set w { y with over:=true }:=by
   unfold z9
   simp only[h1,Option.getD_some,hneg,if_true,hkk,Int.toNat_natCast,h3]
  rw[he]at hx
  rcases we hx with⟨rfl,rfl,_⟩ | ⟨_,hx⟩
  ·rcases hi with⟨w',y',g1,_⟩ | ⟨w',y',g1,g2,g3,g4,_⟩
   ·rw[hq]at g1;simp at g1;omega
   ·rw[hq]at g1;simp at g1
    have:w'=w:=by omega
    subst this
    rw[h3]at g3;cases g3
    rw[h4]at g4;omega
  ·exact h q x hq hx
theorem xA.hits {T:List Nd}(err cause:Int):∀(l:List Nat) (acc:Zq),(∀i∈l,y8 T acc.1 i)→l.Nodup→∀i,y8 T acc.1 i→i∉l→xA acc.1 i→xA (l.foldl (z9 err cause) acc).1 i
 | [],acc,_,_,i,_,_,h=>h
 | a::r,acc,hl,hn,i,hi,hil,h=>by
  simp at hil
  have ha:=hl a (by simp)
  have hn':=List.nodup_cons.1 hn
  simp only[List.foldl_cons]
  exact xA.hits err cause r _ (fun j hj=>(hl j (by simp[hj])).hit err cause ha (by rintro rfl;exact hn'.1 hj)) hn'.2 i (hi.hit err cause ha hil.1) hil.2 (h.hit err cause hi ha hil.1)
end
section
variable {F:Nat→Option AFn}
theorem FrR.refl (c:Nat)(σ:Cs)(L:Lg):FrR c σ L L:=fun _ _ _ _ _ h=>h
theorem zex {σ σ':Cs}(hn:σ'.names=σ.names){r:Nat}(h:∀o∈σ.ones,o.c≠some r):∀o∈σ'.ones,o.c≠some r:=by
 intro o ho
 have h1:(o.c,o.node)∈σ'.names:=List.mem_map.2 ⟨o,ho,rfl⟩
 rw[hn]at h1
 obtain⟨p,hp,he⟩:=List.mem_map.1 h1
 have:=h p hp
 simp only[Prod.mk.injEq]at he
 rw[←he.1];exact this
theorem FrR.trans {c:Nat}{σ σ':Cs}{L L1 L2:Lg}(h:FrR c σ L L1)(ht:σ'.t=σ.t)(hn:σ'.names=σ.names)(k:FrR c σ' L1 L2):FrR c σ L L2:=fun r d h1 h2 h3 h4=>k r d h1 (by rw[ht];exact h2) (zex hn h3) (h r d h1 h2 h3 h4)
section
variable {L K:Lg} {c:Nat} {σ:Cs} {nds:List RNd} {tv nv cv av:AV} {S:CX}
theorem zaF {p:SlD}{i:Nat}(hp:(xsl σ nds tv nv cv av)[i]?=some p):p.v∈[tv,nv,cv,av]:=by
 have hi:=(List.getElem?_eq_some_iff.1 hp).1
 simp[xsl]at hi
 have:i=0∨i=1∨i=2∨i=3:=by omega
 rcases this with rfl | rfl | rfl | rfl<;>simp[xsl]at hp<;>subst hp<;>simp
theorem XR.adopt (o:XR L c σ nds tv nv cv av K){b:Nat}{d:LC}(hb:K b=some d)(hf:w6 L c [tv,nv,cv,av] b):XR (L.put b d) c σ nds tv nv cv av K:=by
 refine⟨⟨o.g.root,o.g.own,fun i p hp q hq=>⟨(o.g.ap i p hp q hq).1,?_⟩,o.g.nd,fun q e hq he=>?_⟩,o.n⟩
 ·rw[zb _ _ _ (by rintro rfl;exact hf.2.2 _ (zaF hp) hq)];exact (o.g.ap i p hp q hq).2
 ·rw[Lg.put_apply]at he
  split at he
  ·rename_i h9;rw[h9,hb];exact he
  ·exact o.g.old q e hq he
theorem OutR.retree (out:OutR c S L)(ns:List Nd):OutR c (S.setTree ns) L:=⟨out.tms,out.chs⟩
theorem OutR.put (out:OutR c S L){b:Nat}(hb:L b=none)(d:LC):OutR c S (L.put b d):=by
 have ne:∀{r:Nat} {P:LC},L r=some P→r≠b:=fun h=>by rintro rfl;rw[hb]at h;cases h
 exact⟨fun s hs=>⟨(out.tms s hs).1,by rw[zb _ _ _ (ne (out.tms s hs).2)];exact (out.tms s hs).2⟩,fun o ho a ha=>⟨(out.chs o ho a ha).1,(out.chs o ho a ha).2.1,by rw[zb _ _ _ (ne (out.chs o ho a ha).2.2)];exact (out.chs o ho a ha).2.2⟩⟩
end
def zg0 (F:Nat→Option AFn)(N:Nat→Nat)(T:List Nd)(n:Nat):Prop :=
 ∀(c k:Nat) (A:Nat→Bool) (S:CX) (err cause B:Int) (L K:Lg) (nds:List RNd) (tv nv cv av v1 v2:AV) (ps:List (Lap×AV)) (sts:List (Int×Int)),
 T.length<k+n→k<T.length→S.σ.tree=ye T A→(∀i∈pre T n k,A i=false)→(∀i∈pre T n k,y8 T S i)→(∀i∈pre T n k,xA S i)→TFine S.τ B →
 XR L c S.σ nds tv nv cv av K→OutR c S L→RRes L c [tv,nv,cv,av] K v1 v2 ps sts→ps.length+(pre T n k).length≤900000→sts.length+(pre T n k).length≤900000 →
 zd F k_f201 [.p (some (c,0)),.i .i64 k,.i .i64 err,.i .i64 cause,v1,v2] K fun v K'=>∃(R:Zq) (L':Lg) (nds':List RNd) (w1 w2:AV) (ps':List (Lap×AV)),
  R=walked T err cause A (pre T n k) (S,ps.map (·.1),sts)∧v=.tup [w1,w2]∧XR L' c R.1.σ nds' tv nv cv av K'∧OutR c R.1 L'∧FrR c S.σ L L'∧RRes L' c [tv,nv,cv,av] K' w1 w2 ps' R.2.2∧ps'.map (·.1)=R.2.1∧TFine R.1.τ B∧R.1.σ.t=S.σ.t∧R.1.σ.names=S.σ.names
section
variable {L K:Lg} {c:Nat} {σ:Cs} {nds:List RNd} {tv nv cv av:AV} {S:CX}
theorem Vl (T:List Nd)(A:Nat→Bool)(k:Nat):ye (ye T A) (fun i=>decide (i=k))=ye T fun i=>A i||decide (i∈[k]):=by
 rw[ZM];congr 1;funext i;simp
theorem zgh (hf:H_f196 F){T:List Nd}{k:Nat}{A:Nat→Bool}{err cause B:Int}{v1 v2:AV}{ps:List (Lap×AV)}{sts:List (Int×Int)}{Q:AV→Lg→Prop}{E:Env}
  (hS:S.σ.tree=ye T A) (hk:k<T.length) (tf:TFine S.τ B) (o:XR L c S.σ nds tv nv cv av K) (out:OutR c S L) (rr:RRes L c [tv,nv,cv,av] K v1 v2 ps sts) (hs:sts.length<900000)
  {q:Nat} {x:Aft} (h1:S.σ.who k=some (-(q:Int)-1)) (h3:S.σ.afts[q]?=some x) (h4:x.node=(k:Int)) (ho:x.over=false) {b:Nat} (hb:slB nv=some b)
  (e0:E 0=.p (some (c,0))) (e1:E 1=.i .i64 k) (e4:E 4=v1) (e5:E 5=v2) (e14:E 14=.p (some (b,k * 12)))
  (hQ:∀(w2:AV) (K':Lg) (nds':List RNd),XR L c (walked T err cause A [k] (S,ps.map (·.1),sts)).1.σ nds' tv nv cv av K'→RRes L c [tv,nv,cv,av] K' v1 w2 ps (walked T err cause A [k] (S,ps.map (·.1),sts)).2.2→Q (.tup [v1,w2]) K'):D_f201_16 F Q E (.b true) K:=by
 unfold D_f201_16
 rw[e0,e1,e4,e5,e14]
 have hx:=o.n.aft q k x h3 h4
 have hkl:=(List.getElem?_eq_some_iff.1 hx).1
 have r3:rdL K (b,k * 12+3) none=some (.b false):=by rw[o.rn hb hx (by omega)];simp[wy,RNd.cells,ho]
 have hcells:=o.ns.block hb
 simp only[zf,zZ,zg,zj,zt,r3,zh,yf,Bool.not_false,yv]
 rw[zH hcells (by rw[zV RNd.len];omega) rfl]
 have hset:(zm RNd.cells nds).set (k * 12+3) (.b true)=zm RNd.cells (nds.set k (wy q { x with over:=true })):=xj RNd.len nds k (wy q x) (wy q { x with over:=true }) 3 _ hx (by omega) rfl
 rw[hset]
 have o1:=o.node hb (σ':={ S.σ with afts:=S.σ.afts.set q { x with over:=true } }) (nds':=nds.set k (wy q { x with over:=true })) (by simp) rfl rfl rfl (wm h3 rfl) (o.n.setAft h3 h4 rfl)
 have rr1:RRes L c [tv,nv,cv,av] (K.put b (.raw (.cells (zm RNd.cells (nds.set k (wy q { x with over:=true })))))) v1 v2 ps sts:=rr.keep (fun q' y hq hy=>by rw[zb _ _ _ (by rintro rfl;exact hq.2.2 nv (by simp) hb)];exact hy) (fun q' hq _=>hq.1)
 generalize (K.put b (.raw (.cells (zm RNd.cells (nds.set k (wy q { x with over:=true }))))))=K1 at o1 rr1
 have hx1:(nds.set k (wy q { x with over:=true }))[k]?=some (wy q { x with over:=true }):=List.getElem?_set_self hkl
 have r1:rdL K1 (b,k * 12+1) none=some (.i .i64 q):=by rw[o1.rn hb hx1 (by omega)];rfl
 have r2:rdL K1 (b,k * 12+2) none=some (.i .i64 x.prog):=by rw[o1.rn hb hx1 (by omega)];rfl
 have hbd:∀k':AV→Lg→Prop,za F (.build [.i .i64 0,.i .i64 0] [(0,1),(1,1)]) [.i .i64 q,.i .i64 x.prog] K1 k'=k' (.agg (stc ((q:Int),x.prog))) K1:=by
  intro k';simp[zE,zo,zq,zp,stc]
 simp only[zf,zg,zj,zt,r1,r2,zh,hbd]
 refine rr1.start (by omega) ?_ (fun b' hb'=>o1.free hb')
 intro w2 K2 rr2 k2
 have o2:=o1.keep k2 (fun b' hb'=>rr1.f2 b' hb')
 simp only[zf,zg,zj,Nat.zero_add]
 refine (Zk hf o2 (k:=k) (by rw[hS,yC];exact hk)).mono ?_
 rintro _ K3 ⟨⟨bb,rfl⟩,o3,k3⟩
 have hneg:(-(q:Int)-1)<0:=by omega
 have hkk:(-(-(q:Int)-1)-1)=(q:Int):=by omega
 have hw:walked T err cause A [k] (S,ps.map (·.1),sts)=(({ S with σ:={ S.σ with afts:=S.σ.afts.set q { x with over:=true } } }:CX).setTree (ye T fun i=>A i||decide (i∈[k])),ps.map (·.1),sts++[((q:Int),x.prog)]):=by
  unfold walked z9
  simp only[List.foldl_cons,List.foldl_nil,h1,Option.getD_some,hneg,if_true,hkk,Int.toNat_natCast,h3]
 refine⟨K3,zu.refl _,hQ w2 K3 (nds.set k (wy q { x with over:=true })) ?_ ?_⟩
 ·rw[hw]
  simp only[CX.setTree]
  rw[←Vl,←hS]
  exact o3
 ·rw[hw]
  exact rr2.keep (fun q' y hq hy=>by rw[k3 q' (hq.2.2 tv (by simp))];exact hy) (fun q' hq _=>hq.1)
theorem zeZ (hf:H_f201 F){T:List Nd}(ht:TreeOk T){n k:Nat}(ih:zg0 F N T n){err cause B:Int}{Q:AV→Lg→Prop}{nds:List RNd}{A:Nat→Bool}{S0:CX}{v1 v2:AV}{ps:List (Lap×AV)}{sts:List (Int×Int)}{E:Env}
  (hn:T.length<k+n+1) (hk:k<T.length) (hS:S.σ.tree=ye T A) (hA:∀j∈zI T (k:Int),∀i∈pre T n j,A i=false) (hL:∀j∈zI T (k:Int),∀i∈pre T n j,y8 T S i∧xA S i) (tf:TFine S.τ B)
  (o:XR L c S.σ nds tv nv cv av K) (out:OutR c S L) (rr:RRes L c [tv,nv,cv,av] K v1 v2 ps sts) (hp:ps.length+((zI T (k:Int)).flatMap (pre T n)).length≤900000) (hs:sts.length+((zI T (k:Int)).flatMap (pre T n)).length≤900000)
  {v15:AV} (h15:OSe K v15 (zm fI ((zI T (k:Int)).map fun (i:Nat)=>(i:Int))) (zI T (k:Int)).length 1) (f15:∀b,slB v15=some b→L b=some (.raw (.cells (zm fI ((zI T (k:Int)).map fun (i:Nat)=>(i:Int)))))∧b≠c)
  (e0:E 0=.p (some (c,0))) (e1:E 1=.i .i64 k) (e2:E 2=.i .i64 err) (e3:E 3=.i .i64 cause) (e4:E 4=v1) (e5:E 5=v2) (e15:E 15=v15)
  (hQ:∀(R:Zq) (L':Lg) (nds':List RNd) (w1 w2:AV) (ps':List (Lap×AV)) (K':Lg),R=((walked T err cause A ((zI T (k:Int)).flatMap (pre T n)) (S,ps.map (·.1),sts)).1.setTree (ye T fun i=>(A i||decide (i∈(zI T (k:Int)).flatMap (pre T n)))||decide (i∈[k])),(walked T err cause A ((zI T (k:Int)).flatMap (pre T n)) (S,ps.map (·.1),sts)).2)→XR L' c R.1.σ nds' tv nv cv av K'→OutR c R.1 L'→FrR c S.σ L L'→RRes L' c [tv,nv,cv,av] K' w1 w2 ps' R.2.2→ps'.map (·.1)=R.2.1→TFine R.1.τ B→R.1.σ.t=S.σ.t→R.1.σ.names=S.σ.names→Q (.tup [w1,w2]) K') :
  D_f201_11 F Q E K:=by
 obtain⟨js,hjs⟩:∃js,js=zI T (k:Int):=⟨_,rfl⟩
 have hTl:=ht.len
 have hjl:js.length≤1000:=by rw[hjs];exact Nat.le_trans (vA _ _) hTl
 have hpw:js.Pairwise (fun a b=>a<b):=by rw[hjs];exact List.Pairwise.sublist List.filter_sublist List.pairwise_lt_range
 unfold D_f201_11 D_f201_13
 rw[←hjs]at hA hL hp hs h15 f15 hQ
 obtain⟨W,hW⟩:∃W,W=walked T err cause A (js.flatMap (pre T n)) (S,ps.map (·.1),sts):=⟨_,rfl⟩
 obtain⟨I,hI⟩:∃I:Nat→Env→Lg→Prop,I=fun m E K'=>∃(i:Nat) (A':Nat→Bool) (S':CX) (L':Lg) (nds':List RNd) (w1 w2:AV) (ps':List (Lap×AV)) (sts':List (Int×Int)),m+i=js.length∧i≤js.length ∧
   S'.σ.tree=ye T A'∧(∀j∈js.drop i,∀q∈pre T n j,A' q=false)∧(∀j∈js.drop i,∀q∈pre T n j,y8 T S' q∧xA S' q)∧TFine S'.τ B∧XR L' c S'.σ nds' tv nv cv av K'∧OutR c S' L'∧FrR c S.σ L L'∧RRes L' c [tv,nv,cv,av] K' w1 w2 ps' sts' ∧
   S'.σ.t=S.σ.t∧S'.σ.names=S.σ.names∧ps'.length+((js.drop i).flatMap (pre T n)).length≤900000∧sts'.length+((js.drop i).flatMap (pre T n)).length≤900000∧W=walked T err cause A' ((js.drop i).flatMap (pre T n)) (S',ps'.map (·.1),sts')∧(∀q,A' q=(A q||decide (q∈(js.take i).flatMap (pre T n)))) ∧
   OSe K' v15 (zm fI (js.map fun (i:Nat)=>(i:Int))) js.length 1∧(∀b,slB v15=some b→L' b=some (.raw (.cells (zm fI (js.map fun (i:Nat)=>(i:Int)))))∧b≠c) ∧
   E 0=.p (some (c,0))∧E 1=.i .i64 k∧E 2=.i .i64 err∧E 3=.i .i64 cause∧E 4=w1∧E 5=w2∧E 15=v15∧E 16=.i .i64 i:=⟨_,rfl⟩
 refine zQ I js.length ?_ ?_
 ·rw[hI]
  refine⟨0,A,S,L,nds,v1,v2,ps,sts,by omega,by omega,hS,by simpa using hA,by simpa using hL,tf,o,out,FrR.refl _ _ _,rr,rfl,rfl,by simpa using hp,by simpa using hs,by simpa using hW,by simp,h15,f15,by simp[e0],by simp[e1],by simp[e2],by simp[e3],by simp[e4],by simp[e5],by simp[e15],by simp⟩
 intro m E t K' hi
 rw[hI]at hi
 obtain⟨i,A',S',L',nds',w1,w2,ps',sts',hm,hij,hS',hA',hL',tf',o',out',fr',rr',ht',hn',hp',hs',hW',hAA,h15',f15',e0,e1,e2,e3,e4,e5,e15,e16⟩:=hi
 have s15:SlG fI 1 K' v15 (js.map fun (i:Nat)=>(i:Int)):=OSe.slG Yp (by simpa using h15')
 have hlen:∀(X:Lg) (k:AV→Lg→Prop),za F .lenSl [v15] X k=k (.i .i64 js.length) X:=fun X k=>by have:=s15.len (F:=F) X k;simpa using this
 unfold D_f201_14
 rw[e0,e1,e2,e3,e4,e5,e15,e16]
 simp only[zf,hlen,y0,zR]
 refine⟨fun hlt=>?_,fun hnl=>?_⟩
 rotate_left
 ·-- all kids have fallen
  have hi0:i=js.length:=by omega
  subst hi0
  rw[List.drop_length]at hW'
  have hwn:W=(S',ps'.map (·.1),sts'):=by
   rw[hW']
   simp only[walked,List.flatMap_nil,List.foldl_nil]
   have:(ye T fun i=>A' i||decide (i∈([]:List Nat)))=S'.σ.tree:=by rw[hS'];congr 1;funext i;simp
   rw[this];rfl
  unfold D_f201_10
  simp only[zf,zg,zj,Nat.zero_add]
  refine (Zk hf.f196 o' (k:=k) (by rw[hS',yC];exact hk)).mono ?_
  rintro _ K3 ⟨⟨bb,rfl⟩,o3,k3⟩
  have htree:(ye S'.σ.tree fun i=>decide (i=k))=ye T fun i=>(A i||decide (i∈js.flatMap (pre T n)))||decide (i∈[k]):=by
   rw[hS',Vl]
   congr 1;funext q
   rw[hAA q,List.take_length]
  have hR:(S'.setTree (ye S'.σ.tree fun i=>decide (i=k)),ps'.map (·.1),sts')=(W.1.setTree (ye T fun i=>(A i||decide (i∈js.flatMap (pre T n)))||decide (i∈[k])),W.2):=by
   rw[hwn,htree]
  rw[hW]at hR
  refine⟨K3,zu.refl _,hQ _ L' nds' w1 w2 ps' K3 hR o3 (out'.retree _) fr' ?_ rfl tf' ht' hn'⟩
  exact rr'.keep (fun q' y hq hy=>by rw[k3 q' (hq.2.2 tv (by simp))];exact hy) (fun q' hq _=>hq.1)
 -- one kid
 have hil:i<js.length:=by omega
 have hx:js[i]?=some js[i]:=List.getElem?_eq_getElem hil
 have hdr:js.drop i=js[i]::js.drop (i+1):=List.drop_eq_getElem_cons hil
 have htk:js.take (i+1)=js.take i++[js[i]]:=by rw[List.take_add_one,hx];rfl
 have hlt:∀j2∈js.drop (i+1),js[i]<j2:=by
  intro j2 hj2
  obtain⟨q,hq⟩:=List.mem_iff_getElem?.1 hj2
  rw[List.getElem?_drop]at hq
  obtain⟨h8,h9⟩:=List.getElem?_eq_some_iff.1 hq
  have:=(List.pairwise_iff_getElem.1 hpw) i (i+1+q) hil h8 (by omega)
  rw[h9]at this;exact this
 generalize js[i]=j at hx hdr htk hlt
 have hjm:j∈zI T (k:Int):=by rw[←hjs];exact List.mem_of_getElem? hx
 have hjk:=xh ht hjm
 rw[hdr]at hA' hL' hp' hs' hW'
 simp only[List.flatMap_cons,List.length_append]at hp' hs'
 have w1i:wr .i64 ((i:Int)+1)=((i+1:Nat):Int):=by rw[zS (by omega) (by omega)];omega
 obtain⟨b15,q15,g1,g2,_⟩:=s15.get (F:=F) (i:=i) (x:=(j:Int)) (by rw[List.getElem?_map,hx];rfl)
 have rj:rdL K' (b15,q15) none=some (.i .i64 j):=(g2 K' (yd.refl _)).1 0 (by omega)
 simp only[zf,g1,zt,rj,zh]
 have hLj:∀q∈pre T n j,y8 T S' q:=fun q hq=>(hL' j (by simp) q hq).1
 have hNj:∀q∈pre T n j,xA S' q:=fun q hq=>(hL' j (by simp) q hq).2
 refine (ih c j A' S' err cause B L' K' nds' tv nv cv av w1 w2 ps' sts' (by omega) hjk.2 hS' (hA' j (by simp)) hLj hNj tf' o' out' rr' (by omega) (by omega)).mono ?_
 rintro _ K2 ⟨R,L2,nds2,x1,x2,ps2,hR,rfl,o2,out2,fr2,rr2,hps2,tf2,ht2,hn2⟩
 simp only[zf,yb,List.getElem?_cons_zero,List.getElem?_cons_succ,zh,xl,w1i]
 have hkeep:=Zc err cause (pre T n j) (S',ps'.map (·.1),sts') hLj (xY ht n j)
 have hno:=fun q h1 h2 h3=>xA.hits (T:=T) err cause (pre T n j) (S',ps'.map (·.1),sts') hLj (xY ht n j) q h1 h2 h3
 simp only at hkeep
 obtain⟨k1,k2,k3,k4,k5,k6⟩:=hkeep
 have hap:∀j'∈js.drop (i+1),∀q∈pre T n j',q∉pre T n j:=fun j' hj' q hq h9=>XM ht hjm (by rw[←hjs];exact List.mem_of_mem_drop hj') (hlt j' hj') n n q h9 hq
 have hR1:R.1=((pre T n j).foldl (z9 err cause) (S',ps'.map (·.1),sts')).1.setTree (ye T fun q=>A' q||decide (q∈pre T n j)):=by rw[hR];rfl
 have hR2:R.2=((pre T n j).foldl (z9 err cause) (S',ps'.map (·.1),sts')).2:=by rw[hR];rfl
 have hRl:ps2.length≤ps'.length+(pre T n j).length:=by
  have:=congrArg List.length hps2
  rw[hR2]at this
  simp only[List.length_map]at this k4
  omega
 have hRs:R.2.2.length≤sts'.length+(pre T n j).length:=by rw[hR2];exact k5
 rw[hI]
 refine⟨m-1,by omega,i+1,fun q=>A' q||decide (q∈pre T n j),R.1,L2,nds2,x1,x2,ps2,R.2.2,by omega,by omega,by rw[hR1];rfl,?_,?_,tf2,o2,out2,fr'.trans ht' hn' fr2,rr2,ht2.trans ht',hn2.trans hn',by omega,by omega,?_,?_,?_,?_,by simp[e0],by simp[e1],by simp[e2],by simp[e3],by simp,by simp,by simp[e15],by simp⟩
 ·intro j' hj' q hq
  have h1:=hA' j' (by simp[hj']) q hq
  have h2:=hap j' hj' q hq
  simp[h1,h2]
 ·intro j' hj' q hq
  have h1:=hL' j' (by simp[hj']) q hq
  have h2:=hap j' hj' q hq
  rw[hR1]
  exact⟨(k6 q h1.1 h2).tree _,hno q h1.1 h2 h1.2⟩
 ·rw[hW',List.flatMap_cons,VC,←hR]
  congr 1
  rw[hps2]
 ·intro q
  show (A' q||decide (q∈pre T n j))=_
  rw[htk,List.flatMap_append,hAA q]
  simp[Bool.or_assoc]
 ·refine h15'.sub fun b d hb hd=>?_
  obtain⟨f1,f2⟩:=f15' b hb
  have fL2:=fr2 b _ f2 (fun h9=>by have:=(out'.tms b h9).2;rw[f1]at this;cases this) (fun y hy h9=>by have:=(out'.chs y hy b h9).2.2;rw[f1]at this;cases this) f1
  have e1:=h15'.block hb
  rw[e1]at hd
  rw[←hd]
  exact o2.g.old b _ f2 fL2
 ·intro b hb
  obtain⟨f1,f2⟩:=f15' b hb
  exact⟨fr2 b _ f2 (fun h9=>by have:=(out'.tms b h9).2;rw[f1]at this;cases this) (fun y hy h9=>by have:=(out'.chs y hy b h9).2.2;rw[f1]at this;cases this) f1,f2⟩
end
end
end Go.AM
