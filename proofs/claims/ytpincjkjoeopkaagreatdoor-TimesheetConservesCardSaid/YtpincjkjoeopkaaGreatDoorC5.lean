/- The abstract machine. -/
import Derived.Test.YtpincjkjoeopkaaGreatDoorC4
set_option linter.all false
namespace Go.Abs
variable [dE]
def KY {bj:Type}(ce:List bj)(off:Nat)(ys:List bj):List bj:=ce.take off++ys++ce.drop (off+ys.length)
theorem arT {bj:Type}[aJ bj]{a b:List bj}{off:Nat}:kw (ai a) off (ai b)=ai (KY a off b):=by
 simp[kw,KY,ai]
theorem aPp {bj:Type}{ce:List bj}{M:bj}{k a m:Nat}(O:k<=ce.length)(hm:m=ce.length-k)(aC:m<=a): (((ce++[M]).drop k).take a).take m=ce.drop k:=by
 subst hm;rw[List.take_take,show min (ce.length-k) a=ce.length-k from by omega,List.drop_append_of_le_length O,aO9 (by simp),aLZ (by simp)]
theorem aPq {bj:Type}{ce:List bj}{M:bj}{k:Nat}(O:k<=ce.length): (KY (ce++[M]) (k+1) (ce.drop k)).length=ce.length+1:=by
 unfold KY;simp only[aKK,aLd,aLt,aK8,aLQ];omega
theorem aPr {bj:Type}{ce:List bj}{M x:bj}{k:Nat}(O:k<=ce.length): (KY (ce++[M]) (k+1) (ce.drop k)).set k x=ce.take k++x::ce.drop k:=by
 unfold KY;rw[aLt,show k+1+(ce.length-k)=ce.length+1 from by omega];have bK: (ce++[M]).drop (ce.length+1)=[]:=aP3 (by simp);rw[bK,aLY];have gX: (ce++[M]).take (k+1)=ce.take k++[(ce++[M])[k]'(by simp;omega)]:=by
  rw[aMP,aKS (by simp;omega),aNu,aO9 O]
 rw[gX,aKT,aOs _ _ (by rw[aLd];omega)];rw[aLd,show k-min k ce.length=0 from by omega];simp
attribute [go_sem] arT
theorem arU {P:Program}{bb:Nat}{J:gd}{K:oh}{D:aQ}{r:List Z}(aF:aQ->List Z->Prop)(h:eG P bb J ⟨aF,K.x,K.z⟩ D r)(dc:∀e z,aF e z->K.n e z):eG P bb J K D r:=
 xU (K:=⟨aF,K.x,K.z⟩) (aL:=K) J dc (λ_ _ _ h=>h) (λ_ _ h=>h) h
theorem W6 {P:Program}{bb:Nat}{a b:gd}{K:oh}{D:aQ}{r:List Z}(aF:aQ->List Z->Prop)(h:eG P bb a ⟨aF,K.x,K.z⟩ D r)(dc:∀e z,aF e z->E bb (eG P bb b K) e z):eG P bb (.seq a b) K D r:=by
 rw[W2];exact arU (K:=⟨E bb (eG P bb b K),K.x,K.z⟩) aF h dc
def xX (l:List (Int×Int)):List (F×F):=l.map λp=>(.int .i64 p.1,.int .i64 p.2)
def iw (l:List (Int×Int))(k:Int):Option Int:=(l.find? λp=>k==p.1).map (·.2)
def jb (k v:Int):List (Int×Int)->List (Int×Int)
 | []=> [(k,v)]
 |p::aa=>if k==p.1 then (k,v)::aa else p::jb k v aa
theorem W7:∀{l:List (Int×Int)},kh (xX l)=true
 | []=>aKF rfl
 |p::l=>by
  have:=W7 (l:=l);simp only[kh,xX,aLr,aKJ] at this ⊢;simp only[aKP,bU,aMZ,bJ,aLw];exact this
theorem W8 {k:Int}:∀{l:List (Int×Int)},dm (.int .i64 k) (xX l)=(iw l k).map (.int .i64 ·)
 | []=>aKF rfl
 |p::l=>by
  have ih:=W8 (k:=k) (l:=l);unfold xX iw at *;rw[aKP,dm,aM0];have:fB (.int .i64 k) (.int .i64 p.1)=(k==p.1):=by simp[fB,cp,ed]
  simp only[this];cases O:k==p.1
  ·simpa using ih
  ·rfl
theorem W9 {k v:Int}:∀{l:List (Int×Int)},dy (.int .i64 k) (.int .i64 v) (xX l)=xX (jb k v l)
 | []=>aKF rfl
 |p::l=>by
  have ih:=W9 (k:=k) (v:=v) (l:=l);unfold xX at *;rw[aKP,dy,jb];have:fB (.int .i64 k) (.int .i64 p.1)=(k==p.1):=by simp[fB,cp,ed]
  simp only[this];cases O:k==p.1
  ·simp only[aLK,aLi,aKP,ih]
  ·rfl
theorem Xa {k v br:Int}:∀{l:List (Int×Int)},iw (jb k v l) br=if br=k then some v else iw l br
 | []=>by
  unfold iw jb
  by_cases h:br=k<;>simp[h]
 |p::l=>by
  have ih:=Xa (k:=k) (v:=v) (br:=br) (l:=l);unfold iw at *;rw[jb];cases O:k==p.1
  ·simp only[aLK,aLi,aM0];cases gj:br==p.1
   ·exact ih
   ·have:¬br=k:=by
     intro e;subst e;rw[O] at gj;cases gj
    simp[this]
  ·have e:k=p.1:=by simpa using O
   simp only[aK5,aM0]
   by_cases h:br=k
   ·simp[h]
   ·have d: (br==k)=false:=by simpa using h
    have G: (br==p.1)=false:=by rw[<-e];exact d
    simp[d,G,h]
attribute [go_sem] Option.isSome_some Option.isSome_none Option.getD_some Option.getD_none W7 W8 W9
end Go.Abs
namespace Go.Abs
variable [dE]
mutual
def dt (n:Nat):F->Bool
 | .own z _ _ _=>decide (z<n)
 | .bd z _ _ _=>decide (z<n)
 | .agg ap=>gx n ap
 | .bo ap=>gx n ap
 | .fn _ ap=>gx n ap
 | .bE z=>decide (z<n)
 | .fO z m=>decide (z<n)&&decide (m<n)
 |_=>true
def gx (n:Nat):List F->Bool
 | []=>true
 |J::ap=>dt n J&&gx n ap
end
def mj (n:Nat):List (List F)->Bool
 | []=>true
 |e::ar=>gx n e&&mj n ar
def nG (n:Nat):List (F×F)->Bool
 | []=>true
 |p::aa=>dt n p.1&&dt n p.2&&nG n aa
def jc (n:Nat):Z->Bool
 | .fP=>true
 | .ag _ _ am=>mj n am
 | .be (.map _ _ ents)=>nG n ents
 | .be (.eh _ _)=>true
mutual
theorem Lk {n:Nat}:∀(a:F),bJ a=true->dt n a=true
 | .own ..,h=>by simp[bJ] at h
 | .bd ..,h=>by simp[bJ] at h
 | .agg ap,h=>by rw[bJ] at h;rw[dt];exact Ha ap h
 | .bo ap,h=>by rw[bJ] at h;rw[dt];exact Ha ap h
 | .fn _ ap,h=>by rw[bJ] at h;rw[dt];exact Ha ap h
 | .bE _,h=>by simp[bJ] at h
 | .fO ..,h=>by simp[bJ] at h
 | .int ..,_=>rfl
 | .bool ..,_=>rfl
 | .str ..,_=>rfl
 | .bH,_=>rfl
 | .kt,_=>rfl
 | .kH,_=>rfl
 | .pure ..,_=>rfl
 | .en ..,_=>rfl
 | .cj,_=>rfl
theorem Ha {n:Nat}:∀(as:List F),bU as=true->gx n as=true
 | [],_=>rfl
 |a::as,h=>by
  simp only[bU,aKJ] at h;rw[gx,Lk a h.1,Ha as h.2];rfl
end
theorem kA {n:Nat}:∀{ar:List (List F)},dY ar=true->mj n ar=true
 | [],_=>rfl
 |e::ar,h=>by
  simp only[dY,aKJ] at h;rw[mj,Ha e h.1,kA h.2];rfl
mutual
theorem Hb {n m:Nat}(h:n<=m):∀(a:F),dt n a=true->dt m a=true
 | .own ..,k=>by simp only[dt,aKN] at k ⊢;omega
 | .bd ..,k=>by simp only[dt,aKN] at k ⊢;omega
 | .agg ap,k=>by rw[dt] at k ⊢;exact Hc h ap k
 | .bo ap,k=>by rw[dt] at k ⊢;exact Hc h ap k
 | .fn _ ap,k=>by rw[dt] at k ⊢;exact Hc h ap k
 | .bE _,k=>by simp only[dt,aKN] at k ⊢;omega
 | .fO ..,k=>by simp only[dt,aKJ,aKN] at k ⊢;omega
 | .int ..,_=>rfl
 | .bool ..,_=>rfl
 | .str ..,_=>rfl
 | .bH,_=>rfl
 | .kt,_=>rfl
 | .kH,_=>rfl
 | .pure ..,_=>rfl
 | .en ..,_=>rfl
 | .cj,_=>rfl
theorem Hc {n m:Nat}(h:n<=m):∀(as:List F),gx n as=true->gx m as=true
 | [],_=>rfl
 |a::as,k=>by
  simp only[gx,aKJ] at k ⊢;exact⟨Hb h a k.1,Hc h as k.2⟩
end
theorem XU {n m:Nat}(h:n<=m):∀{ar:List (List F)},mj n ar=true->mj m ar=true
 | [],_=>rfl
 |e::ar,k=>by
  simp only[mj,aKJ] at k ⊢;exact⟨Hc h e k.1,XU h k.2⟩
theorem XV {n m:Nat}(h:n<=m):∀{ar:List (F×F)},nG n ar=true->nG m ar=true
 | [],_=>rfl
 |e::ar,k=>by
  simp only[nG,aKJ] at k ⊢;exact⟨⟨Hb h _ k.1.1,Hb h _ k.1.2⟩,XV h k.2⟩
theorem Qx {n m:Nat}(h:n<=m):∀{z:Z},jc n z=true->jc m z=true
 | .fP,_=>rfl
 | .ag ..,k=>XU h k
 | .be (.map ..),k=>XV h k
 | .be (.eh ..),_=>rfl
theorem XW:∀(k I z:Nat),hE ((List.range' I k).map some) z=if I<=z/\z<I+k then some (z-I) else none
 |0,I,z=>by rw[S (by omega)];rfl
 |k+1,I,z=>by
  rw[aN6,aKP,hE,XW k (I+1) z]
  by_cases h:I=z
  ·subst h;simp
  ·rw[S h]
   by_cases G:I+1<=z/\z<I+1+k
   ·rw[Rc G,Rc (by omega)];simp;omega
   ·rw[S G,S (by omega)];rfl
theorem Hd {n z:Nat}(h:z<n):hE ((List.range n).map some) z=some z:=by
 rw[aOt,XW,Rc (by omega)];simp
mutual
theorem Ll {r:List Z}{n:Nat}:∀(a:F),dt n a=true->bW r ((List.range n).map some) [] a=a
 | .own z ..,h=>by simp only[dt,aKN] at h;simp only[bW,Hd h]
 | .bd z ..,h=>by simp only[dt,aKN] at h;simp only[bW,Hd h]
 | .agg ap,h=>by rw[dt] at h;rw[bW,Ce ap h]
 | .bo ap,h=>by rw[dt] at h;rw[bW,Ce ap h]
 | .fn _ ap,h=>by rw[dt] at h;rw[bW,Ce ap h]
 | .bE _,h=>by simp only[dt,aKN] at h;simp only[bW,Hd h]
 | .fO ..,h=>by simp only[dt,aKJ,aKN] at h;simp only[bW,Hd h.1,Hd h.2]
 | .int ..,_=>rfl
 | .bool ..,_=>rfl
 | .str ..,_=>rfl
 | .bH,_=>rfl
 | .kt,_=>rfl
 | .kH,_=>rfl
 | .pure ..,_=>rfl
 | .en ..,_=>rfl
 | .cj,_=>rfl
theorem Ce {r:List Z}{n:Nat}:∀(as:List F),gx n as=true->dT r ((List.range n).map some) [] as=as
 | [],_=>rfl
 |a::as,h=>by
  simp only[gx,aKJ] at h;rw[dT,Ll a h.1,Ce as h.2]
end
theorem atx {r:List Z}{n:Nat}{ar:List (List F)}(h:mj n ar=true):lJ r ((List.range n).map some) [] ar=ar:=by
 rw[KV]
 induction ar with
 |nil=>rfl
 |cons e ar ih=>
  simp only[mj,aKJ] at h;rw[aKP,Ce e h.1,ih h.2]
theorem XX {r:List Z}{n:Nat}:∀{ar:List (F×F)},nG n ar=true->(ar.map λp=>(bW r ((List.range n).map some) [] p.1,bW r ((List.range n).map some) [] p.2))=ar
 | [],_=>rfl
 |e::ar,h=>by
  simp only[nG,aKJ] at h;rw[aKP,Ll _ h.1.1,Ll _ h.1.2,XX h.2]
theorem XY {r:List Z}{n:Nat}:∀{z:Z},jc n z=true->hr r ((List.range n).map some) [] z=z
 | .fP,_=>rfl
 | .ag ..,h=>by rw[hr,atx h]
 | .be (.map ..),h=>by rw[hr,XX h]
 | .be (.eh ..),_=>rfl
def jP (r:List Z):Prop:= ∀(z:Nat) (bG:Z),r[z]? =some bG->jc r.length bG=true
theorem XZ {r:List Z}(h:jP r):∀(k I:Nat),I+k=r.length->eC r [] ((List.range r.length).map some) ((List.range' I k).map some)=some (r.drop I)
 |0,I,e=>by rw[show I=r.length by omega];simp[eC]
 |k+1,I,e=>by
  have ao:I<r.length:=by omega
  rw[aN6,aKP,eC,XZ h k (I+1) (by omega),aKS ao];simp only;rw[XY (h I _ (aKS ao)),aL4 ao]
theorem X0 {r:List Z}(h:jP r):eC r [] ((List.range r.length).map some) ((List.range r.length).map some)=some r:=by
 have:=XZ h r.length 0 (by omega);rw[<-aOt] at this;simpa using this
theorem X1 (n:Nat):∀(k I c:Nat),eU n (List.range' I k) c=if c<k then I+c else n+(c-k)
 |0,I,c=>by simp[eU]
 |k+1,I,0=>by rw[aN6,eU];simp
 |k+1,I,c+1=>by
  rw[aN6,eU,X1 n k (I+1) c]
  by_cases h:c<k
  ·rw[Rc h,Rc (by omega)];omega
  ·rw[S h,S (by omega)];omega
theorem X2 (n:Nat):eU n (List.range n)=λc=>c:=by
 funext c;rw[aOt,X1];split<;>omega
mutual
theorem He:∀(a:F),dS (λc=>c) a=a
 | .own .. =>rfl
 | .bd .. =>rfl
 | .agg ap=>by rw[dS,Hf ap]
 | .bo ap=>by rw[dS,Hf ap]
 | .fn _ ap=>by rw[dS,Hf ap]
 | .bE _=>rfl
 | .fO .. =>rfl
 | .int .. =>rfl
 | .bool .. =>rfl
 | .str .. =>rfl
 | .bH=>rfl
 | .kt=>rfl
 | .kH=>rfl
 | .pure .. =>rfl
 | .en .. =>rfl
 | .cj=>rfl
theorem Hf:∀(as:List F),jm (λc=>c) as=as
 | []=>rfl
 |a::as=>by rw[jm,He a,Hf as]
end
theorem X3:∀(z:Z),gD (λc=>c) z=z
 | .fP=>rfl
 | .ag e U am=>by
  rw[gD,Gw];congr 1
  induction am with
  |nil=>rfl
  |cons x aq ih=>rw[aKP,Hf,ih]
 | .be (.map aK Y ents)=>by
  rw[gD];congr 2
  induction ents with
  |nil=>rfl
  |cons x aq ih=>rw[aKP,He,He,ih]
 | .be (.eh ..)=>rfl
theorem X4 {bj:Type}:∀(k I:Nat) (aq ys:List bj),I+k=aq.length->k<=ys.length->fu aq (List.range' I k) ys=aq.take I++ys
 |0,I,aq,ys,e,_=>by simp only[List.range'_zero,fu];rw[show I=aq.length by omega,aLb]
 |k+1,I,aq,[],e,h=>by simp at h
 |k+1,I,aq,y::ys,e,h=>by
  rw[aN6,fu,X4 k (I+1) _ ys (by rw[aLg];omega) (by simpa using h)];have ao:I<aq.length:=by omega
  rw[aLz (by rw[aLg];exact ao),List.getElem_set_self,List.take_set_of_le (aKM _),aKT];rfl
theorem X5 {bj:Type}{aq ys:List bj}(h:aq.length<=ys.length):fu aq (List.range aq.length) ys=ys:=by
 rw[aOt,X4 _ _ _ _ (by omega) h];simp
theorem X6 {P:Program}{f:FuncId}{args:List F}{r:List Z}{bh K:F->List Z->Prop}(N:jP r)(aC:gx r.length args=true)(h:aO P f args r bh)
 (aV:∀v rs,bh v rs->r.length<=rs.length/\K v rs):uH P f args r K:=by
 refine⟨List.range r.length,[],r,aM8,X0 N,?_⟩;rw[Ce args aC];refine h.mono λv rs an=>⟨.inl rfl,?_⟩;obtain⟨d,G⟩:=aV v rs an;rw[X2,He,show rs.map (gD λc=>c)=rs from by rw[aMy (λz _=>X3 z),aOu],X5 d];exact G
theorem uV {P:Program}{f:FuncId}{args:List F}{r:List Z}{dst:Option Nat}{D:aQ}{K:aQ->List Z->Prop}{bh:F->List Z->Prop}(N:jP r)(aC:gx r.length args=true)(h:aO P f args r bh)
 (aV:∀v rs,bh v rs->r.length<=rs.length/\K (put D dst v) rs):rp P f args r dst D K:=X6 N aC h aV
theorem aty {P:Program}{f:FuncId}{args:List F}{bL:List Nat}{tk:dr}{r:List Z}{dst:Option Nat}{D:aQ}{K:aQ->List Z->Prop}{bh:F->List Z->Prop}(ht:eL bL tk (List.range r.length) [])(N:jP r)(aC:gx r.length args=true)(h:aO P f args r bh)
 (aV:∀v rs,bh v rs->r.length<=rs.length/\K (put D dst v) rs):wh P f args bL tk r dst D K:=by
 obtain⟨ax,bn,srows,d,G,au⟩:=X6 (K:=λv rs=>K (put D dst v) rs) N aC h aV;refine⟨List.range r.length,[],r,ht,aM8,X0 N,?_⟩;rw[Ce args aC];refine h.mono λv rs an=>⟨.inl rfl,?_⟩;obtain⟨d,G⟩:=aV v rs an;rw[X2,He,show rs.map (gD λc=>c)=rs from by rw[aMy (λz _=>X3 z),aOu],X5 d];exact G
theorem cm.atz (rx Qy:Dr)(ay:Qy.B->rx.B){n:Nat}{C aB:bD}(h: @cm rx n C aB): @cm Qy n C aB:=
 @cm.mk Qy n C aB (@cm.os rx _ _ _ h) (@cm.tape rx _ _ _ h) (@cm.output rx _ _ _ h) (@cm.size rx _ _ _ h) (@cm.block rx _ _ _ h) (@cm.vF rx _ _ _ h) (@cm.bY rx _ _ _ h) (@cm.bZ rx _ _ _ h) (@cm.len rx _ _ _ h) (@cm.r rx _ _ _ h) (@cm.rc rx _ _ _ h) (λk=> @cm.drawn rx _ _ _ h (ay k))
@[reducible] def dE.aD (iZ:dE):dE:= {B:=True,n:=iZ.n,H:=iZ.H,oI:=iZ.oI}
omit [dE] in
theorem aO.Hg (iZ:dE){P:Program}{f:FuncId}{args:List F}{r:List Z}{bh:F->List Z->Prop}(h: @aO iZ.aD P f args r bh): @aO iZ P f args r bh:=by
 intro C dA N aA hG dv;refine (h C dA N aA hG dv).mono ?_;rintro e w' ⟨aZ,v,aB,rfl,aP,an,Dp,hl,aV⟩;exact⟨aZ,v,aB,rfl,aP,an,Dp,cm.atz iZ.aD.toDr iZ.toDr (λ_=>trivial) hl,aV⟩
theorem X7 {r t:List Z}(h:jP r):∀(k I:Nat),I+k=r.length->eC (r++t) [] ((List.range r.length).map some) ((List.range' I k).map some)=some (r.drop I)
 |0,I,e=>by rw[show I=r.length by omega];simp[eC]
 |k+1,I,e=>by
  have ao:I<r.length:=by omega
  rw[aN6,aKP,eC,X7 h k (I+1) (by omega),aPa ao,aKS ao];simp only;rw[XY (h I _ (aKS ao)),aL4 ao]
def Ez (n:Nat)(D:aQ):Bool:=D.all λp=>dt n p.2
theorem E.drop {bb:Nat}{K:aQ->List Z->Prop}{D:aQ}{r t:List Z}(aH:bb<=r.length)(N:jP r)(he:Ez r.length D=true)(h:E bb K D r):E bb K D (r++t):=by
 have aw:eC (r++t) [] ((List.range r.length).map some) ((List.range r.length).map some)=some r:=by
  have:=X7 (t:=t) N r.length 0 (by omega);rw[<-aOt] at this;simpa using this
 have O:keeps bb ((List.range r.length).map some):=by
  refine⟨by simpa using aH,λz N=> .inl ?_⟩;rw[aLG,aMU (by omega)];rfl
 have af: (D.map λp=>(p.1,bW (r++t) ((List.range r.length).map some) [] p.2))=D:=by
  rw[aMy (g:=id) (λp ak=> ?_),List.map_id];have:=aLW.1 he p ak;rw[Ll _ this];rfl
 have:=E.oc (fv.ll (bb:=bb) (D:=D) ((List.range r.length).map some) [] (VS aM8) O aw) (by rw[af];exact h);exact this
end Go.Abs
