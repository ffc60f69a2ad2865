/- Calendar and premiums. -/
import Derived.Test.YtpincjkjoeopkaaGreatDoorC21
set_option linter.all false
namespace Go.Proofs.YtpincjkjoeopkaaGreatDoor.Pm
open Go Go.Abs Go.Proofs.Tryz
def lG (M:cc)(t:Int):Int:=t+yf M t
theorem aFR {M:cc}(ba:fe M=0){t:Int}(h0:0<=t)(d:t<=120968639): -840<=lG M t/\lG M t<=120969479:=by
 have:=Yk (wv ba) t;unfold jQ at this;unfold lG;omega
def Uh (M:cc)(h:List cX)(t:Int):List F:=[.int .i64 (lG M t%1440),.int .i64 ((lG M t / 1440+3)%7),.bool (lf h (lG M t / 1440))]
theorem aFH (M:cc)(ba:fe M=0)(h:List cX)(an:ng h=0)(ys ds:List Int)(t:Int)(h0:0<=t)(d:t<=120968639):
 aO prog 201 [M.v,.bd 2 1 0 0,.int .i64 t] (mH h ys ds) (λv rs=>v= .agg (Uh M h t)/\ ∃ys' ds',rs=mH h ys' ds'):=by
 have af:=aFR ba h0 d;have hL:=Ym M ba t h0 d;rw[show t+yf M t=lG M t from rfl] at hL;unfold Uh;refine cu func201 SJ (by simp[Ff,Iy]) ?_;simp only[go_sem,Ff,Iy,cc.v,mH];refine bM hL rfl rfl ?_;generalize lG M t=m at af ⊢;obtain⟨c1,c2,c3⟩:=ahS (m / 1440);have bF: ((m / 1440).tmod 7+10).tmod 7=(m / 1440+3)%7:=by
  rw[aMC (by omega)];omega
 have bK:IntKind.i64.wrap ((m / 1440).tmod 7+10)=(m / 1440).tmod 7+10:=bl;have gX:IntKind.i64.wrap (m / 1440*1440)=m / 1440*1440:=bl;have rt:IntKind.i64.wrap (m-m / 1440*1440)=m%1440:=by rw[bl];omega
 simp only[go_sem];refine⟨by decide,by decide,?_⟩
 by_cases hm:m<0
 ·have N:m.tmod 1440=m:=by
   rw[Int.tmod_eq_emod];rw[S (by omega)];have: ((1440:Int).natAbs:Int)=1440:=rfl;omega
  have aV:m.tdiv 1440=0:=by
   have:=Int.mul_tdiv_add_tmod m 1440;omega
  have ay:m / 1440= -1:=by omega
  rw[ay] at bF bK gX rt ⊢;rw[N,aV];have iI:IntKind.i64.wrap (IntKind.i64.wrap 0-1)= -1:=by decide
  simp only[go_sem,hm,iI,bF,bK,gX,rt];refine⟨by decide,by decide,?_⟩
  (refine fy [0,1,2] (ail h an ys ds (-1)) ?_;rintro _ _ ⟨rfl,ys',ds',rfl⟩;simp only[go_sem])
  simp only[go_sem,mH]
  (refine E.bB [some 0,some 1,some 2] ?_;simp only[go_sem])
  exact i ⟨rfl,ys',ds',rfl⟩
 ·have aV:m.tdiv 1440=m / 1440:=aMn (by omega);have N:m.tmod 1440=m%1440:=aMC (by omega);have aH:¬m%1440<0:=by omega
  have iI:IntKind.i64.wrap (m / 1440)=m / 1440:=bl;rw[N,aV];simp only[go_sem,aH,iI,bF,bK,gX,rt];refine⟨by decide,by decide,?_⟩
  (refine fy [0,1,2] (ail h an ys ds (m / 1440)) ?_;rintro _ _ ⟨rfl,ys',ds',rfl⟩;simp only[go_sem])
  simp only[go_sem,mH]
  (refine E.bB [some 0,some 1,some 2] ?_;simp only[go_sem])
  exact i ⟨rfl,ys',ds',rfl⟩
def qW (al:List dP):Bool:=al.all A6
def vm (M:cc)(h:List cX)(al:List dP):Int:=if fe M=0 then (if ng h=0 then (if 16<al.length then 3 else if qW al=true then 0 else 1) else ng h) else fe M
theorem agv (M:cc)(h:List cX)(hl:h.length<=9223372036854775806)(al:List dP)(aP:al.length<=1000000):aO prog 113 [M.v,.pure 6 (ai h),.pure 7 (ai al)] [] (λv rs=>v= .int .i64 (vm M h al)/\rs=[]):=by
 refine cu func113 adE (by simp[CQ,F1]) ?_;unfold vm;simp only[go_sem,CQ,F1,cc.v];refine bM (Ch M) rfl rfl ?_;simp only[go_sem]
 by_cases ba:fe M=0
 rotate_left
 ·have aFS: (fe M != 0)=true:=by simp[ba]
  simp only[go_sem,aFS];exact aKG rfl ⟨by rw[S ba],rfl⟩
 rw[ba,Rc rfl];simp only[go_sem];refine bM (ahQ h hl) rfl rfl ?_;simp only[go_sem]
 by_cases an:ng h=0
 rotate_left
 ·have df: (ng h != 0)=true:=by simp[an]
  simp only[go_sem,df];exact aKG rfl ⟨by rw[S an],rfl⟩
 rw[an,Rc rfl];simp only[go_sem]
 by_cases d: (al.length:Int)>16
 ·simp only[go_sem,d];exact aKG rfl ⟨by rw[Rc (by omega)],rfl⟩
 simp only[go_sem,d];rw[S (by omega)];refine dN (λD r=> ∃(c:Nat),c<=al.length/\qW al=qW (al.drop c)/\D=[(24,.pure 7 (ai al)),(25,.int .i64 al.length),(26,.int .i64 c)]/\r=[])
  (λD _=>match bs D 26 with| .int _ j=>(al.length-j).toNat|_=>0) ?_ ?_
 ·(refine E.bB [] ?_;simp only[go_sem])
  exact i ⟨0,by omega,by simp,rfl,rfl⟩
 ·rintro D r ⟨c,av,af,rfl,rfl⟩;simp only[go_sem,CQ,F1];refine cf ?_ ?_<;>intro ct<;>simp only[bC] at ct<;>simp only[go_sem,CQ,F1]
  ·have aI:c<al.length:=by omega
   refine⟨by omega,by omega,?_⟩
   try simp only[aKX]
   rw[cT aI];rw[aL4 aI,qW,qW,aMN] at af;generalize al[c]=p at af ⊢;have aP:=dB (c:=c) (by omega);simp only[go_sem,CQ,F1,A4];refine bM (aFT p) rfl rfl ?_;simp only[go_sem];cases ak:A6 p
   ·simp only[go_sem];exact aKG rfl ⟨by rw[S (by rw[qW,af,ak];simp)],rfl⟩
   ·simp only[go_sem,aP]
    (refine E.bB [] ?_;simp only[go_sem])
    refine i ⟨⟨c+1,by omega,?_,rfl,rfl⟩,?_⟩
    ·rw[qW,af,ak,aLw,qW]
    ·simp only[go_sem];omega
  ·have yF:c=al.length:=by omega
   rw[yF,aLF] at af;exact aKG rfl ⟨by rw[af];rfl,rfl⟩
def NV (M:cc)(h:List cX)(w:dP)(t:Int):Bool:=NW w (lG M t%1440) ((lG M t / 1440+3)%7) (lf h (lG M t / 1440))
theorem Sl {M:cc}{h:List cX}{al:List dP}(an:vm M h al=0):fe M=0/\ng h=0/\al.length<=16/\qW al=true:=by
 unfold vm at an;split at an
 ·split at an
  ·split at an
   ·cases an
   ·split at an
    ·exact⟨by assumption,by assumption,by omega,by assumption⟩
    ·cases an
  ·exact absurd an (by assumption)
 ·exact absurd an (by assumption)
theorem aFD {w:dP}(h:A6 w=true):0<=w.ic/\w.ic<=127:=by
 unfold A6 at h;simp only[aKJ,aKN] at h;omega
def sO (f:Nat->Bool):Nat->Nat
 |0=>0
 |n+1=>if f n then sO f n|||2^n else sO f n
theorem T9 (f:Nat->Bool)(j:Nat):∀n,(sO f n).testBit j=(decide (j<n)&&f j)
 |0=>by simp[sO]
 |n+1=>by
  have ih:=T9 f j n;rw[sO]
  by_cases hj:j=n
  ·subst hj;have h0: (decide (j<j)&&f j)=false:=by simp
   split
   ·rename_i h;simp[aQj,ih,h,aQk]
   ·rename_i h;simp[ih,h]
  ·have d:decide (j<n+1)=decide (j<n):=by simp;omega
   split
   ·rw[aQj,ih,d,aQk,show decide (n=j)=false by simp;omega,aPo]
   ·rw[ih,d]
theorem aim (f:Nat->Bool):∀n,sO f n<2^n
 |0=>by simp[sO]
 |n+1=>by
  have ih:=aim f n;rw[sO];split
  ·exact aP1 (aLI ih (aQl (by omega) (by omega))) (aQm (by omega) (by omega))
  ·exact aLI ih (aQl (by omega) (by omega))
theorem NR (f:Nat->Bool){n:Nat}(aH:n<=16):sO f n<65536:=aLI (aim f n) (aQl (n:=2) (by omega) aH)
theorem aFn {cs c:Nat}(h:cs<65536)(av:c<16):cs|||2^c<65536:=aP1 (n:=16) h (aQm (a:=2) (by omega) av)
theorem Ua {cs c:Nat}(h:cs<65536)(av:c<16):Kv .i64 (cs:Int) (BP .i64 1 c)=((cs|||2^c:Nat):Int):=by
 have G: (2:Nat)^c<65536:=aLI (aQm (a:=2) (by omega) av) (aKM (2^16));generalize aw: (2:Nat)^c=X at G;rw[WO (by omega),show (1:Int)*2^c=((2^c:Nat):Int) by simp,aw,bl,WM (by omega) (by omega)]
theorem ain {cs c:Nat}(h:cs<65536)(av:c<16):ep .i64 (Kx .i64 (cs:Int) c) 1=if cs.testBit c then 1 else 0:=by
 have:=aio (n:=(cs:Int)) (c:=c) (by omega) (by omega) (by omega);rw[this];unfold Jj;rw[aKX,aKX]
theorem FX {a b:ByteArray}:ez a b=true↔a.toList=b.toList:=by unfold ez;simp
theorem FI (a:ByteArray):ez a a=true:=FX.2 rfl
theorem FY {a b:ByteArray}(h:ez a b=true):ez b a=true:=FX.2 (FX.1 h).symm
theorem NS {a b J:ByteArray}(h:ez a b=true)(k:ez b J=true):ez a J=true:=FX.2 ((FX.1 h).trans (FX.1 k))
theorem Nz (a b:ByteArray):ez a b=ez b a:=by
 rw[aL0];exact⟨FY,FY⟩
theorem Jk {a b J:ByteArray}(h:ez a b=true):ez a J=ez b J:=by
 rw[aL0];exact⟨λk=>NS (FY h) k,λk=>NS h k⟩
def je:dP:=⟨⟨#[]⟩,⟨#[]⟩,0,0,0,0,0⟩
def fL (al:List dP)(c:Nat):dP:=(al[c]?).getD je
theorem Jl {al:List dP}{c:Nat}(h:c<al.length):fL al c=al[c]:=by simp[fL,h]
def A2 (al:List dP)(k c:Nat):Bool:=
 ez (fL al k).ir (fL al c).ir&&(decide ((fL al c).jU<(fL al k).jU)||(decide ((fL al k).jU=(fL al c).jU)&&decide (k<c)))
def aip (al:List dP)(J:Nat->Bool)(c:Nat):Bool:=J c&&(lW (fL al c)||(List.range al.length).all λk=> !(J k&&A2 al k c))
def qT (l:List (ByteArray×Nat)):List (F×F):=l.map λp=>(.str p.1,.int .i64 p.2)
def lF (l:List (ByteArray×Nat))(g:ByteArray):Option Nat:=(l.find? λp=>ez g p.1).map (·.2)
def qe (g:ByteArray)(v:Nat):List (ByteArray×Nat)->List (ByteArray×Nat)
 | []=> [(g,v)]
 |p::aa=>if ez g p.1 then (g,v)::aa else p::qe g v aa
theorem NT (l:List (ByteArray×Nat)): (qT l).length=l.length:=by simp[qT]
theorem aiq:∀(l:List (ByteArray×Nat)),kh (qT l)=true
 | []=>aKF rfl
 |p::l=>by
  have:=aiq l;simp only[kh,qT,aLr,aKJ] at this ⊢;simp only[aKP,bU,aMZ,bJ,aLw];exact this
theorem air {g:ByteArray}:∀{l:List (ByteArray×Nat)},dm (.str g) (qT l)=(lF l g).map λv=> .int .i64 v
 | []=>aKF rfl
 |p::l=>by
  have ih:=air (g:=g) (l:=l);unfold qT lF at *;rw[aKP,dm,aM0];have:fB (.str g) (.str p.1)=ez g p.1:=by simp[fB,cp,ed,ez]
  simp only[this];cases O:ez g p.1
  ·simpa using ih
  ·rfl
theorem ais {g:ByteArray}{v:Nat}:∀{l:List (ByteArray×Nat)},dy (.str g) (.int .i64 v) (qT l)=qT (qe g v l)
 | []=>aKF rfl
 |p::l=>by
  have ih:=ais (g:=g) (v:=v) (l:=l);unfold qT at *;rw[aKP,dy,qe];have:fB (.str g) (.str p.1)=ez g p.1:=by simp[fB,cp,ed,ez]
  simp only[this];cases O:ez g p.1
  ·simp only[aLK,aLi,aKP,ih]
  ·rfl
theorem ait {g h:ByteArray}{v:Nat}:∀{l:List (ByteArray×Nat)},lF (qe g v l) h=if ez h g then some v else lF l h
 | []=>by
  unfold lF qe;cases hh:ez h g<;>simp[hh]
 |p::l=>by
  have ih:=ait (g:=g) (h:=h) (v:=v) (l:=l);unfold lF at *;rw[qe];cases O:ez g p.1
  ·simp only[aLK,aLi,aM0];cases gj:ez h p.1
   ·exact ih
   ·have:ez h g=false:=by
     cases e:ez h g
     ·rfl
     ·rw[<-Jk e,gj] at O;cases O
    simp[this]
  ·simp only[aK5,aM0];cases hh:ez h g
   ·have:ez h p.1=false:=by
     cases e:ez h p.1
     ·rfl
     ·have:=NS e (FY O);rw[hh] at this;cases this
    simp[this]
   ·simp
def yP (l:List (ByteArray×Nat)):Prop:=l.Pairwise λp q=>ez p.1 q.1=false
theorem aiu {g:ByteArray}{v:Nat}{q:ByteArray×Nat}:∀{l:List (ByteArray×Nat)},q∈qe g v l->q=(g,v)\/q∈l
 | [],h=>by simpa[qe] using h
 |p::l,h=>by
  rw[qe] at h;split at h
  ·rcases aKV.1 h with h|h
   ·exact .inl h
   ·exact .inr (aK1 _ h)
  ·rcases aKV.1 h with h|h
   ·exact .inr (by rw[h];exact aLa)
   ·rcases aiu h with h|h
    ·exact .inl h
    ·exact .inr (aK1 _ h)
theorem Ub {g:ByteArray}{v:Nat}:∀{l:List (ByteArray×Nat)},yP l->yP (qe g v l)
 | [],_=>by simp[qe,yP]
 |p::l,h=>by
  unfold yP at h ⊢;rw[aLD] at h;rw[qe];split
  ·rename_i O;rw[aLD];exact⟨λq aV=>by rw[Jk O];exact h.1 q aV,h.2⟩
  ·rename_i O;rw[aLD];refine⟨λq aV=> ?_,Ub h.2⟩;rcases aiu aV with rfl|aV
   ·rw[Nz];simpa using O
   ·exact h.1 q aV
theorem Uc:∀{l:List (ByteArray×Nat)},yP l-> ∀p∈l,lF l p.1=some p.2
 | [],_,p,ak=>by simp at ak
 |q::l,h,p,ak=>by
  unfold yP at h;rw[aLD] at h;unfold lF;rw[aM0];rcases aKV.1 ak with rfl|ak
  ·rw[FI];rfl
  ·have:=h.1 p ak;rw[Nz] at this;rw[this];exact Uc h.2 p ak
theorem aFo {l:List (ByteArray×Nat)}{g:ByteArray}{v:Nat}(h:lF l g=some v):∃p∈l,p.2=v:=by
 unfold lF at h;cases hf:l.find? λp=>ez g p.1 with
 |none=>rw[hf] at h;cases h
 |some p=>
  rw[hf] at h;exact⟨p,List.mem_of_find?_eq_some hf,by simpa using h⟩
attribute [go_sem] aiq air
def A3 (al:List dP)(J:Nat->Bool)(g:ByteArray)(k:Nat):Prop:=J k=true/\lW (fL al k)=false/\ez g (fL al k).ir=true
def wY (al:List dP)(J:Nat->Bool)(g:ByteArray)(c:Nat):Option Nat->Prop
 |none=> ∀k,k<c-> ¬A3 al J g k
 |some j=>j<c/\A3 al J g j/\ ∀k,k<c->A3 al J g k->(fL al k).jU<(fL al j).jU\/((fL al k).jU=(fL al j).jU/\j<=k)
theorem NU {al:List dP}{J:Nat->Bool}{g:ByteArray}{c:Nat}{V:Option Nat}(h:wY al J g c V)(aH:¬A3 al J g c):wY al J g (c+1) V:=by
 cases V with
 |none=>
  intro k O ad
  by_cases e:k=c
  ·subst e;exact aH ad
  ·exact h k (by omega) ad
 |some j=>
  obtain⟨d,G,au⟩:=h;refine⟨by omega,G,λk O ad=> ?_⟩
  by_cases e:k=c
  ·subst e;exact absurd ad aH
  ·exact au k (by omega) ad
theorem aFp {al:List dP}{J:Nat->Bool}{g:ByteArray}{c:Nat}(h:J c=true)(aH:lW (fL al c)=false):A3 al J g c↔ez g (fL al c).ir=true:=⟨λk=>k.2.2,λk=>⟨h,aH,k⟩⟩
theorem aFq {al:List dP}{J:Nat->Bool}{g:ByteArray}{c:Nat}{V:Option Nat}(h:wY al J g c V)(ad:A3 al J g c)(N:∀j,V=some j->(fL al j).jU<(fL al c).jU):wY al J g (c+1) (some c):=by
 refine⟨by omega,ad,λk O mb=> ?_⟩
 by_cases e:k=c
 ·subst e;exact .inr ⟨rfl,aKM _⟩
 ·cases V with
  |none=>exact absurd mb (h k (by omega))
  |some j=>
   have d:=h.2.2 k (by omega) mb;have G:=N j rfl;omega
theorem aFr {al:List dP}{J:Nat->Bool}{g:ByteArray}{c j:Nat}(h:wY al J g c (some j))(N:¬(fL al j).jU<(fL al c).jU):wY al J g (c+1) (some j):=by
 obtain⟨d,G,au⟩:=h;refine⟨by omega,G,λk O mb=> ?_⟩
 by_cases e:k=c
 ·subst e;omega
 ·exact au k (by omega) mb
theorem aFs {al:List dP}{J:Nat->Bool}{l:List (ByteArray×Nat)}(aC:yP l)(af:∀g,wY al J g al.length (lF l g))(j:Nat):
 (∃p∈l,p.2=j)↔(j<al.length/\J j=true/\lW (fL al j)=false/\((List.range al.length).all λk=> !(J k&&A2 al k j))=true):=by
 rw[aLW];constructor
 ·rintro⟨p,ak,rfl⟩;have d:=af p.1;rw[Uc aC p ak] at d;obtain⟨G,⟨au,bv,cx⟩,dx⟩:=d;refine⟨G,au,bv,λk O=> ?_⟩;rw[aMj] at O;cases mb:J k
  ·rfl
  ·cases yx:A2 al k p.2
   ·rfl
   ·unfold A2 at yx;simp only[aKJ,aLP,aKN] at yx;have aH:lW (fL al k)=false:=by
     rw[<-bv];unfold lW;exact Jk yx.1
    have:=dx k O ⟨mb,aH,NS cx (FY yx.1)⟩;omega
 ·rintro⟨d,G,au,bv⟩;have ad:A3 al J (fL al j).ir j:=⟨G,au,FI _⟩;have cx:=af (fL al j).ir;cases bp:lF l (fL al j).ir with
  |none=>rw[bp] at cx;exact absurd ad (cx j d)
  |some c=>
   rw[bp] at cx;obtain⟨bO,⟨cd,fk,hB⟩,jE⟩:=cx;have dx:=jE j d ad;have oN:=bv c (aMj.2 bO);rw[cd,aLw] at oN;have Ia:A2 al c j=false:=by simpa using oN
   unfold A2 at Ia;rw[FY hB,aLw] at Ia;simp only[Bool.or_eq_false_iff,Bool.and_eq_false_iff,aLX] at Ia;obtain rfl:c=j:=by omega
   exact aFo bp
theorem aFt {l:List (ByteArray×Nat)}{c:Nat}(h:c<l.length){B:F×F}: (qT l).getD c B=(.str l[c].1,.int .i64 l[c].2):=by
 rw[aLn,aKS (by rw[NT];exact h)];simp[qT]
def vx (al:List dP)(cs:Nat)(c:Nat):Nat:=sO (λj=>cs.testBit j&&lW (fL al j)) c
def rM (al:List dP)(cs:Nat):Nat:=sO (aip al cs.testBit) al.length
theorem aFu {al:List dP}{cs aF:Nat}{l:List (ByteArray×Nat)}(dc:∀j,aF.testBit j=((vx al cs al.length).testBit j||l.any λp=>p.2==j))
 (aC:yP l) (af:∀g,wY al cs.testBit g al.length (lF l g)):aF=rM al cs:=by
 apply Nat.eq_of_testBit_eq;intro j;rw[dc,rM,T9,vx,T9];have h:=aFs aC af j;have G: (l.any λp=>p.2==j)=(decide (j<al.length)&&cs.testBit j&& !(lW (fL al j))&&(List.range al.length).all λk=> !(cs.testBit k&&A2 al k j)):=by
  rw[aL0,aNp];simp only[aLu];rw[h];simp only[aKJ,aKN,aMH,aKR]
 rw[G];unfold aip;generalize (List.range al.length).all (λk=> !(cs.testBit k&&A2 al k j))=A;cases decide (j<al.length)<;>cases cs.testBit j<;>cases lW (fL al j)<;>cases A<;>rfl
theorem aFv (al:List dP)(aH:al.length<=16)(cs:Nat)(fS:cs<65536):aO prog 203 [.pure 7 (ai al),.int .i64 cs] [] (λv rs=>v= .int .i64 (rM al cs)/\rs=[]):=by
 refine cu func203 aeU (by simp[pY,qU]) ?_;simp only[go_sem,pY,qU];refine dN (λD r=> ∃(c:Nat) (eO:List (ByteArray×Nat)),c<=al.length/\yP eO/\(∀g,wY al cs.testBit g c (lF eO g))/\D=[(0,.pure 7 (ai al)),(1,.int .i64 cs),(5,.int .i64 (vx al cs c)),(6,.bE 0),(14,.pure 7 (ai al)),(15,.int .i64 al.length),(16,.int .i64 c)]/\r=[.be (.map false [.str] (qT eO))])
  (λD _=>match bs D 16 with| .int _ j=>(al.length-j).toNat|_=>0) ?_ ?_
 ·exact i ⟨0,[],by omega,List.Pairwise.nil,λg k O=>by omega,rfl,rfl⟩
 ·rintro D r ⟨c,eO,av,jO,kX,rfl,rfl⟩;have aP:=dB (c:=c) (by omega);have dc:=NR (λj=>cs.testBit j&&lW (fL al j)) (n:=c) (by omega);have rN:vx al cs (c+1)=if (cs.testBit c&&lW (fL al c))=true then vx al cs c|||2^c else vx al cs c:=rfl
  rw[show sO (λj=>cs.testBit j&&lW (fL al j)) c=vx al cs c from rfl] at dc;simp only[go_sem,pY,qU];refine cf ?_ ?_<;>intro ct<;>simp only[bC] at ct<;>simp only[go_sem,pY,qU]
  ·have aI:c<al.length:=by omega
   refine⟨by omega,by omega,?_⟩
   try simp only[aKX]
   rw[cT aI];have FZ:=ain fS (show c<16 by omega);have uB:=Ua (cs:=vx al cs c) (c:=c) dc (by omega);have C7:=Jl aI;generalize al[c]=w at C7 ⊢;have nT: (0:Int)<=c:=by omega
   cases ad:cs.testBit c
   ·rw[ad] at FZ rN;simp only[aLK,aLi,Bool.false_and] at FZ rN;simp only[go_sem,pY,qU,A4,nT,FZ,aKX,aP]
    (refine E.bB [some 0] ?_;simp only[go_sem])
    refine i ⟨⟨c+1,eO,by omega,jO,λg=>NU (kX g) (λh=> ?_),by rw[rN],rfl⟩,?_⟩
    ·have:=h.1;rw[ad] at this;cases this
    ·simp only[go_sem];omega
   ·rw[ad] at FZ rN;simp only[aK5,aLw] at FZ rN;simp only[go_sem,pY,qU,A4,nT,FZ,aKX,aP];have rr: (w.ir.toList==({data:= #[]}:ByteArray).toList)=lW w:=rfl;rw[rr];rw[C7] at rN;cases wZ:lW w
    rotate_left
    ·rw[wZ] at rN;simp only[aK5] at rN;simp only[go_sem,pY,qU,nT,uB,aKX,aP]
     (refine E.bB [some 0] ?_;simp only[go_sem])
     refine i ⟨⟨c+1,eO,by omega,jO,λg=>NU (kX g) (λh=> ?_),by rw[rN],rfl⟩,?_⟩
     ·have:=h.2.1;rw[C7,wZ] at this;cases this
     ·simp only[go_sem];omega
    rw[wZ] at rN;simp only[aLK,aLi] at rN;have Ud:∀g,A3 al cs.testBit g c↔ez g w.ir=true:=λg=>by
     have:=aFp (al:=al) (J:=cs.testBit) (g:=g) ad (by rw[C7];exact wZ)
     rwa [C7] at this
    have Bo:dy (.str w.ir) (.int .i64 c) (qT eO)=qT (qe w.ir c eO):=ais;have bg: (∀j,lF eO w.ir=some j->(fL al j).jU<w.jU)-> ∀g,wY al cs.testBit g (c+1) (lF (qe w.ir c eO) g):=by
     intro N g;rw[ait];cases aw:ez g w.ir
     ·rw[S (by simp)];exact NU (kX g) (λh=>by have:=(Ud g).1 h;rw[aw] at this;cases this)
     ·rw[Rc rfl];have d:=kX g;have G:lF eO g=lF eO w.ir:=by
       unfold lF;congr 2;funext p;exact Jk aw
      refine aFq d ((Ud g).2 aw) (λj hj=> ?_);rw[C7];exact N j (by rw[<-G];exact hj)
    cases hw:lF eO w.ir with
    |none=>
     simp only[go_sem,pY,qU,hw,aNG,Bo,aP]
     (refine E.bB [some 0] ?_;simp only[go_sem])
     refine i ⟨⟨c+1,qe w.ir c eO,by omega,Ub jO,bg (λj hj=>by rw[hw] at hj;cases hj),by rw[rN],rfl⟩,?_⟩;simp only[go_sem];omega
    |some j=>
     have NC:=kX w.ir;rw[hw] at NC;have nC:j<al.length:=by have:=NC.1;omega
     have I6:=Jl nC;have xz: (0:Int)<=j:=by omega
     have rh: (j:Int)<al.length:=by omega
     have jI: (ai al).getD j []=aJ.J (fL al j):=by rw[I6];exact cT nC
     simp only[go_sem,pY,qU,hw,aML,xz,rh,aKX,jI,A4]
     by_cases N: (fL al j).jU<w.jU
     ·have cq:w.jU>(fL al j).jU:=N;simp only[go_sem,pY,qU,cq,Bo,aP]
      (refine E.bB [some 0] ?_;simp only[go_sem])
      refine i ⟨⟨c+1,qe w.ir c eO,by omega,Ub jO,bg (λaFw hj=>by have aiv:=hj;rw[hw] at aiv;obtain rfl:j=aFw:=(by simpa using aiv);exact N),by rw[rN],rfl⟩,?_⟩;simp only[go_sem];omega
     ·have cq:¬w.jU>(fL al j).jU:=N;simp only[go_sem,pY,qU,cq,aP]
      (refine E.bB [some 0] ?_;simp only[go_sem])
      refine i ⟨⟨c+1,eO,by omega,jO,λg=> ?_,by rw[rN],rfl⟩,?_⟩
      ·cases aw:ez g w.ir
       ·exact NU (kX g) (λh=>by have:=(Ud g).1 h;rw[aw] at this;cases this)
       ·have G:lF eO g=lF eO w.ir:=by
         unfold lF;congr 2;funext p;exact Jk aw
        have d:=kX g;rw[G,hw] at d ⊢;exact aFr d (by rw[C7];exact N)
      ·simp only[go_sem];omega
  ·obtain rfl:c=al.length:=by omega
   have hval:∀p∈eO,p.2<16:=λp ak=>by
    have:=kX p.1;rw[Uc jO p ak] at this;have:=this.1;omega
   refine dN (λD r=> ∃(bX:List Nat) (aF:Nat),bX.Nodup/\(∀I∈bX,I<eO.length)/\aF<65536/\(∀j,aF.testBit j=((vx al cs al.length).testBit j||bX.any λI=>(eO.getD I (⟨#[]⟩,0)).2==j))/\D=[(5,.int .i64 aF),(58,.fO 1 0)]/\r=[.be (.map false [.str] (qT eO)),.be (.eh eO.length bX)])
    (λ_ r=>match r with| [_,.be (.eh n I)]=>n-I.length|_=>0) ?_ ?_
   ·exact i ⟨[],vx al cs al.length,by simp,by simp,dc,λj=>by simp,rfl,by rw[NT]⟩
   ·rintro D r ⟨bX,aF,aFx,qC,nJ,aiw,rfl,rfl⟩;simp only[go_sem,pY,qU];unfold Pi sa;simp only[List.getElem?_cons_zero,List.getElem?_cons_succ];refine⟨(NT eO).symm,by decide,λhall=> ?_,λj hj Mb=> ?_⟩
    ·have mX:aF=rM al cs:=by
      refine aFu (l:=eO) (λj=> ?_) jO kX;rw[aiw];congr 1;rw[aL0,aNp,aNp];simp only[aLu];constructor
      ·rintro⟨I,ao,h⟩;have fF:=qC I ao;refine⟨eO[I],aLc fF,?_⟩;rw[<-h];simp[fF]
      ·rintro⟨p,ak,h⟩;obtain⟨I,ao,rfl⟩:=aL9 ak;exact⟨I,hall I ao,by rw[<-h];simp[ao]⟩
     simp only[go_sem,pY,qU];rw[mX];exact aKG rfl ⟨rfl,rfl⟩
    ·have JT: (bX++[j]).getLastD 0=j:=by simp
     have oo:j<eO.length:=hj;have eR:=aFt oo (B:=(.cj,.cj));have an:=hval _ (aLc oo);have Ay: (bX++[j]).Nodup:=by
      rw[aNP];exact⟨aFx,by simp,λa aC b af=>by rw[aK2] at af;subst af;exact λe=>Mb (e▸aC)⟩
     have H8:∀I∈bX++[j],I<eO.length:=λx aj=>by
      rcases aK3.1 aj with aj|aj
      ·exact qC x aj
      ·rw[aK2] at aj;subst aj;exact oo
     have fF: (bX++[j]).length<=eO.length:=by
      have:=Ay.length_le_of_subset (l₂:=List.range eO.length) (λx aj=>aMj.2 (H8 x aj));simpa using this
     rw[aKK,aL6] at fF;have Al:=Ua (cs:=aF) (c:=eO[j].2) nJ an;have v0: (0:Int)<=eO[j].2:=by omega
     have jt:∀k,(aF|||2^eO[j].2).testBit k=((vx al cs al.length).testBit k||(bX++[j]).any λI=>(eO.getD I (⟨#[]⟩,0)).2==k):=by
      intro k;rw[aQj,aiw,List.any_append,aQk,aOH];congr 2;rw[aL0];simp[oo]
     have Cy:=aFn nJ an;simp only[go_sem,pY,qU,JT,eR,Al,v0,aKX];refine⟨(NT eO).symm,by simp,oo,?_⟩;refine i ⟨⟨bX++[j],aF|||2^eO[j].2,Ay,H8,Cy,jt,rfl,rfl⟩,?_⟩;simp;omega
def xa (M:cc)(h:List cX)(al:List dP)(t:Int)(n:Nat):Nat:=sO (λc=>NV M h (fL al c) t) n
def qV (M:cc)(h:List cX)(al:List dP)(t:Int)(c:Nat):Bool:=(rM al (xa M h al t al.length)).testBit c
def mI (M:cc)(h:List cX)(al:List dP)(R:Int)(j:Nat):Nat->Int
 |0=>0
 |k+1=>mI M h al R j k+if qV M h al (R+k) j then 1 else 0
theorem Ue (M:cc)(h:List cX)(al:List dP)(R:Int)(j:Nat):∀k:Nat,0<=mI M h al R j k/\mI M h al R j k<=k
 |0=>by simp[mI]
 |k+1=>by
  have:=Ue M h al R j k;rw[mI];split<;>omega
def sP (p:cF):Nat:=(p.ab-p.R).toNat
def sL (M:cc)(h:List cX)(al:List dP)(aa:List cF)(B:Int)(j:Nat):Int:=(aa.map λp=>if p.ah=B then mI M h al p.R j (sP p) else 0).sum
theorem aFy {M:cc}{h:List cX}{al:List dP}{aa:List cF}{c:Nat}(av:c<aa.length)(B:Int)(j:Nat):
 sL M h al (aa.take (c+1)) B j=sL M h al (aa.take c) B j+if aa[c].ah=B then mI M h al aa[c].R j (sP aa[c]) else 0:=by
 unfold sL;rw[aLz av,aLU,aNO];simp
theorem aix {M:cc}{h:List cX}{al:List dP}{B:Int}{j:Nat}:∀{aa:List cF},(∀p∈aa,oE p)->0<=sL M h al aa B j/\sL M h al aa B j<=nn aa
 | [],_=>by simp[sL,nn]
 |p::aa,ak=>by
  have ih:=aix (M:=M) (h:=h) (al:=al) (B:=B) (j:=j) (aa:=aa) λq aV=>ak q (aK1 _ aV);have d:=ak p aLa;have G:=Ue M h al p.R j (sP p);unfold oE at d;have au: (sP p:Int)=p.ab-p.R:=by unfold sP;omega
  unfold sL nn at *;rw[aKP,aMf,aKP,aMf];split<;>omega
def gt (aa:List cF):List Int:=aa.foldl (λY p=>ek p.ah Y) []
theorem aaD {aa:List cF}{c:Nat}(av:c<aa.length):gt (aa.take (c+1))=ek aa[c].ah (gt (aa.take c)):=by
 unfold gt;rw[aLz av,aMc];rfl
theorem CO {k x:Int}{Y:List Int}:x∈ek k Y↔x=k\/x∈Y:=by
 unfold ek;split
 ·constructor
  ·exact .inr
  ·rintro (rfl|h)
   ·assumption
   ·exact h
 ·rw[aK3,aK2];exact Or.comm
theorem E4 {k:Int}{Y:List Int}(h:Y.Nodup): (ek k Y).Nodup:=by
 unfold ek;split
 ·exact h
 ·rename_i O;rw[aNP];exact⟨h,by simp,λa aC b af=>by rw[aK2] at af;subst af;exact λe=>O (e▸aC)⟩
theorem Uf:∀(aa:List cF) (Y:List Int),Y.Nodup->(aa.foldl (λY p=>ek p.ah Y) Y).Nodup/\ ∀x,x∈aa.foldl (λY p=>ek p.ah Y) Y↔x∈Y\/ ∃p∈aa,p.ah=x
 | [],Y,h=>⟨h,by simp⟩
 |p::aa,Y,h=>by
  obtain⟨d,G⟩:=Uf aa (ek p.ah Y) (E4 h);refine⟨d,λx=> ?_⟩;rw[aMb,G,CO];constructor
  ·rintro ((rfl|h)|⟨q,aV,rfl⟩)
   ·exact .inr ⟨p,aLa,rfl⟩
   ·exact .inl h
   ·exact .inr ⟨q,aK1 _ aV,rfl⟩
  ·rintro (h|⟨q,aV,rfl⟩)
   ·exact .inl (.inr h)
   ·rcases aKV.1 aV with rfl|aV
    ·exact .inl (.inl rfl)
    ·exact .inr ⟨q,aV,rfl⟩
theorem aiy (aa:List cF): (gt aa).Nodup:=(Uf aa [] aMQ).1
theorem aiz {aa:List cF}{x:Int}:x∈gt aa↔ ∃p∈aa,p.ah=x:=by
 unfold gt;rw[(Uf aa [] aMQ).2];simp
theorem aiA {M:cc}{h:List cX}{al:List dP}{B:Int}{j:Nat}:∀{aa:List cF},(∀p∈aa,p.ah≠B)->sL M h al aa B j=0
 | [],_=>rfl
 |p::aa,ak=>by
  have ih:=aiA (M:=M) (h:=h) (al:=al) (B:=B) (j:=j) (aa:=aa) λq aV=>ak q (aK1 _ aV);have d:=ak p aLa;unfold sL at *;rw[aKP,aMf,ih,S d];rfl
def gV (f:Nat->Int):List F:=(List.range 16).map λj=> .int .i64 (f j)
theorem F0 (f:Nat->Int): (gV f).length=16:=by simp[gV]
theorem aiB {f:Nat->Int}{c:Nat}(av:c<16)(B:F): (gV f).getD c B= .int .i64 (f c):=by
 rw[aLn];simp[gV,av]
theorem aFz {f:Nat->Int}{c:Nat}(av:c<16)(v:Int):fb (gV f) c [.int .i64 v]=gV (λj=>if j=c then v else f j):=by
 unfold fb;apply aLT;intro k;simp only[gV,aL6]
 by_cases O:k<16
 ·rcases Nat.lt_trichotomy k c with h|h|h
  ·rw[aKT,aPa (by simp;omega),aOD h];simp[O,Nat.ne_of_lt h]
  ·subst h;rw[aPa (by simp;omega),aNy (by simp;omega)];simp[O,aP2 (Nat.le_of_lt av)]
  ·rw[aNy (by simp;omega),aOo];have:c+1+(k-(List.take c (List.map (λj=>F.int IntKind.i64 (f j)) (List.range 16))++[F.int IntKind.i64 v]).length)=k:=by simp;omega
   rw[this];simp[O,Nat.ne_of_gt h]
 ·rw[aLB (by simp;omega),aLB (by simp;omega)]
theorem aiC (f:Nat->Int):bU (gV f)=true:=by simp[gV,List.range,List.range.loop,bU,bJ]
theorem Jm {f g:Nat->Int}(h:∀j,j<16->f j=g j):gV f=gV g:=by
 unfold gV;exact aMy λj hj=>by rw[h j (aMj.1 hj)]
theorem aFA: [F.int .i64 0,.int .i64 0,.int .i64 0,.int .i64 0,.int .i64 0,.int .i64 0,.int .i64 0,.int .i64 0,.int .i64 0,.int .i64 0,.int .i64 0,.int .i64 0,.int .i64 0,.int .i64 0,.int .i64 0,.int .i64 0]=gV λ_=>0:=rfl
def cN (M:cc)(h:List cX)(al:List dP)(aa:List cF)(B:Int)(j:Nat):Int:=if j<al.length then sL M h al aa B j else 0
def mJ (M:cc)(h:List cX)(al:List dP)(aa:List cF)(B:Int):F:= .agg (gV (cN M h al aa B))
theorem EX {f g:Int->F}{k:Int}(vj:∀x,x≠k->f x=g x):∀{l:List Int},l.Nodup->dy (.int .i64 k) (g k) (de f l)=de g (ek k l)
 | [],_=>by simp[de,dy,ek]
 |p::l,hl=>by
  rw[aNv] at hl;have ih:=EX vj hl.2;unfold de ek at *;rw[aKP,dy];have:fB (.int .i64 k) (.int .i64 p)=(k==p):=by simp[fB,cp,ed]
  simp only[this]
  by_cases O:k=p
  ·subst O;simp;exact λa aC=>vj a (λe=>hl.1 (e▸aC))
  ·simp only[aLu,O,aLi,ih,aKV,aMX];split<;>simp[vj p (λe=>O e.symm)]
def sQ (al:List dP)(J:Int):F:= .int .i64 (rM al J.toNat)
def Jn (M:cc)(h:List cX)(al:List dP)(aa:List cF):Z:= .be (.map false [.int .i64] (de (mJ M h al aa) (gt aa)))
theorem aFB (al:List dP)(l:List Int):kh (de (sQ al) l)=true:=Jg (λ_=>rfl) l
theorem D1 (M:cc)(h:List cX)(al:List dP)(aa:List cF)(l:List Int):kh (de (mJ M h al aa) l)=true:=Jg (λ_=>by simp[mJ,bJ,aiC]) l
attribute [go_sem] aFB D1 aiC
theorem aFC (M:cc)(ba:fe M=0)(h:List cX)(an:ng h=0)(al:List dP)(aH:al.length<=16)(aP:qW al=true)(aa:List cF)(ak:vi aa=0):
 aO prog 115 [M.v,.pure 6 (ai h),.pure 7 (ai al),.pure 4 (ai aa)] [] (λv rs=>v= .bE 0/\rs=[Jn M h al aa]):=by
 have iK:aa.length<=4096/\(∀p∈aa,oE p)/\nn aa<=100000:=by
  unfold vi at ak;split at ak
  ·cases ak
  ·split at ak
   ·split at ak
    ·cases ak
    ·exact⟨by omega,by assumption,by omega⟩
   ·cases ak
 obtain⟨gy,tG,kk⟩:=iK;have wx:∀j,j<al.length->0<=(fL al j).ic/\(fL al j).ic<=127:=λj hj=>by
  rw[Jl hj];exact aFD (aLW.1 aP _ (aLc hj))
 refine cu func115 SK (by simp[ip,iC]) ?_;simp only[go_sem,ip,iC,cc.v];refine om [] [] (by decide) rfl rfl (aFe h) ?_;rintro _ _ ⟨rfl,rfl⟩;refine⟨.inl rfl,?_⟩;simp only[go_sem,mH];refine dN (λD r=> ∃(c:Nat) (ys ds Y:List Int),c<=aa.length/\D=[(2,.pure 7 (ai al)),(4,.bd 0 1 0 0),(9,.bd 3 1 0 0),(10,.bE 4),(11,.bE 5),(27,.pure 4 (ai aa)),(28,.int .i64 aa.length),(29,.int .i64 c)]/\
  r=[.ag 32 2 [[.int .i64 M.off,.pure 2 (ai M.cS)]],.be (.map false [.int .i64] (de (nX h) ys)),.be (.map false [.int .i64] (de (λB=> .bool (lf h B)) ds)),.ag 359 3 [[.pure 6 (ai h),.bE 1,.bE 2]],.be (.map false [.int .i64] (de (sQ al) Y)),Jn M h al (aa.take c)])
  (λD _=>match bs D 29 with| .int _ j=>(aa.length-j).toNat|_=>0) ?_ ?_
 ·exact i ⟨0,[],[],[],by omega,rfl,rfl⟩
 ·rintro D r ⟨c,ys,ds,Y,av,rfl,rfl⟩;have fK:=dB (c:=c) (by omega);simp only[go_sem,ip,iC];refine cf ?_ ?_<;>intro ct<;>simp only[bC] at ct<;>simp only[go_sem,ip,iC]
  ·have aI:c<aa.length:=by omega
   refine⟨by omega,by omega,?_⟩
   try simp only[aKX]
   rw[cT aI];have MM:=tG _ (aLc aI);have nF:=λB j=>aFy (M:=M) (h:=h) (al:=al) aI B j;have B2:=aaD aI;generalize Cv:aa[c]=p at MM nF B2 ⊢;simp only[go_sem,ip,iC,Ah,Jn];have jD: ((if p.ah∈gt (aa.take c) then some (mJ M h al (aa.take c) p.ah) else none).getD (.agg (gV λ_=>0)))=mJ M h al (aa.take c) p.ah:=by
    by_cases hm:p.ah∈gt (aa.take c)
    ·rw[Rc hm];rfl
    ·rw[S hm,aPX];unfold mJ;congr 1;refine Jm λj _=> ?_;unfold cN;split
     ·refine (aiA λq aV e=>hm ?_).symm;exact aiz.2 ⟨q,aV,e⟩
     ·rfl
   try rw[aFA]
   try rw[jD]
   rw[show cp (mJ M h al (aa.take c) p.ah)=gV (cN M h al (aa.take c) p.ah) from rfl];refine⟨F0 _,by simp[gV,List.range,List.range.loop,Abs.cV],?_⟩;have aFE:=MM;unfold oE at aFE;have EC: (sP p:Int)=p.ab-p.R:=by unfold sP;omega
   have Mz:∀j,0<=cN M h al (aa.take c) p.ah j/\cN M h al (aa.take c) p.ah j<=100000:=λj=>by
    unfold cN;split
    ·have d:=aix (M:=M) (h:=h) (al:=al) (B:=p.ah) (j:=j) (aa:=(aa.take c)) (λq aV=>tG q (aMl aV));have G:=(Ug (l:=aa.drop c) (c:=(aa.drop c).length) (aKM _) (λj hj _=>tG _ (aMV (aLc hj)))).1;have au:nn aa=nn (aa.take c)+nn (aa.drop c):=by
      unfold nn;rw[<-aNO,<-aLU,aMt]
     rw[aLb] at G;omega
    ·omega
   refine dN (λD r=> ∃(k:Nat) (ys ds Y:List Int),k<=sP p/\D=[(2,.pure 7 (ai al)),(4,.bd 0 1 0 0),(9,.bd 3 1 0 0),(10,.bE 4),(11,.bE 5),(13,.bd 6 1 0 0),(14,.bd 7 1 0 0),(15,.int .i64 (p.R+k)),(27,.pure 4 (ai aa)),(28,.int .i64 aa.length),(29,.int .i64 c)]/\
    r=[.ag 32 2 [[.int .i64 M.off,.pure 2 (ai M.cS)]],.be (.map false [.int .i64] (de (nX h) ys)),.be (.map false [.int .i64] (de (λB=> .bool (lf h B)) ds)),.ag 359 3 [[.pure 6 (ai h),.bE 1,.bE 2]],.be (.map false [.int .i64] (de (sQ al) Y)),.be (.map false [.int .i64] (de (mJ M h al (aa.take c)) (gt (aa.take c)))),.ag 221 4 [[.int .i64 p.ah,.int .i64 p.R,.int .i64 p.ab,.str p.ep]],.ag 227 16 [gV (λj=>cN M h al (aa.take c) p.ah j+if j<al.length then mI M h al p.R j k else 0)]])
    (λD _=>match bs D 15 with| .int _ t=>(p.ab-t).toNat|_=>0) ?_ ?_
   ·refine i ⟨0,ys,ds,Y,by omega,by simp,?_⟩;simp[mI,F0]
   ·rintro D r ⟨k,ys,ds,Y,O,rfl,rfl⟩;simp only[go_sem,ip,iC];refine cf ?_ ?_<;>intro fH<;>simp only[bC] at fH<;>simp only[go_sem,ip,iC]
    ·have gO:k<sP p:=by omega
     generalize aFF:p.R+(k:Int)=t at fH ⊢;have aFG:IntKind.i64.wrap (t+1)=p.R+((k+1:Nat):Int):=by rw[bl];omega
     (refine fy [1,2,3] (aFH M ba h an ys ds t (by omega) (by omega)) ?_;rintro _ _ ⟨rfl,ys',ds',rfl⟩;simp only[go_sem])
     simp only[go_sem,mH,Uh];refine dN (λD r=> ∃(j:Nat),j<=al.length/\D=[(2,.pure 7 (ai al)),(4,.bd 0 1 0 0),(9,.bd 3 1 0 0),(10,.bE 4),(11,.bE 5),(13,.bd 6 1 0 0),(14,.bd 7 1 0 0),(15,.int .i64 t),(16,.bd 8 1 0 0),(17,.int .i64 (xa M h al t j)),(27,.pure 4 (ai aa)),(28,.int .i64 aa.length),(29,.int .i64 c),(51,.pure 7 (ai al)),(52,.int .i64 al.length),(53,.int .i64 j)]/\
      r=[.ag 32 2 [[.int .i64 M.off,.pure 2 (ai M.cS)]],.be (.map false [.int .i64] (de (nX h) ys')),.be (.map false [.int .i64] (de (λB=> .bool (lf h B)) ds')),.ag 359 3 [[.pure 6 (ai h),.bE 1,.bE 2]],.be (.map false [.int .i64] (de (sQ al) Y)),.be (.map false [.int .i64] (de (mJ M h al (aa.take c)) (gt (aa.take c)))),.ag 221 4 [[.int .i64 p.ah,.int .i64 p.R,.int .i64 p.ab,.str p.ep]],.ag 227 16 [gV (λj=>cN M h al (aa.take c) p.ah j+if j<al.length then mI M h al p.R j k else 0)],.ag 316 3 [[.int .i64 (lG M t%1440),.int .i64 ((lG M t / 1440+3)%7),.bool (lf h (lG M t / 1440))]]])
      (λD _=>match bs D 53 with| .int _ j=>(al.length-j).toNat|_=>0) ?_ ?_
     ·exact i ⟨0,by omega,rfl,rfl⟩
     ·rintro D r ⟨j,hj,rfl,rfl⟩;have nf:=dB (c:=j) (by omega);simp only[go_sem,ip,iC];refine cf ?_ ?_<;>intro pd<;>simp only[bC] at pd<;>simp only[go_sem,ip,iC]
      ·have nC:j<al.length:=by omega
       refine⟨by omega,by omega,?_⟩
       try simp only[aKX]
       rw[cT nC,<-Jl nC];have Ui:=wx j nC;have eK:xa M h al t (j+1)=if NV M h (fL al j) t then xa M h al t j|||2^j else xa M h al t j:=rfl
       have gN:xa M h al t j<65536:=NR _ (by omega);have uB:=Ua (cs:=xa M h al t j) (c:=j) gN (by omega);have ud: (0:Int)<=j:=by omega
       generalize fL al j=w at Ui eK ⊢;simp only[go_sem,ip,iC,A4];refine bM (aFI w Ui.1 Ui.2 (lG M t%1440) ((lG M t / 1440+3)%7) (lf h (lG M t / 1440)) (by omega) (by omega)) rfl rfl ?_;rw[show NW w (lG M t%1440) ((lG M t / 1440+3)%7) (lf h (lG M t / 1440))=NV M h w t from rfl];cases aiD:NV M h w t
       ·rw[aiD] at eK;simp only[aLK,aLi] at eK;simp only[go_sem,ip,iC,nf]
        (refine E.bB [some 0,some 1,some 2,some 3,some 4,some 5,some 6,some 7,some 8] ?_;simp only[go_sem])
        refine i ⟨⟨j+1,by omega,by rw[eK],rfl⟩,?_⟩;simp only[go_sem];omega
       ·rw[aiD] at eK;simp only[aK5] at eK;simp only[go_sem,ip,iC,ud,uB,aKX,nf]
        (refine E.bB [some 0,some 1,some 2,some 3,some 4,some 5,some 6,some 7,some 8] ?_;simp only[go_sem])
        refine i ⟨⟨j+1,by omega,by rw[eK],rfl⟩,?_⟩;simp only[go_sem];omega
      ·obtain rfl:j=al.length:=by omega
       have gN:xa M h al t al.length<65536:=NR _ (by omega);have E8:∀x,qV M h al t x=(rM al (xa M h al t al.length)).testBit x:=λ_=>rfl;generalize xa M h al t al.length=cs at gN E8 ⊢;have Bo:dy (.int .i64 cs) (.int .i64 (rM al cs)) (de (sQ al) Y)=de (sQ al) (ek cs Y):=by
        have:=NO (f:=sQ al) (k:=(cs:Int)) (l:=Y)
        rwa [show sQ al (cs:Int)= .int .i64 (rM al cs) by simp[sQ]] at this
       have Hs:sQ al (cs:Int)= .int .i64 (rM al cs):=by simp[sQ]
       refine arp (λD r=> ∃fV:List Int,bs D 2= .pure 7 (ai al)/\bs D 4= .bd 0 1 0 0/\bs D 9= .bd 3 1 0 0/\bs D 10= .bE 4/\bs D 11= .bE 5/\bs D 13= .bd 6 1 0 0/\bs D 14= .bd 7 1 0 0/\bs D 15= .int .i64 t/\bs D 20= .int .i64 (rM al cs)/\bs D 27= .pure 4 (ai aa)/\bs D 28= .int .i64 aa.length/\bs D 29= .int .i64 c/\
        r=[.ag 32 2 [[.int .i64 M.off,.pure 2 (ai M.cS)]],.be (.map false [.int .i64] (de (nX h) ys')),.be (.map false [.int .i64] (de (λB=> .bool (lf h B)) ds')),.ag 359 3 [[.pure 6 (ai h),.bE 1,.bE 2]],.be (.map false [.int .i64] (de (sQ al) fV)),.be (.map false [.int .i64] (de (mJ M h al (aa.take c)) (gt (aa.take c)))),.ag 221 4 [[.int .i64 p.ah,.int .i64 p.R,.int .i64 p.ab,.str p.ep]],.ag 227 16 [gV (λj=>cN M h al (aa.take c) p.ah j+if j<al.length then mI M h al p.R j k else 0)],.ag 316 3 [[.int .i64 (lG M t%1440),.int .i64 ((lG M t / 1440+3)%7),.bool (lf h (lG M t / 1440))]]]) ?_ ?_ ?_
       ·intro ad;simp only[go_sem,ip,iC];refine bM (aFv al aH cs gN) rfl rfl ?_;simp only[go_sem,Bo];exact⟨ek cs Y,rfl⟩
       ·intro ad;have hm: (cs:Int)∈Y:=by
         by_cases hm: (cs:Int)∈Y
         ·exact hm
         ·rw[S hm] at ad;simp at ad
        simp only[go_sem,ip,iC,hm,Hs];exact⟨Y,rfl⟩
       ·rintro D _ ⟨fV,vJ,xb,NX,sn,pj,NY,Aw,NZ,AN,N0,N1,N2,rfl⟩;simp only[go_sem,ip,iC,vJ,xb,NX,sn,pj,NY,Aw,NZ,AN,N0,N1,N2];clear vJ xb NX sn pj NY Aw NZ AN N0 N1 N2 D;have cU:∀x,0<=(λj=>cN M h al (aa.take c) p.ah j+if j<al.length then mI M h al p.R j k else 0) x/\(λj=>cN M h al (aa.take c) p.ah j+if j<al.length then mI M h al p.R j k else 0) x<=200000000:=λx=>by
         have d:=Mz x;have G:=Ue M h al p.R x k;simp only;split<;>omega
        have aiE:∀x,(λj=>cN M h al (aa.take c) p.ah j+if j<al.length then mI M h al p.R j (k+1) else 0) x=(λj=>cN M h al (aa.take c) p.ah j+if j<al.length then mI M h al p.R j k else 0) x+if x<al.length/\qV M h al t x=true then 1 else 0:=λx=>by
         simp only[mI,aFF]
         by_cases aj:x<al.length
         ·cases qV M h al t x<;>simp[aj]<;>omega
         ·simp[aj]
        generalize (λj=>cN M h al (aa.take c) p.ah j+if j<al.length then mI M h al p.R j k else 0)=di at cU aiE ⊢;have hW:rM al cs<65536:=NR _ aH;refine dN (λD r=> ∃(j:Nat),j<=al.length/\D=[(2,.pure 7 (ai al)),(4,.bd 0 1 0 0),(9,.bd 3 1 0 0),(10,.bE 4),(11,.bE 5),(13,.bd 6 1 0 0),(14,.bd 7 1 0 0),(15,.int .i64 t),(20,.int .i64 (rM al cs)),(27,.pure 4 (ai aa)),(28,.int .i64 aa.length),(29,.int .i64 c),(81,.int .i64 al.length),(82,.int .i64 j)]/\
         r=[.ag 32 2 [[.int .i64 M.off,.pure 2 (ai M.cS)]],.be (.map false [.int .i64] (de (nX h) ys')),.be (.map false [.int .i64] (de (λB=> .bool (lf h B)) ds')),.ag 359 3 [[.pure 6 (ai h),.bE 1,.bE 2]],.be (.map false [.int .i64] (de (sQ al) fV)),.be (.map false [.int .i64] (de (mJ M h al (aa.take c)) (gt (aa.take c)))),.ag 221 4 [[.int .i64 p.ah,.int .i64 p.R,.int .i64 p.ab,.str p.ep]],.ag 227 16 [gV (λx=>di x+if x<j/\qV M h al t x=true then 1 else 0)]])
         (λD _=>match bs D 82 with| .int _ j=>(al.length-j).toNat|_=>0) ?_ ?_
        ·(refine E.bB [some 0,some 1,some 2,some 3,some 4,some 5,some 6,some 7] ?_;simp only[go_sem])
         exact i ⟨0,by omega,rfl,by simp⟩
        ·rintro D r ⟨j,hj,rfl,rfl⟩;have nf:=dB (c:=j) (by omega);simp only[go_sem,ip,iC];refine cf ?_ ?_<;>intro nW<;>simp only[bC] at nW<;>simp only[go_sem,ip,iC]
         ·have nC:j<al.length:=by omega
          have ud: (0:Int)<=j:=by omega
          have Jo: (j:Int)<16:=by omega
          have N3:=ain (cs:=rM al cs) (c:=j) hW (by omega);rw[<-E8] at N3;have TK:=cU j;have eR: (gV λx=>di x+if x<j/\qV M h al t x=true then 1 else 0).getD (j*1) F.cj= .int .i64 (di j):=by
           rw[aNn,aiB (by omega)];simp
          have Tz:IntKind.i64.wrap (di j+if qV M h al t j=true then 1 else 0)=di j+if qV M h al t j=true then 1 else 0:=bl (by split<;>omega) (by split<;>omega)
          have mc:List.take (j*1) (gV λx=>di x+if x<j/\qV M h al t x=true then 1 else 0)++[F.int .i64 (di j+if qV M h al t j=true then 1 else 0)]++List.drop (j*1+1) (gV λx=>di x+if x<j/\qV M h al t x=true then 1 else 0)=gV λx=>di x+if x<j+1/\qV M h al t x=true then 1 else 0:=by
           show fb (gV λx=>di x+if x<j/\qV M h al t x=true then 1 else 0) (j*1) [.int .i64 (di j+if qV M h al t j=true then 1 else 0)]=_;rw[aNn,aFz (by omega)];refine Jm λx aj=> ?_
           by_cases e:x=j
           ·subst e;simp
           ·have: (x<j+1)↔x<j:=by omega
            simp[e,this]
          refine⟨ud,Jo,by omega,ud,?_⟩;rw[eR,N3];simp only[go_sem,ip,iC,Tz,ud,Jo,aKX];refine⟨by omega,?_⟩;rw[mc];simp only[go_sem,nf];refine i ⟨⟨j+1,by omega,rfl,rfl⟩,?_⟩;simp only[go_sem];omega
         ·obtain rfl:j=al.length:=by omega
          rw[aFG];have mX: (gV λx=>di x+if x<al.length/\qV M h al t x=true then 1 else 0)=gV (λj=>cN M h al (aa.take c) p.ah j+if j<al.length then mI M h al p.R j (k+1) else 0):=Jm λx _=>(aiE x).symm;rw[mX];refine i ⟨⟨k+1,ys',ds',fV,by omega,rfl,rfl⟩,?_⟩;simp only[go_sem];omega
    ·obtain rfl:k=sP p:=by omega
     have pt: (gV λj=>cN M h al (aa.take c) p.ah j+if j<al.length then mI M h al p.R j (sP p) else 0).take 16=gV λj=>cN M h al (aa.take c) p.ah j+if j<al.length then mI M h al p.R j (sP p) else 0:=aLZ (by rw[F0];exact aKM _)
     have aFJ:F.agg (gV λj=>cN M h al (aa.take c) p.ah j+if j<al.length then mI M h al p.R j (sP p) else 0)=mJ M h al (aa.take (c+1)) p.ah:=by
      unfold mJ;congr 1;refine Jm λx _=> ?_;unfold cN;rw[nF];split<;>simp
     have FL:=EX (f:=mJ M h al (aa.take c)) (g:=mJ M h al (aa.take (c+1))) (k:=p.ah) (λx aj=>by
      unfold mJ;congr 1;refine Jm λy _=> ?_;unfold cN;have Id:=nF x y;rw[S (show ¬p.ah=x from λe=>aj e.symm)] at Id;rw[Id];simp) (aiy (aa.take c))
     rw[<-B2] at FL;rw[pt,aFJ,FL,fK]
     (refine E.bB [some 0,some 1,some 2,some 3,some 4,some 5] ?_;simp only[go_sem])
     refine i ⟨⟨c+1,ys,ds,Y,by omega,rfl,rfl⟩,?_⟩;simp only[go_sem];omega
  ·obtain rfl:c=aa.length:=by omega
   rw[aLb];unfold Jn
   (refine E.bB [some 5] ?_;simp only[go_sem])
   exact i ⟨rfl,rfl⟩
structure Pm where
 ah:Int
 name:ByteArray
 min:Int
def Pm.cells (p:Pm):List F:=[.int .i64 p.ah,.str p.name,.int .i64 p.min]
instance:aJ Pm:=⟨Pm.cells,3,λ_=>rfl,λ_=>rfl,λ_=>rfl⟩
theorem ayC (p:Pm):aJ.J p=[.int .i64 p.ah,.str p.name,.int .i64 p.min]:=rfl
theorem aFL:aJ.U Pm=3:=rfl
attribute [go_sem] aFL
theorem aFM {l:List Pm}{B m:Int}{n:ByteArray}:ai l++[[.int .i64 B,.str n,.int .i64 m]]=ai (l++[⟨B,n,m⟩]):=kT (x:=Pm.mk B n m)
def ox (M:cc)(h:List cX)(al:List dP)(aa:List cF)(B:Int):Nat->List Pm
 |0=> []
 |n+1=>ox M h al aa B n++if 0<cN M h al aa B n then [⟨B,(fL al n).name,cN M h al aa B n⟩] else []
def tW (M:cc)(h:List cX)(al:List dP)(aa:List cF):List Pm:=(fq (gt aa)).flatMap λB=>ox M h al aa B al.length
def sR (M:cc)(h:List cX)(al:List dP)(aa:List cF)(c:Nat):List Pm:=((fq (gt aa)).take c).flatMap λB=>ox M h al aa B al.length
theorem aiF {M:cc}{h:List cX}{al:List dP}{aa:List cF}{c:Nat}(av:c<(fq (gt aa)).length):sR M h al aa (c+1)=sR M h al aa c++ox M h al aa (fq (gt aa))[c] al.length:=by
 unfold sR;rw[aLz av,aMS];simp
theorem Uj (M:cc)(h:List cX)(al:List dP)(aa:List cF)(B:Int):∀n:Nat,(ox M h al aa B n).length<=n
 |0=>by simp[ox]
 |n+1=>by
  have:=Uj M h al aa B n;rw[ox,aKK];split<;>simp<;>omega
theorem aiG {M:cc}{h:List cX}{al:List dP}{aa:List cF}:∀{c:Nat},c<=(fq (gt aa)).length->(sR M h al aa c).length<=c*al.length
 |0,_=>by simp[sR]
 |c+1,av=>by
  have ih:=aiG (M:=M) (h:=h) (al:=al) (aa:=aa) (c:=c) (by omega);have:=Uj M h al aa (fq (gt aa))[c] al.length;rw[aiF (by omega),aKK,aLM];omega
theorem aFN (aa:List cF): (gt aa).length<=aa.length:=by
 have:∀(aa:List cF) (Y:List Int),(aa.foldl (λY p=>ek p.ah Y) Y).length<=Y.length+aa.length:=by
  intro aa
  induction aa with
  |nil=>intro Y;simp
  |cons p aa ih=>
   intro Y;rw[aMb];have d:=ih (ek p.ah Y);have G: (ek p.ah Y).length<=Y.length+1:=by unfold ek;split<;>simp
   rw[aK8];omega
 simpa[gt] using this aa []
theorem aFO (ents:List (F×F)):aO prog 116 [.bE 0] [.be (.map false [.int .i64] ents)]
 (λv rs=>v= .fn 204 [.bd 1 1 0 0]/\rs=[.be (.map false [.int .i64] ents),.ag 224 1 [[.bE 0]]]):=by
 intro C dA N aA hG dv;rw[aE] at dv;obtain⟨v0,bS,rfl,an,aH⟩:=dv;rw[aE] at aH;subst aH;have df:=an;rw[Rep] at an;obtain⟨hC,⟨oy,rfl⟩,_,_⟩:=an;have cA:=callsIn_wide.1 (AnyZI.keys_in auN Fence.wide 5 trivial rfl (some oy) C.w);refine cA.mono ?_;rintro e w' ⟨rfl,rfl⟩;obtain⟨bO,cd⟩:=DJ df (rfl: (cp (.bE 0)).all Abs.cV=true);have cK:C.r.length=1:=by rw[N];rfl
 have ak:=Bf aA 224 1 1 #[.map (some oy)] [[.bE 0]] [.map (some oy)] (C.w.alloc (.cells #[.map (some oy)] 224)) ⟨rfl,rfl,rfl,rfl⟩ (by simp) (by simp[maxLen]) (by simp) (DX rfl bO cd) rfl;refine⟨_,.fn 204 [.bd 1 1 0 0],_,rfl,rfl,?_,ak.1,by rw[<-N];exact ak.2,rfl,by rw[N];rfl⟩;rw[Rep];refine⟨_,rfl,?_⟩;rw[aE];refine⟨_,[],rfl,?_,by rw[aE]⟩;have d:=Ln (r:=C.r) (bu:=C.bu) (bY:=C.bY) (w:=C.w.alloc (.cells #[.map (some oy)] 224)) (e:=224) (U:=1) (b:=C.w.heap.size) (cap:=1) (cells:=[.bE 0]) aA.dw;rw[cK] at d;rw[aA.bZ];exact d
def vh (M:cc)(h:List cX)(al:List dP)(aa:List cF):Int:=if vm M h al=0 then vi aa else vm M h al
theorem awM (M:cc)(h:List cX)(hl:h.length<=9223372036854775806)(al:List dP)(sF:al.length<=1000000)(aa:List cF)(gy:aa.length<=1000000):
 aO prog 42 [M.v,.pure 6 (ai h),.pure 7 (ai al),.pure 4 (ai aa)] []
  (λv rs=>if vh M h al aa=0 then v= .bo [.own 0 (tW M h al aa).length 0 (tW M h al aa).length,.int .i64 0]/\rs=[.ag 136 3 (ai (tW M h al aa))] else v= .bo [.bH,.int .i64 (vh M h al aa)]/\rs=[]):=by
 refine cu func42 acF (by simp[pn,qf]) ?_;unfold vh;simp only[go_sem,pn,qf,cc.v];refine bM (agv M h hl al sF) rfl rfl ?_
 by_cases an:vm M h al=0
 rotate_left
 ·have df: (vm M h al != 0)=true:=by simp[an]
  simp only[go_sem,pn,qf,df];exact aKG rfl (by simp[an])
 obtain⟨bO,cd,fk,hB⟩:=Sl an;rw[an];simp only[go_sem,pn,qf];refine bM (aFP aa gy) rfl rfl ?_
 by_cases ak:vi aa=0
 rotate_left
 ·have hT: (vi aa != 0)=true:=by simp[ak]
  simp only[go_sem,pn,qf,hT];exact aKG rfl (by simp[ak])
 rw[ak];have kk:aa.length<=4096:=by
  unfold vi at ak;split at ak
  ·cases ak
  ·omega
 have MA:=aFN aa;have fF:=zY (gt aa);have ki:∀x∈gt aa,(Lit.int .i64 x).wf=true:=λx aj=>by
  obtain⟨q,aV,rfl⟩:=aiz.1 aj;have G:∀p∈aa,oE p:=by
   unfold vi at ak;split at ak
   ·cases ak
   ·split at ak
    ·assumption
    ·cases ak
  have:=G q aV;unfold oE at this;show (decide (IntKind.i64.min<=q.ah)&&decide (q.ah<=IntKind.i64.max))=true;rw[aKJ,aKN,aKN];show -9223372036854775808<=q.ah/\q.ah<=9223372036854775807;omega
 have EB:=D1 M h al aa (gt aa);simp only[go_sem,pn,qf];refine om [] [] (by decide) rfl rfl (aFC M bO h cd al fk hB aa ak) ?_;rintro _ _ ⟨rfl,rfl⟩;refine⟨.inl rfl,?_⟩;simp only[go_sem,pn,qf,Jn]
 (refine fy [1] (aFO (de (mJ M h al aa) (gt aa))) ?_;rintro _ _ ⟨rfl,rfl⟩;simp only[go_sem])
 (refine fy [1,2] (auO 224 (de (mJ M h al aa) (gt aa)) (gt aa) (by simp[de]) (aiy aa) ki (by omega)) ?_;rintro _ _ ⟨rfl,rfl⟩;simp only[go_sem])
 have RP: (fq (gt aa)).length<=4096:=by omega
 have aiH:tW M h al aa=sR M h al aa (fq (gt aa)).length:=by unfold tW sR;rw[aLb]
 have aiI:=λc (av:c<(fq (gt aa)).length)=>aiF (M:=M) (h:=h) (al:=al) av;have aiJ:=λc (av:c<=(fq (gt aa)).length)=>aiG (M:=M) (h:=h) (al:=al) av;rw[aiH];have cg:∀x∈fq (gt aa),x∈gt aa:=λx aj=>(aER _ x).1 aj;generalize fq (gt aa)=K at RP aiH aiI aiJ cg ⊢;refine dN (λD r=> ∃(c:Nat),c<=K.length/\D=[(2,.pure 7 (ai al)),(12,.bE 1),(13,.own 3 (sR M h al aa c).length 0 (sR M h al aa c).length),(38,.pure 1 (cJ .i64 K)),(39,.int .i64 K.length),(40,.int .i64 c)]/\
  r=[.ag 32 2 [[.int .i64 M.off,.pure 2 (ai M.cS)]],.be (.map false [.int .i64] (de (mJ M h al aa) (gt aa))),.ag 224 1 [[.bE 1]],.ag 136 3 (ai (sR M h al aa c))])
  (λD _=>match bs D 40 with| .int _ j=>(K.length-j).toNat|_=>0) ?_ ?_
 ·(refine E.iv 13 136 3 rfl (E.eW [2,12,13,38,39,40] ?_);simp only[go_sem])
  exact i ⟨0,by omega,by simp[sR],by simp[sR,ai]⟩
 ·rintro D r ⟨c,av,rfl,rfl⟩;have fK:=dB (c:=c) (by omega);simp only[go_sem,pn,qf];refine cf ?_ ?_<;>intro ct<;>simp only[bC] at ct<;>simp only[go_sem,pn,qf]
  ·have aI:c<K.length:=by omega
   refine⟨by omega,by omega,?_⟩
   try simp only[aKX]
   rw[tw aI,show K.getD c 0=K[c] by simp[aLn,aI]];have Uk:=aiI c aI;have aFQ:=aiJ c (by omega);have ay:=cg _ (aLc aI);have aiK:=λn=>Uj M h al aa K[c] n;generalize K[c]=B at Uk ay aiK ⊢;generalize aKo:sR M h al aa c=aY at Uk aFQ ⊢;have wB:aY.length<=65536:=by
    have:c*al.length<=4096*16:=aOG (by omega) fk;omega
   simp only[go_sem,pn,qf];rw[Rc ay,aMW,show cp (mJ M h al aa B)=gV (cN M h al aa B) from rfl];refine⟨F0 _,by simp[gV,List.range,List.range.loop,Abs.cV],?_⟩;have aKp:fb [F.int .i64 0,.int .i64 0,.int .i64 0,.int .i64 0,.int .i64 0,.int .i64 0,.int .i64 0,.int .i64 0,.int .i64 0,.int .i64 0,.int .i64 0,.int .i64 0,.int .i64 0,.int .i64 0,.int .i64 0,.int .i64 0] 0 (gV (cN M h al aa B))=gV (cN M h al aa B):=by
    unfold fb;simp[F0]
   refine dN (λD r=> ∃(j:Nat),j<=al.length/\D=[(2,.pure 7 (ai al)),(12,.bE 1),(13,.own 3 (aY++ox M h al aa B j).length 0 (aY++ox M h al aa B j).length),(15,.int .i64 B),(16,.bd 4 1 0 0),(38,.pure 1 (cJ .i64 K)),(39,.int .i64 K.length),(40,.int .i64 c),(47,.pure 7 (ai al)),(48,.int .i64 al.length),(49,.int .i64 j)]/\
    r=[.ag 32 2 [[.int .i64 M.off,.pure 2 (ai M.cS)]],.be (.map false [.int .i64] (de (mJ M h al aa) (gt aa))),.ag 224 1 [[.bE 1]],.ag 136 3 (ai (aY++ox M h al aa B j)),.ag 227 16 [gV (cN M h al aa B)]])
    (λD _=>match bs D 49 with| .int _ j=>(al.length-j).toNat|_=>0) ?_ ?_
   ·refine i ⟨0,by omega,by simp[ox],?_⟩;simp[ox,F0]
   ·rintro D r ⟨j,hj,rfl,rfl⟩;have nf:=dB (c:=j) (by omega);simp only[go_sem,pn,qf];refine cf ?_ ?_<;>intro fH<;>simp only[bC] at fH<;>simp only[go_sem,pn,qf]
    ·have nC:j<al.length:=by omega
     refine⟨by omega,by omega,?_⟩
     try simp only[aKX]
     rw[cT nC,<-Jl nC];have Af:ox M h al aa B (j+1)=ox M h al aa B j++if 0<cN M h al aa B j then [⟨B,(fL al j).name,cN M h al aa B j⟩] else []:=rfl
     have ud: (0:Int)<=j:=by omega
     have Jo: (j:Int)<16:=by omega
     have eR: (gV (cN M h al aa B)).getD (j*1) F.cj= .int .i64 (cN M h al aa B j):=by rw[aNn,aiB (by omega)]
     generalize fL al j=w at Af ⊢;simp only[go_sem,pn,qf,A4];refine⟨ud,Jo,by omega,?_⟩;rw[eR]
     by_cases hm:cN M h al aa B j>0
     ·rw[Rc hm] at Af;simp only[go_sem,pn,qf,hm,ud,Jo,eR,aKX];have AQ:=aiK j;refine⟨by omega,by rw[aKK];omega,?_⟩;rw[nf,aFM,aKT,<-Af];have QG: (aY++ox M h al aa B j).length+1=(aY++ox M h al aa B (j+1)).length:=by rw[Af];simp;omega
      rw[QG]
      (refine E.bB [some 0,some 1,some 2,some 3,some 4] ?_;simp only[go_sem])
      refine i ⟨⟨j+1,by omega,rfl,rfl⟩,?_⟩;simp only[go_sem];omega
     ·rw[S hm,aLY] at Af;simp only[go_sem,pn,qf,hm,nf]
      (refine E.bB [some 0,some 1,some 2,some 3,some 4] ?_;simp only[go_sem])
      refine i ⟨⟨j+1,by omega,by rw[Af],by rw[Af]⟩,?_⟩;simp only[go_sem];omega
    ·obtain rfl:j=al.length:=by omega
     rw[fK];rw[<-Uk]
     (refine E.bB [some 0,some 1,some 2,some 3] ?_;simp only[go_sem])
     refine i ⟨⟨c+1,by omega,rfl,rfl⟩,?_⟩;simp only[go_sem];omega
  ·obtain rfl:c=K.length:=by omega
   (refine E.bB [some 3] ?_;simp only[go_sem])
   exact i ⟨rfl,rfl⟩
end Go.Proofs.YtpincjkjoeopkaaGreatDoor.Pm
