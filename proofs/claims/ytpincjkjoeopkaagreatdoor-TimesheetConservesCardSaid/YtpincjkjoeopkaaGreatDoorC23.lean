/- Time evaluation. -/
import Derived.Test.YtpincjkjoeopkaaGreatDoorC19
import Derived.Test.YtpincjkjoeopkaaGreatDoorC20
import Derived.Test.YtpincjkjoeopkaaGreatDoorC22
set_option linter.all false
namespace Go.Proofs.YtpincjkjoeopkaaGreatDoor
open Go Go.Abs Go.Proofs.Tryz
structure eD where
 M:cc
 fz:Int
 er:Int
 ex:Int
 dK:Pr.gK
 ia:Ib.ib
 al:List Pm.dP
 ao:List Pm.cX
def eD.J (z:eD):List F:=[.int .i64 z.M.off,.pure 2 (ai z.M.cS),.int .i64 z.fz,.int .i64 z.er,.int .i64 z.ex,.int .i64 z.dK.eI,.int .i64 z.dK.lw,.int .i64 z.dK.lP,.pure 2 (ai z.dK.iA),.str z.ia.ef,.pure 2 (ai z.ia.eN),.pure 2 (ai z.ia.gL),.pure 7 (ai z.al),.pure 6 (ai z.ao)]
theorem eD.fX (z:eD):bU z.J=true:=by simp only[eD.J,bU,bJ,ck,aK4]
theorem eD.on (z:eD):z.J.all Abs.cV=true:=by simp[eD.J,Abs.cV]
def rA (M:cc)(ae:List cw)(B:eX):Pr.bx:=if h:0<=B.bP/\B.bP<ae.length then ⟨(fW M (ae[B.bP.toNat]'(by omega))).R,(fW M (ae[B.bP.toNat]'(by omega))).ab⟩ else ⟨0,0⟩
theorem avk {M:cc}{ae:List cw}(h:jd M ae=0)(B:eX):Pr.HM (rA M ae B):=by
 unfold rA;split
 ·have:=QN (QP h _ (aLc (l:=ae) (n:=B.bP.toNat) (by omega)))
  right
  unfold Pr.hR;simp only[aKN];omega
 ·left;exact⟨rfl,rfl⟩
theorem Zo {z:Pr.gK}{ae:Pr.bx}:∀{aa:List Pr.dF} {last:Int},(Pr.kB z ae last aa).length<=aa.length
 | [],_=>by simp[Pr.kB]
 |p::t,last=>by
  unfold Pr.kB;have d:=Zo (z:=z) (ae:=ae) (aa:=t) (last:=max last (Pr.mo z ae last p).ab);split<;>simp only[aK8]<;>omega
theorem avl (z:Pr.gK)(N:Pr.mq z=0)(ae:Pr.bx)(gy:Pr.HM ae)(bP ah:Int)(aa:List Pr.dF)(kk:Pr.lx aa=0):aO prog 156 [.agg (aJ.J z),.agg (aJ.J ae),.agg [.int .i64 bP,.int .i64 ah,.pure 3 (ai aa)]] []
 (λv rs=>v= .bo [if Pr.qD z ae aa=0 then .agg [.int .i64 ah,.pure 2 (ai (Pr.pb z ae aa))] else .agg [.int .i64 0,.bH],.int .i64 (Pr.qD z ae aa)]/\rs=[]):=by
 have HN:Pr.qD z ae aa=if 100000<Pr.da (Pr.kB z ae 0 aa) then 3 else 0:=by
  unfold Pr.qD;rw[S (by omega),S (λh=>by rcases gy with G|G;exact h.1 G;rw[G] at h;exact absurd h.2 (by decide)),S (by omega)]
 by_cases hN:Pr.da (Pr.kB z ae 0 aa)<=100000
 ·rw[S (by omega)] at HN;rw[HN,Rc rfl];exact Pr.avm z ae bP ah aa HN
 rw[Rc (by omega)] at HN;rw[HN,S (by decide)];obtain⟨yn,kX,nK⟩:=Pr.LS N;have tG:=Pr.LU kk;have hC:=Pr.LV tG (by omega);have cK:aa.length<=1024:=by unfold Pr.lx at kk;split at kk<;>omega
 refine cu func156 Rb (by simp[EZ,HO]) ?_;simp only[go_sem,EZ,HO,Pr.Ab,Pr.eY];refine bM (Pr.Re z) rfl rfl ?_;rw[N];simp only[go_sem];have hA:=Pr.Zp z yn ae gy aa tG cK;have pv:=Pr.HP (z:=z) (ae:=ae) (aa:=aa) (last:=0);have E0:=Pr.Rf pv (by omega);have LW: (Pr.kB z ae 0 aa).length<=aa.length:=Zo;have Zq:=Pr.LX _ E0 (by omega);generalize Pr.kB z ae 0 aa=bw at *;have ay:decide (100000<Pr.da bw)=true:=aLv
 by_cases ba:ae.R=0/\ae.ab=0
 ·have af: (!(ae.R==0&&ae.ab==0))=false:=by simp[ba.1,ba.2]
  simp only[go_sem,af];refine bM (Pr.lQ aa (by omega)) rfl rfl ?_;rw[kk];simp only[go_sem];refine bM hA rfl rfl ?_;simp only[go_sem];refine bM Zq rfl rfl ?_;simp only[go_sem,ay];exact aKG rfl ⟨rfl,rfl⟩
 ·have af: (!(ae.R==0&&ae.ab==0))=true:=by simp;omega
  have qE:Pr.hR ⟨ae.R,ae.ab⟩ 0 120968640=true:=by rcases gy with G|G;exact absurd G ba;exact G
  simp only[go_sem,af];refine bM (Pr.Zr ae.R ae.ab) rfl rfl ?_;rw[qE];simp only[go_sem];refine bM (Pr.lQ aa (by omega)) rfl rfl ?_;rw[kk];simp only[go_sem];refine bM hA rfl rfl ?_;simp only[go_sem];refine bM Zq rfl rfl ?_;simp only[go_sem,ay];exact aKG rfl ⟨rfl,rfl⟩
theorem avn (z:eD)(N:Pr.mq z.dK=0)(ae:List cw)(gy:jd z.M ae=0)(B:eX)(ay:B.bP<ae.length)(kk:Pr.lx B.aa=0):aO prog 70 [.agg z.J,.pure 3 (ai ae),.agg (aJ.J B)] []
 (λv rs=>v= .bo [if Pr.qD z.dK (rA z.M ae B) B.aa=0 then .agg [.int .i64 B.ah,.pure 2 (ai (Pr.pb z.dK (rA z.M ae B) B.aa))] else .agg [.int .i64 0,.bH],.int .i64 (Pr.qD z.dK (rA z.M ae B) B.aa)]/\rs=[]):=by
 have hA:=avl z.dK N (rA z.M ae B) (avk gy B) B.bP B.ah B.aa kk;have avo:=YM gy;refine hJ func70 Zs (by simp[a70,Rh]) ?_;unfold eD.J;simp only[go_sem,a70,Rh,Ri]
 (repeat (first| (refine i ?_;simp only[go_sem,bT])|simp only[go_sem,bT]))
 simp only[Pr.Ab,Pr.eY] at hA
 by_cases h0:0<=B.bP
 ·have aKY:decide (0<=B.bP)=true:=aLf h0;have eQ:decide (B.bP<ae.length)=true:=aLf ay;have gs: (ai ae).getD B.bP.toNat []=aJ.J (ae[B.bP.toNat]'(by omega)):=cT (by omega);have e:rA z.M ae B=⟨(fW z.M (ae[B.bP.toNat]'(by omega))).R,(fW z.M (ae[B.bP.toNat]'(by omega))).ab⟩:=by unfold rA;rw[aN0 ⟨h0,ay⟩]
  have dp:=QP gy _ (aLc (l:=ae) (n:=B.bP.toNat) (by omega));have du:=YH z.M (ae[B.bP.toNat]'(by omega));rw[dp] at du;rw[e] at hA ⊢;generalize (ae[B.bP.toNat]'(by omega))=I at *;unfold cc.v at du;simp only[uZ,zT] at du;generalize fW z.M I=bf at *
  (repeat (first| (refine i ?_;simp only[go_sem,bT,aKY,eQ,h0,ay,gs,uZ])|simp only[go_sem,bT,aKY,eQ,h0,ay,gs,uZ]))
  refine gG du (by simp only[bU,bJ,ck,aK4,aK0]) rfl ?_
  (repeat (first| (refine i ?_;simp only[go_sem])|simp only[go_sem]))
  by_cases ba:Pr.qD z.dK ⟨bf.R,bf.ab⟩ B.aa=0
  ·rw[ba,Rc rfl] at hA;rw[ba,Rc rfl];refine bM hA (by simp only[bU,bJ,ck,aK4,aK0]) (by simp only[bU,bJ,ck,aK4,aK0]) ?_
   (repeat (first| (refine i ?_;simp only[go_sem,ck])|simp only[go_sem,ck]))
   exact aKG rfl ⟨rfl,rfl⟩
  ·rw[S ba] at hA;rw[S ba];refine bM hA (by simp only[bU,bJ,ck,aK4,aK0]) rfl ?_
   (repeat (first| (refine i ?_;simp only[go_sem,ck])|simp only[go_sem,ck]))
   exact aKG rfl ⟨rfl,rfl⟩
 ·have aKY:decide (0<=B.bP)=false:=aLh h0;have e:rA z.M ae B=⟨0,0⟩:=by unfold rA;rw[dif_neg (λh=>h0 h.1)]
  rw[e] at hA ⊢
  (repeat (first| (refine i ?_;simp only[go_sem,bT,aKY])|simp only[go_sem,bT,aKY]))
  by_cases ba:Pr.qD z.dK ⟨0,0⟩ B.aa=0
  ·rw[ba,Rc rfl] at hA;rw[ba,Rc rfl];refine bM hA (by simp only[bU,bJ,ck,aK4,aK0]) (by simp only[bU,bJ,ck,aK4,aK0]) ?_
   (repeat (first| (refine i ?_;simp only[go_sem,ck])|simp only[go_sem,ck]))
   exact aKG rfl ⟨rfl,rfl⟩
  ·rw[S ba] at hA;rw[S ba];refine bM hA (by simp only[bU,bJ,ck,aK4,aK0]) rfl ?_
   (repeat (first| (refine i ?_;simp only[go_sem,ck])|simp only[go_sem,ck]))
   exact aKG rfl ⟨rfl,rfl⟩
def oA (f:Int):List Pr.bx->List Pr.bx
 | []=> []
 |V::os=>if V.ab<=f then oA f os else V::os
def hS (t:Int):Int->List Pr.bx->List Pr.bx->List Pr.bx×Int
 |f,[],acc=>(acc,f)
 |f,V::os,acc=>if V.R<t then hS t (max f V.ab) os (if f<V.R then acc++[⟨f,V.R⟩] else acc) else (acc,f)
def Ax (I:Pr.bx)(b acc:List Pr.bx):List Pr.bx:=if (hS I.ab I.R (oA I.R b) acc).2<I.ab then (hS I.ab I.R (oA I.R b) acc).1++[⟨(hS I.ab I.R (oA I.R b) acc).2,I.ab⟩] else (hS I.ab I.R (oA I.R b) acc).1
def pm:List Pr.bx->List Pr.bx->List Pr.bx->List Pr.bx
 | [],_,acc=>acc
 |I::a,b,acc=>pm a (oA I.R b) (Ax I b acc)
theorem azg {f:Int}{b:List Pr.bx}{c:Nat}(h:c<b.length):oA f (b.drop c)=if b[c].ab<=f then oA f (b.drop (c+1)) else b.drop c:=by
 rw[aL4 h,oA]
theorem acj {t f:Int}{b acc:List Pr.bx}{c:Nat}(h:c<b.length):hS t f (b.drop c) acc=if b[c].R<t then hS t (max f b[c].ab) (b.drop (c+1)) (if f<b[c].R then acc++[⟨f,b[c].R⟩] else acc) else (acc,f):=by
 rw[aL4 h,hS]
theorem azh {a b acc:List Pr.bx}{c:Nat}(h:c<a.length):pm (a.drop c) b acc=pm (a.drop (c+1)) (oA a[c].R b) (Ax a[c] b acc):=by
 rw[aL4 h,pm]
theorem MS {t:Int}:∀{b acc:List Pr.bx} {f:Int},acc.length<=(hS t f b acc).1.length
 | [],acc,f=>aKM _
 |V::os,acc,f=>by
  unfold hS;split
  ·refine aLk ?_ MS;split
   ·rw[aKK];omega
   ·exact aKM _
  ·exact aKM _
theorem SU:∀{a b acc:List Pr.bx},acc.length<=(pm a b acc).length
 | [],b,acc=>aKM _
 |I::a,b,acc=>by
  unfold pm;refine aLk ?_ SU;unfold Ax;have:=MS (t:=I.ab) (f:=I.R) (b:=oA I.R b) (acc:=acc);split
  ·rw[aKK];omega
  ·exact this
set_option maxHeartbeats 4000000 in
theorem azi (a b:List Pr.bx)(aC:a.length<=1000000000)(af:b.length<=1000000000)(fS: (pm a b []).length<=1000000000):aO prog 71 [.pure 2 (ai a),.own 0 b.length 0 b.length] [.ag 64 2 (ai b)]
 (λv rs=>v= .pure 2 (ai (pm a b []))/\rs=[.ag 64 2 (ai b)]):=by
 refine hJ func71 ack (by simp[my,nh]) ?_;simp only[go_sem,my,nh]
 (repeat (first| (refine i ?_;simp only[go_sem,bT])|simp only[go_sem,bT]))
 refine hv (λD r=> ∃(c xG:Nat) (acc:List Pr.bx),c<=a.length/\xG<=b.length/\pm a b []=pm (a.drop c) (b.drop xG) acc/\D=[(1,.own 0 b.length 0 b.length),(5,.own 1 acc.length 0 acc.length),(6,.int .i64 xG),(11,.pure 2 (ai a)),(12,.int .i64 a.length),(13,.int .i64 c)]/\r=[.ag 64 2 (ai b),.ag 64 2 (ai acc)])
  (λD _=>match bs D 13 with| .int _ j=>(a.length-j).toNat|_=>0) ?_ ?_
 ·(refine E.iv 5 64 2 rfl (E.eW [1,5,6,11,12,13] ?_);simp only[go_sem])
  exact i ⟨0,0,[],by omega,by omega,rfl,rfl,rfl⟩
 rintro D r ⟨c,xG,acc,av,dV,du,rfl,rfl⟩;have aP:=dB (c:=c) (by omega)
 by_cases aI:c<a.length
 rotate_left
 ·have d:decide ((c:Int)<a.length)=false:=aK7;obtain rfl:c=a.length:=by omega
  rw[aLF,pm] at du;simp only[go_sem,my,nh]
  (repeat (first| (refine i ?_;simp only[go_sem,d])|simp only[go_sem,d]))
  have nL:bW [.ag 64 2 (ai b),.ag 64 2 (ai acc)] [some 0] [1] (.own 1 acc.length 0 acc.length)= .pure 2 (ai acc):=qx rfl rfl rfl (by rw[bT]) ck;refine E.jN [some 0] [1] rfl rfl (by simp only[go_sem]<;>rfl) ?_;simp only[aKP,aLC,nL];exact i ⟨by rw[du]<;>rfl,rfl⟩
 have d:decide ((c:Int)<a.length)=true:=aLv;have tM: (0:Int)<=c:=by omega
 have tN: (c:Int)<a.length:=by omega
 have nM: (ai a).getD c []=aJ.J a[c]:=cT aI;rw[azh aI] at du;generalize a[c]=I at *;simp only[go_sem,my,nh]
 (repeat (first| (refine i ?_;simp only[go_sem,d,tM,tN,nM,bT,Pr.eY])|simp only[go_sem,d,tM,tN,nM,bT,Pr.eY]))
 refine hv (λD r=> ∃eo:Nat,eo<=b.length/\oA I.R (b.drop xG)=oA I.R (b.drop eo)/\D=[(1,.own 0 b.length 0 b.length),(5,.own 1 acc.length 0 acc.length),(6,.int .i64 eo),(8,.bd 2 1 0 0),(9,.int .i64 I.R),(11,.pure 2 (ai a)),(12,.int .i64 a.length),(13,.int .i64 c)]/\r=[.ag 64 2 (ai b),.ag 64 2 (ai acc),.ag 64 2 [[.int .i64 I.R,.int .i64 I.ab]]])
  (λD _=>match bs D 6 with| .int _ j=>(b.length-j).toNat|_=>0) ?_ ?_
 ·exact i ⟨xG,dV,rfl,rfl,rfl⟩
 rintro D r ⟨eo,Ay,cA,rfl,rfl⟩;have gI:=dB (c:=eo) (by omega)
 by_cases lp:eo<b.length
 ·have aKY:decide ((eo:Int)<b.length)=true:=aLv;have BS: (0:Int)<=eo:=by omega
  have MT: (eo:Int)<b.length:=by omega
  have MU: (ai b).getD eo []=aJ.J b[eo]:=cT lp;rw[azg lp] at cA
  by_cases eA:b[eo].ab<=I.R
  ·rw[Rc eA] at cA;have eQ:decide (b[eo].ab<=I.R)=true:=aLf eA;simp only[go_sem,my,nh]
   (repeat (first| (refine i ?_;simp only[go_sem,bT,aKY,eQ,BS,MT,MU,Pr.eY,gI])|simp only[go_sem,bT,aKY,eQ,BS,MT,MU,Pr.eY,gI]))
   exact⟨⟨eo+1,by omega,cA,rfl⟩,by omega⟩
  ·rw[S eA] at cA;have eQ:decide (b[eo].ab<=I.R)=false:=aLh eA;simp only[go_sem,my,nh]
   (repeat (first| (refine i ?_;simp only[go_sem,bT,aKY,eQ,BS,MT,MU,Pr.eY,gI])|simp only[go_sem,bT,aKY,eQ,BS,MT,MU,Pr.eY,gI]))
   unfold Ax at du;rw[cA] at du;have hG:=SU (a:=a.drop (c+1)) (b:=b.drop eo) (acc:=if (hS I.ab I.R (b.drop eo) acc).2<I.ab then (hS I.ab I.R (b.drop eo) acc).1++[⟨(hS I.ab I.R (b.drop eo) acc).2,I.ab⟩] else (hS I.ab I.R (b.drop eo) acc).1);rw[<-du] at hG;have SV: (hS I.ab I.R (b.drop eo) acc).1.length<=1000000000:=by
    split at hG
    ·rw[aKK] at hG;omega
    ·omega
   refine hv (λD r=> ∃(gm:Nat) (f:Int) (dz:List Pr.bx),eo<=gm/\gm<=b.length/\hS I.ab I.R (b.drop eo) acc=hS I.ab f (b.drop gm) dz/\D=[(1,.own 0 b.length 0 b.length),(5,.own 1 dz.length 0 dz.length),(6,.int .i64 eo),(8,.bd 2 1 0 0),(9,.int .i64 f),(10,.int .i64 gm),(11,.pure 2 (ai a)),(12,.int .i64 a.length),(13,.int .i64 c)]/\r=[.ag 64 2 (ai b),.ag 64 2 (ai dz),.ag 64 2 [[.int .i64 I.R,.int .i64 I.ab]]])
    (λD _=>match bs D 10 with| .int _ j=>(b.length-j).toNat|_=>0) ?_ ?_
   ·exact i ⟨eo,I.R,acc,by omega,by omega,rfl,rfl,rfl⟩
   rintro D r ⟨gm,f,dz,azj,azk,hX,rfl,rfl⟩;have tt:dz.length<=1000000000:=by
    have aKH:=MS (t:=I.ab) (f:=f) (b:=b.drop gm) (acc:=dz);rw[<-hX] at aKH;omega
   have ik:=dB (c:=gm) (by omega)
   by_cases sm:gm<b.length
   ·have eF:decide ((gm:Int)<b.length)=true:=aLv;have mz: (0:Int)<=gm:=by omega
    have mA: (gm:Int)<b.length:=by omega
    have mB: (ai b).getD gm []=aJ.J b[gm]:=cT sm;rw[acj sm] at hX;generalize b[gm]=V at *
    by_cases nu:V.R<I.ab
    ·rw[Rc nu] at hX;have iR:decide (V.R<I.ab)=true:=aLf nu
     by_cases iH:f<V.R
     ·have pW:decide (f<V.R)=true:=aLf iH;rw[Rc iH] at hX;simp only[go_sem,my,nh]
      (repeat (first| (refine i ?_;simp only[go_sem,bT,eF,iR,pW,mz,mA,mB,Pr.eY,ik])|simp only[go_sem,bT,eF,iR,pW,mz,mA,mB,Pr.eY,ik]))
      refine⟨by omega,?_⟩
      (refine E.bB [some 0,some 1,some 2] ?_;simp only[go_sem])
      (repeat (first| (refine i ?_;simp only[go_sem,bT,eF,iR,pW,mz,mA,mB,Pr.eY,ik])|simp only[go_sem,bT,eF,iR,pW,mz,mA,mB,Pr.eY,ik]))
      exact⟨⟨gm+1,max f V.ab,dz++[⟨f,V.R⟩],by omega,by omega,hX,by rw[aKK];rfl,rfl⟩,by omega⟩
     ·have pW:decide (f<V.R)=false:=aLh iH;rw[S iH] at hX;simp only[go_sem,my,nh]
      (repeat (first| (refine i ?_;simp only[go_sem,bT,eF,iR,pW,mz,mA,mB,Pr.eY,ik])|simp only[go_sem,bT,eF,iR,pW,mz,mA,mB,Pr.eY,ik]))
      exact⟨⟨gm+1,max f V.ab,dz,by omega,by omega,hX,rfl,rfl⟩,by omega⟩
    ·rw[S nu] at hX;have iR:decide (V.R<I.ab)=false:=aLh nu
     by_cases nS:f<I.ab
     ·have kq:decide (f<I.ab)=true:=aLf nS;rw[hX] at du;simp only[nS,aK5] at du;simp only[go_sem,my,nh]
      (repeat (first| (refine i ?_;simp only[go_sem,bT,eF,iR,mz,mA,mB,kq,Pr.eY,aP])|simp only[go_sem,bT,eF,iR,mz,mA,mB,kq,Pr.eY,aP]))
      refine⟨by omega,?_⟩
      (refine E.bB [some 0,some 1] ?_;simp only[go_sem])
      (repeat (first| (refine i ?_;simp only[go_sem,aP])|simp only[go_sem,aP]))
      exact⟨⟨c+1,eo,dz++[⟨f,I.ab⟩],by omega,by omega,du,by rw[aKK];rfl,rfl⟩,by omega⟩
     ·have kq:decide (f<I.ab)=false:=aLh nS;rw[hX] at du;simp only[nS,aLi] at du;simp only[go_sem,my,nh]
      (repeat (first| (refine i ?_;show eG _ _ _ _ _ _;simp only[go_sem,bT,eF,iR,mz,mA,mB,kq,Pr.eY,aP])|simp only[go_sem,bT,eF,iR,mz,mA,mB,kq,Pr.eY,aP]))
      (refine E.bB [some 0,some 1] ?_;simp only[go_sem])
      refine i ⟨⟨c+1,eo,dz,by omega,by omega,du,rfl,rfl⟩,?_⟩;simp only[go_sem];omega
   ·have eF:decide ((gm:Int)<b.length)=false:=aK7;have zg:gm=b.length:=by omega
    rw[zg,aLF,hS] at hX
    by_cases nS:f<I.ab
    ·have kq:decide (f<I.ab)=true:=aLf nS;rw[hX] at du;simp only[nS,aK5] at du;simp only[go_sem,my,nh]
     (repeat (first| (refine i ?_;simp only[go_sem,bT,eF,kq,Pr.eY,aP])|simp only[go_sem,bT,eF,kq,Pr.eY,aP]))
     refine⟨by omega,?_⟩
     (refine E.bB [some 0,some 1] ?_;simp only[go_sem])
     (repeat (first| (refine i ?_;simp only[go_sem,aP])|simp only[go_sem,aP]))
     exact⟨⟨c+1,eo,dz++[⟨f,I.ab⟩],by omega,by omega,du,by rw[aKK];rfl,rfl⟩,by omega⟩
    ·have kq:decide (f<I.ab)=false:=aLh nS;rw[hX] at du;simp only[nS,aLi] at du;simp only[go_sem,my,nh]
     (repeat (first| (refine i ?_;show eG _ _ _ _ _ _;simp only[go_sem,bT,eF,kq,Pr.eY,aP])|simp only[go_sem,bT,eF,kq,Pr.eY,aP]))
     (refine E.bB [some 0,some 1] ?_;simp only[go_sem])
     refine i ⟨⟨c+1,eo,dz,by omega,by omega,du,rfl,rfl⟩,?_⟩;simp only[go_sem];omega
 ·have aKY:decide ((eo:Int)<b.length)=false:=aK7;have hne:eo=b.length:=by omega
  have EN:oA I.R (b.drop eo)=b.drop eo:=by rw[hne,aLF];rfl
  ·rw[EN] at cA;simp only[go_sem,my,nh]
   (repeat (first| (refine i ?_;simp only[go_sem,bT,aKY])|simp only[go_sem,bT,aKY]))
   unfold Ax at du;rw[cA] at du;have hG:=SU (a:=a.drop (c+1)) (b:=b.drop eo) (acc:=if (hS I.ab I.R (b.drop eo) acc).2<I.ab then (hS I.ab I.R (b.drop eo) acc).1++[⟨(hS I.ab I.R (b.drop eo) acc).2,I.ab⟩] else (hS I.ab I.R (b.drop eo) acc).1);rw[<-du] at hG;have SV: (hS I.ab I.R (b.drop eo) acc).1.length<=1000000000:=by
    split at hG
    ·rw[aKK] at hG;omega
    ·omega
   refine hv (λD r=> ∃(gm:Nat) (f:Int) (dz:List Pr.bx),eo<=gm/\gm<=b.length/\hS I.ab I.R (b.drop eo) acc=hS I.ab f (b.drop gm) dz/\D=[(1,.own 0 b.length 0 b.length),(5,.own 1 dz.length 0 dz.length),(6,.int .i64 eo),(8,.bd 2 1 0 0),(9,.int .i64 f),(10,.int .i64 gm),(11,.pure 2 (ai a)),(12,.int .i64 a.length),(13,.int .i64 c)]/\r=[.ag 64 2 (ai b),.ag 64 2 (ai dz),.ag 64 2 [[.int .i64 I.R,.int .i64 I.ab]]])
    (λD _=>match bs D 10 with| .int _ j=>(b.length-j).toNat|_=>0) ?_ ?_
   ·exact i ⟨eo,I.R,acc,by omega,by omega,rfl,rfl,rfl⟩
   rintro D r ⟨gm,f,dz,azj,azk,hX,rfl,rfl⟩;have tt:dz.length<=1000000000:=by
    have aKH:=MS (t:=I.ab) (f:=f) (b:=b.drop gm) (acc:=dz);rw[<-hX] at aKH;omega
   have ik:=dB (c:=gm) (by omega)
   by_cases sm:gm<b.length
   ·have eF:decide ((gm:Int)<b.length)=true:=aLv;have mz: (0:Int)<=gm:=by omega
    have mA: (gm:Int)<b.length:=by omega
    have mB: (ai b).getD gm []=aJ.J b[gm]:=cT sm;rw[acj sm] at hX;generalize b[gm]=V at *
    by_cases nu:V.R<I.ab
    ·rw[Rc nu] at hX;have iR:decide (V.R<I.ab)=true:=aLf nu
     by_cases iH:f<V.R
     ·have pW:decide (f<V.R)=true:=aLf iH;rw[Rc iH] at hX;simp only[go_sem,my,nh]
      (repeat (first| (refine i ?_;simp only[go_sem,bT,eF,iR,pW,mz,mA,mB,Pr.eY,ik])|simp only[go_sem,bT,eF,iR,pW,mz,mA,mB,Pr.eY,ik]))
      refine⟨by omega,?_⟩
      (refine E.bB [some 0,some 1,some 2] ?_;simp only[go_sem])
      (repeat (first| (refine i ?_;simp only[go_sem,bT,eF,iR,pW,mz,mA,mB,Pr.eY,ik])|simp only[go_sem,bT,eF,iR,pW,mz,mA,mB,Pr.eY,ik]))
      exact⟨⟨gm+1,max f V.ab,dz++[⟨f,V.R⟩],by omega,by omega,hX,by rw[aKK];rfl,rfl⟩,by omega⟩
     ·have pW:decide (f<V.R)=false:=aLh iH;rw[S iH] at hX;simp only[go_sem,my,nh]
      (repeat (first| (refine i ?_;simp only[go_sem,bT,eF,iR,pW,mz,mA,mB,Pr.eY,ik])|simp only[go_sem,bT,eF,iR,pW,mz,mA,mB,Pr.eY,ik]))
      exact⟨⟨gm+1,max f V.ab,dz,by omega,by omega,hX,rfl,rfl⟩,by omega⟩
    ·rw[S nu] at hX;have iR:decide (V.R<I.ab)=false:=aLh nu
     by_cases nS:f<I.ab
     ·have kq:decide (f<I.ab)=true:=aLf nS;rw[hX] at du;simp only[nS,aK5] at du;simp only[go_sem,my,nh]
      (repeat (first| (refine i ?_;simp only[go_sem,bT,eF,iR,mz,mA,mB,kq,Pr.eY,aP])|simp only[go_sem,bT,eF,iR,mz,mA,mB,kq,Pr.eY,aP]))
      refine⟨by omega,?_⟩
      (refine E.bB [some 0,some 1] ?_;simp only[go_sem])
      (repeat (first| (refine i ?_;simp only[go_sem,aP])|simp only[go_sem,aP]))
      exact⟨⟨c+1,eo,dz++[⟨f,I.ab⟩],by omega,by omega,du,by rw[aKK];rfl,rfl⟩,by omega⟩
     ·have kq:decide (f<I.ab)=false:=aLh nS;rw[hX] at du;simp only[nS,aLi] at du;simp only[go_sem,my,nh]
      (repeat (first| (refine i ?_;show eG _ _ _ _ _ _;simp only[go_sem,bT,eF,iR,mz,mA,mB,kq,Pr.eY,aP])|simp only[go_sem,bT,eF,iR,mz,mA,mB,kq,Pr.eY,aP]))
      (refine E.bB [some 0,some 1] ?_;simp only[go_sem])
      refine i ⟨⟨c+1,eo,dz,by omega,by omega,du,rfl,rfl⟩,?_⟩;simp only[go_sem];omega
   ·have eF:decide ((gm:Int)<b.length)=false:=aK7;have zg:gm=b.length:=by omega
    rw[zg,aLF,hS] at hX
    by_cases nS:f<I.ab
    ·have kq:decide (f<I.ab)=true:=aLf nS;rw[hX] at du;simp only[nS,aK5] at du;simp only[go_sem,my,nh]
     (repeat (first| (refine i ?_;simp only[go_sem,bT,eF,kq,Pr.eY,aP])|simp only[go_sem,bT,eF,kq,Pr.eY,aP]))
     refine⟨by omega,?_⟩
     (refine E.bB [some 0,some 1] ?_;simp only[go_sem])
     (repeat (first| (refine i ?_;simp only[go_sem,aP])|simp only[go_sem,aP]))
     exact⟨⟨c+1,eo,dz++[⟨f,I.ab⟩],by omega,by omega,du,by rw[aKK];rfl,rfl⟩,by omega⟩
    ·have kq:decide (f<I.ab)=false:=aLh nS;rw[hX] at du;simp only[nS,aLi] at du;simp only[go_sem,my,nh]
     (repeat (first| (refine i ?_;show eG _ _ _ _ _ _;simp only[go_sem,bT,eF,kq,Pr.eY,aP])|simp only[go_sem,bT,eF,kq,Pr.eY,aP]))
     (refine E.bB [some 0,some 1] ?_;simp only[go_sem])
     refine i ⟨⟨c+1,eo,dz,by omega,by omega,du,rfl,rfl⟩,?_⟩;simp only[go_sem];omega
def nR (x y:Pr.bx):Prop:=x.ab<=y.R\/y.ab<=x.R
theorem rI {e t:Int}{b:Pr.bx}{z:List Pr.bx}:Pr.dd e t (b::z)=true↔(e<=b.R/\b.R<b.ab/\b.ab<=t)/\Pr.dd b.ab t z=true:=by
 rw[Pr.dd,aKJ,Pr.hR,aKN]
theorem wG {t:Int}:∀{l:List Pr.bx} {e:Int},Pr.dd e t l=true-> ∀x∈l,e<=x.R/\x.R<x.ab/\x.ab<=t
 | [],_,_,x,aj=>by cases aj
 |b::z,e,h,x,aj=>by
  rw[rI] at h;rcases aKV.1 aj with rfl|aj
  ·exact h.1
  ·have:=wG h.2 x aj;omega
theorem SO {t:Int}:∀{l:List Pr.bx} {e:Int},Pr.dd e t l=true->e<=t->e+l.length<=t
 | [],e,_,h=>by simpa using h
 |b::z,e,h,he=>by
  rw[rI] at h;have:=SO h.2 (by omega);rw[aK8];omega
theorem yz {t:Int}:∀{l m:List Pr.bx} {e g:Int},Pr.dd e t l=true->(∀x∈l,x.ab<=g)->e<=g->Pr.dd g t m=true->Pr.dd e t (l++m)=true
 | [],m,e,g,_,_,he,h=>by
  cases m with
  |nil=>rfl
  |cons b z=>rw[rI] at h;rw[aLV,rI];exact⟨⟨by omega,h.1.2⟩,h.2⟩
 |b::z,m,e,g,h,hl,he,hm=>by
  rw[rI] at h;rw[aLx,rI];exact⟨h.1,yz h.2 (λx aj=>hl x (aK1 _ aj)) (hl b aLa) hm⟩
theorem acd {e t tC:Int}(ht:t<=tC):∀{l:List Pr.bx} {e:Int},Pr.dd e t l=true->Pr.dd e tC l=true
 | [],_,_=>rfl
 |b::z,e,h=>by
  rw[rI] at h ⊢;exact⟨⟨h.1.1,h.1.2.1,by omega⟩,acd (e:=e) ht h.2⟩
theorem ace {t aW:Int}:∀{b:List Pr.bx} {f e:Int} {acc:List Pr.bx},Pr.dd e aW b=true->
 ∃aF,(hS t f b acc).1=acc++aF/\Pr.dd f t aF=true/\f<=(hS t f b acc).2/\(∀x∈aF,x.ab<=(hS t f b acc).2/\ ∀V∈b,nR x V)/\ ∀V∈b,V.ab<=(hS t f b acc).2\/t<=V.R
 | [],f,e,acc,_=>⟨[],by simp[hS],rfl,aMe _,by simp,by simp⟩
 |V::os,f,e,acc,h=>by
  rw[rI] at h;unfold hS
  by_cases bp:V.R<t
  ·rw[Rc bp];obtain⟨aF,d,G,au,bv,cx⟩:=ace (t:=t) (f:=max f V.ab) (acc:=if f<V.R then acc++[⟨f,V.R⟩] else acc) h.2;generalize hS t (max f V.ab) os (if f<V.R then acc++[⟨f,V.R⟩] else acc)=p at *;have ayQ:=wG h.2;have nJ:=wG G;have hB:∀x∈aF,x.ab<=p.2/\ ∀q∈V::os,nR x q:=λx aj=>⟨(bv x aj).1,λq aV=>by
    rcases aKV.1 aV with rfl|aV
    ·have:=nJ x aj;unfold nR;omega
    ·exact (bv x aj).2 q aV⟩
   have jE:∀q∈V::os,q.ab<=p.2\/t<=q.R:=λq aV=>by
    rcases aKV.1 aV with rfl|aV
    ·left;omega
    ·exact cx q aV
   by_cases hf:f<V.R
   ·rw[Rc hf] at d;refine⟨⟨f,V.R⟩::aF,by rw[d,aKT];rfl,?_,by omega,λx aj=> ?_,jE⟩
    ·rw[rI];refine⟨⟨aMe _,hf,by show V.R<=t;omega⟩,?_⟩;exact yz (l:=[]) (g:=max f V.ab) rfl (by simp) (by show V.R<=max f V.ab;omega) G
    ·rcases aKV.1 aj with rfl|aj
     ·refine⟨by show V.R<=p.2;omega,λq aV=> ?_⟩;unfold nR;rcases aKV.1 aV with rfl|aV
      ·left;exact aMe _
      ·have:=ayQ q aV
       left;simp only;omega
     ·exact hB x aj
   ·rw[S hf] at d;refine⟨aF,d,yz (l:=[]) (g:=max f V.ab) rfl (by simp) (by omega) G,by omega,hB,jE⟩
  ·rw[S bp];refine⟨[],by simp,rfl,aMe _,by simp,λq aV=> ?_⟩
   right
   rcases aKV.1 aV with rfl|aV
   ·omega
   ·have:=wG h.2 q aV;omega
theorem SP {aW f:Int}:∀{b:List Pr.bx} {e:Int},Pr.dd e aW b=true->(∃cO,Pr.dd cO aW (oA f b)=true)/\ ∀V∈b,V∈oA f b\/V.ab<=f
 | [],_,_=>⟨⟨0,rfl⟩,by simp⟩
 |V::os,e,h=>by
  have cR:=h;rw[rI] at h;unfold oA;split
  ·obtain⟨d,G⟩:=SP (f:=f) h.2;refine⟨d,λq aV=> ?_⟩;rcases aKV.1 aV with rfl|aV
   ·right;assumption
   ·exact G q aV
  ·exact⟨⟨e,cR⟩,λq aV=> .inl aV⟩
theorem ayR {aW e:Int}{I:Pr.bx}(ao:I.R<I.ab){b acc:List Pr.bx}(af:Pr.dd e aW b=true):
 ∃aF,Ax I b acc=acc++aF/\Pr.dd I.R I.ab aF=true/\ ∀x∈aF,∀V∈b,nR x V:=by
 obtain⟨⟨cO,he⟩,O⟩:=SP (f:=I.R) af;obtain⟨aF,d,G,au,bv,cx⟩:=ace (t:=I.ab) (f:=I.R) (acc:=acc) he;unfold Ax;generalize hS I.ab I.R (oA I.R b) acc=p at *;have dc:=wG G;have k:∀x∈aF,∀V∈b,nR x V:=λx aj V bp=>by
  rcases O V bp with h|h
  ·exact (bv x aj).2 V h
  ·have:=dc x aj;unfold nR;omega
 by_cases hf:p.2<I.ab
 ·rw[Rc hf];refine⟨aF++[⟨p.2,I.ab⟩],by rw[d,aKT],yz G (λx aj=>(bv x aj).1) au (by rw[rI];exact⟨⟨aMe _,hf,aMe _⟩,rfl⟩),λx aj V bp=> ?_⟩;rcases aK3.1 aj with aj|aj
  ·exact k x aj V bp
  ·rw[aK2] at aj;subst aj;unfold nR;simp only;rcases O V bp with h|h
   ·have:=cx V h;omega
   ·omega
 ·rw[S hf];exact⟨aF,d,G,k⟩
theorem acf {aW:Int}:∀{a b acc:List Pr.bx} {e g:Int},Pr.dd e aW a=true->Pr.dd g aW b=true->
 ∃aF,pm a b acc=acc++aF/\Pr.dd e aW aF=true/\ ∀x∈aF,∀V∈b,nR x V
 | [],b,acc,e,g,_,_=>⟨[],by simp[pm],rfl,by simp⟩
 |I::a,b,acc,e,g,aC,af=>by
  rw[rI] at aC;obtain⟨ayS,d,G,au⟩:=ayR (acc:=acc) aC.1.2.1 af;obtain⟨⟨zX,aw⟩,O⟩:=SP (f:=I.R) af;obtain⟨ayT,bO,cd,fk⟩:=acf (acc:=Ax I b acc) aC.2 aw;unfold pm;refine⟨ayS++ayT,by rw[bO,d,aKT],?_,λx aj V bp=> ?_⟩
  ·exact yz (l:=[]) (g:=I.R) rfl (by simp) aC.1.1 (yz (g:=I.ab) (acd (e:=I.R) aC.1.2.2 G) (λx aj=>(wG G x aj).2.2) (by omega) cd)
  ·rcases aK3.1 aj with aj|aj
   ·exact au x aj V bp
   ·rcases O V bp with h|h
    ·exact fk x aj V h
    ·have:=wG cd x aj;unfold nR;omega
end Go.Proofs.YtpincjkjoeopkaaGreatDoor
namespace Go.Proofs.YtpincjkjoeopkaaGreatDoor
open Go Go.Abs Go.Proofs.Tryz
open Go.Sort (SWO)
def ayX:Go.Shelf.Ren:=
 {f:=λx=>match x with|6=>72|15=>158|14=>157|28=>241|29=>242|20=>233|21=>234|22=>235|23=>236|24=>237|25=>238|26=>239|27=>240|46=>289|47=>290|48=>291|49=>292|50=>293|57=>342|n=>n,
  t:=λx=>match x with|22=>60|24=>64|25=>162|3=>3|39=>284|0=>0|53=>347|55=>349|4=>4|46=>341|45=>340|50=>206|5=>5|9=>9|66=>376|70=>380|76=>412|77=>308|n=>n,
  g:=λn=>n}
set_option maxRecDepth 100000 in
theorem ayY:SlLaysF0.n6 prog ayX where
 mixed:=by kernel_rfl
 f6:=⟨"slices.SortFunc[[]payroll/api.Interval,payroll/api.Interval]",by decide,aKL func72 (aKI some (by kernel_rfl))⟩
 f14:=⟨"slices.pdqsortCmpFunc[payroll/api.Interval]",by decide,aKL func157 (aKI some (by kernel_rfl))⟩
 f15:=aKL func158 (aKI some (by kernel_rfl))
 f20:=⟨"slices.insertionSortCmpFunc[payroll/api.Interval]",by decide,aKL func233 (aKI some (by kernel_rfl))⟩
 f21:=⟨"slices.heapSortCmpFunc[payroll/api.Interval]",by decide,aKL func234 (aKI some (by kernel_rfl))⟩
 f22:=⟨"slices.breakPatternsCmpFunc[payroll/api.Interval]",by decide,aKL func235 (aKI some (by kernel_rfl))⟩
 f23:=⟨"slices.choosePivotCmpFunc[payroll/api.Interval]",by decide,aKL func236 (aKI some (by kernel_rfl))⟩
 f24:=⟨"slices.reverseRangeCmpFunc[payroll/api.Interval]",by decide,aKL func237 (aKI some (by kernel_rfl))⟩
 f25:=⟨"slices.partialInsertionSortCmpFunc[payroll/api.Interval]",by decide,aKL func238 (aKI some (by kernel_rfl))⟩
 f26:=⟨"slices.partitionEqualCmpFunc[payroll/api.Interval]",by decide,aKL func239 (aKI some (by kernel_rfl))⟩
 f27:=⟨"slices.partitionCmpFunc[payroll/api.Interval]",by decide,aKL func240 (aKI some (by kernel_rfl))⟩
 f28:=aKL func241 (aKI some (by kernel_rfl))
 f29:=aKL func242 (aKI some (by kernel_rfl))
 f46:=⟨"slices.siftDownCmpFunc[payroll/api.Interval]",by decide,aKL func289 (aKI some (by kernel_rfl))⟩
 f47:=aKL func290 (aKI some (by kernel_rfl))
 f48:=aKL func291 (aKI some (by kernel_rfl))
 f49:=⟨"slices.medianAdjacentCmpFunc[payroll/api.Interval]",by decide,aKL func292 (aKI some (by kernel_rfl))⟩
 f50:=⟨"slices.medianCmpFunc[payroll/api.Interval]",by decide,aKL func293 (aKI some (by kernel_rfl))⟩
 f57:=⟨"slices.order2CmpFunc[payroll/api.Interval]",by decide,aKL func342 (aKI some (by kernel_rfl))⟩
 t0:=underlying0
 a0:=isAgg0
 z0:=sizeOf0
 v0:=zeroValue0
 t3:=underlying3
 a3:=isAgg3
 z3:=sizeOf3
 v3:=zeroValue3
 t4:=underlying4
 a4:=isAgg4
 z4:=sizeOf4
 v4:=zeroValue4
 t5:=underlying5
 a5:=isAgg5
 z5:=sizeOf5
 v5:=zeroValue5
 t9:=underlying9
 a9:=isAgg9
 z9:=sizeOf9
 v9:=zeroValue9
 t22:=underlying60
 a22:=isAgg60
 z22:=sizeOf60
 v22:=zeroValue60
 t25:=underlying162
 a25:=isAgg162
 z25:=sizeOf162
 v25:=zeroValue162
 t39:=underlying284
 a39:=isAgg284
 z39:=sizeOf284
 v39:=zeroValue284
 t45:=underlying340
 a45:=isAgg340
 z45:=sizeOf340
 v45:=zeroValue340
 t46:=underlying341
 a46:=isAgg341
 z46:=sizeOf341
 v46:=zeroValue341
 t50:=underlying206
 a50:=isAgg206
 z50:=sizeOf206
 v50:=zeroValue206
 t53:=underlying347
 a53:=isAgg347
 z53:=sizeOf347
 v53:=zeroValue347
 t55:=underlying349
 a55:=isAgg349
 z55:=sizeOf349
 v55:=zeroValue349
 t66:=underlying376
 a66:=isAgg376
 z66:=sizeOf376
 v66:=zeroValue376
 t70:=underlying380
 a70:=isAgg380
 z70:=sizeOf380
 v70:=zeroValue380
 t76:=underlying412
 a76:=isAgg412
 z76:=sizeOf412
 v76:=zeroValue412
 t77:=underlying308
 a77:=isAgg308
 z77:=sizeOf308
 v77:=zeroValue308
section
variable [iZ:dE]
theorem ayZ (a b:Pr.bx):aO prog 73 [.agg (aJ.J a),.agg (aJ.J b)] [] (λv rs=>v= .int .i64 (gT a.R b.R)/\rs=[]):=by
 refine cu func73 ach (by simp[MQ,SR]) ?_;simp only[go_sem,MQ,SR,Pr.eY];refine bM (yw _ _) rfl rfl ?_;simp only[go_sem];exact aKG rfl ⟨rfl,rfl⟩
end
instance:uR Pr.bx:=⟨λ_=>rfl⟩
instance:Inhabited Pr.bx:=⟨⟨0,0⟩⟩
theorem MR {a b:Int}:gT a b<0↔a<b:=by
 unfold gT;split
 ·simp_all
 ·split<;>simp_all
theorem aza:SWO (ltOf λa b:Pr.bx=>gT a.R b.R):=by
 refine⟨λa=> ?_,λa b J=> ?_,λa b J=> ?_⟩
 ·simp only[ltOf,aLX,MR];omega
 ·simp only[ltOf,aKN,MR];omega
 ·simp only[ltOf,aLX,MR];omega
theorem azb (l:List Pr.bx)(hl:l.length<4611686018427387904):aO prog 72 [.own 0 l.length 0 l.length,.fn 73 []] [.ag 64 2 (ai l)]
 (λv rs=>v= .bo []/\ ∃cb:List Pr.bx,cb.Perm l/\cb.Pairwise (λx y=>x.R<=y.R)/\rs=[.ag 64 2 (ai cb)]):=by
 refine aO.Hg inferInstance ?_;refine @aO.mono (dE.aD inferInstance) _ _ _ _ _ _ (@aO.G5 (dE.aD inferInstance) trivial Pr.bx _ _ _ _ _ _ _ 64 ayY rfl isAgg64 sizeOf64 (λa b=>gT a.R b.R) aza (@ayZ (dE.aD inferInstance)) (enters_of func73 (by kernel_rfl) rfl) l hl) ?_;rintro v rs ⟨rfl,cb,d,G,rfl⟩;exact⟨rfl,cb,d,G.imp λ{x y} h=>by rw[MR] at h;omega,rfl⟩
end Go.Proofs.YtpincjkjoeopkaaGreatDoor
namespace Go.Proofs.YtpincjkjoeopkaaGreatDoor
open Go Go.Abs
def Iw (x y:Pr.bx):Bool:=decide (x.R<=y.R)
def Fe (tk w:List Pr.bx):List Pr.bx:=(tk++w).mergeSort Iw
theorem Se {aW:Int}:∀{l:List Pr.bx} {e:Int},(∀x∈l,e<=x.R/\x.R<x.ab/\x.ab<=aW)->l.Pairwise (λx y=>x.ab<=y.R)->Pr.dd e aW l=true
 | [],_,_,_=>rfl
 |b::z,e,h,ak=>by
  rw[aLD] at ak;rw[rI];exact⟨h b aLa,Se (λx aj=>⟨ak.1 x aj,(h x (aK1 _ aj)).2⟩) ak.2⟩
theorem Ix {aW:Int}:∀{l:List Pr.bx} {e:Int},Pr.dd e aW l=true->l.Pairwise (λx y=>x.ab<=y.R)
 | [],_,_=>List.Pairwise.nil
 |b::z,e,h=>by
  rw[rI] at h;exact aLD.2 ⟨λx aj=>(wG h.2 x aj).1,Ix h.2⟩
theorem abO {x y:Pr.bx}(h:nR x y):nR y x:=Or.symm h
theorem ayd {aW:Int}{tk w:List Pr.bx}(d:Pr.dd 0 aW tk=true)(G:Pr.dd 0 aW w=true)(ay:∀x∈w,∀V∈tk,nR x V): (tk++w).Pairwise nR:=
 aMo.2 ⟨(Ix d).imp λh=> .inl h,(Ix G).imp λh=> .inl h,λx aj y bt=>abO (ay y bt x aj)⟩
theorem SH {aW:Int}{l cb:List Pr.bx}(hl:∀x∈l,0<=x.R/\x.R<x.ab/\x.ab<=aW)(ay:l.Pairwise nR)(ak:cb.Perm l)(ao:cb.Pairwise λx y=>x.R<=y.R):Pr.dd 0 aW cb=true:=by
 have mS:cb.Pairwise nR:=(ak.pairwise_iff (λh=>abO h)).2 ay;have iJ:∀x∈cb,0<=x.R/\x.R<x.ab/\x.ab<=aW:=λx aj=>hl x (ak.mem_iff.1 aj);refine Se iJ ?_;refine (ao.and mS).imp_of_mem λ{x y} aj bt h=> ?_;have a:=iJ x aj;have b:=iJ y bt;unfold nR at h;omega
theorem aye {aW:Int}{l mN nv:List Pr.bx}(hl:∀x∈l,0<=x.R/\x.R<x.ab/\x.ab<=aW)(ay:l.Pairwise nR)(iK:mN.Perm l)(lo:mN.Pairwise λx y=>x.R<=y.R)(Ci:nv.Perm l)(vX:nv.Pairwise λx y=>x.R<=y.R):mN=nv:=by
 have aK6:=Ix (SH hl ay iK lo);have iT:=Ix (SH hl ay Ci vX);refine (iK.trans Ci.symm).eq_of_pairwise (λa b aC af au bv=> ?_) aK6 iT;have cH:=hl a (iK.mem_iff.1 aC);have aKU:=hl b (Ci.mem_iff.1 af);omega
theorem SI (tk w:List Pr.bx): (Fe tk w).Perm (tk++w):=aN7 _ _
theorem abP (tk w:List Pr.bx): (Fe tk w).Pairwise λx y=>x.R<=y.R:=by
 have:=aOz (le:=Iw) (λa b J d G=>by simp only[Iw,aKN] at *;omega) (λa b=>by simp only[Iw,aLP,aKN];omega) (tk++w);exact this.imp λh=>by simpa[Iw] using h
theorem ayf {aW:Int}{tk w:List Pr.bx}(d:Pr.dd 0 aW tk=true)(G:Pr.dd 0 aW w=true)(ay:∀x∈w,∀V∈tk,nR x V):Pr.dd 0 aW (Fe tk w)=true/\ ∀cb,cb.Perm (tk++w)->cb.Pairwise (λx y=>x.R<=y.R)->cb=Fe tk w:=by
 have hl:∀x∈tk++w,0<=x.R/\x.R<x.ab/\x.ab<=aW:=λx aj=>by
  rcases aK3.1 aj with aj|aj
  ·exact wG d x aj
  ·exact wG G x aj
 have ak:=ayd d G ay;exact⟨SH hl ak (SI _ _) (abP _ _),λcb aC af=>aye hl ak aC af (SI _ _) (abP _ _)⟩
end Go.Proofs.YtpincjkjoeopkaaGreatDoor
