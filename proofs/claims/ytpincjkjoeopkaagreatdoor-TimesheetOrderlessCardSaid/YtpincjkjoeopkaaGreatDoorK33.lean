/- Time evaluation. -/
import Derived.Test.YtpincjkjoeopkaaGreatDoorK30
import Derived.Test.YtpincjkjoeopkaaGreatDoorK19
import Derived.Test.YtpincjkjoeopkaaGreatDoorK32
import Derived.Test.YtpincjkjoeopkaaGreatDoorK27
import Derived.Test.YtpincjkjoeopkaaGreatDoorK23
import Derived.Test.YtpincjkjoeopkaaGreatDoorK16
set_option linter.unusedSimpArgs false
set_option linter.unusedVariables false
set_option linter.unusedSectionVars false
namespace Go.Proofs.YtpincjkjoeopkaaGreatDoor
open Go Go.Abs Go.Proofs.Tryz
structure er where
 D:bZ
 fm:Int
 ee:Int
 ek:Int
 dB:Pr.gz
 hI:Ib.hJ
 af:List Pm.dF
 ak:List Pm.cP
def er.F (i:er):List z:= [.int .i64 i.D.off,.pure 2 (ac i.D.cK),.int .i64 i.fm,.int .i64 i.ee,.int .i64 i.ek,.int .i64 i.dB.ez,.int .i64 i.dB.kU,.int .i64 i.dB.ll,.pure 2 (ac i.dB.ij),.str i.hI.dX,.pure 2 (ac i.hI.eC),.pure 2 (ac i.hI.gA),.pure 7 (ac i.af),.pure 6 (ac i.ak)]
theorem er.fU (i:er):bP i.F=true:=by simp only[er.F,bP,bE,cw,Bool.and_self]
theorem er.on (i:er):i.F.all Abs.cM=true:=by simp[er.F,Abs.cM]
def qJ (D:bZ)(Y:List cp)(o:eL):Pr.bs:=if h:0≤o.bK∧o.bK < Y.length then ⟨(fO D (Y[o.bK.toNat]'(by omega))).J,(fO D (Y[o.bK.toNat]'(by omega))).T⟩ else ⟨0,0⟩
theorem atz {D:bZ}{Y:List cp}(h:iN D Y=0)(o:eL):Pr.GD (qJ D Y o):=by
 unfold qJ;split
 ·have:=PQ (PS h _ (List.getElem_mem (l:=Y) (n:=o.bK.toNat) (by omega)))
  right
  unfold Pr.hz;simp only[decide_eq_true_eq];omega
 ·left;exact⟨rfl,rfl⟩
theorem X8 {i:Pr.gz}{Y:Pr.bs}: ∀ {O:List Pr.dx} {last:Int},(Pr.kg i Y last O).length≤O.length
 | [],_=>by simp[Pr.kg]
 |p::t,last=>by
  unfold Pr.kg;have h1:=X8 (i:=i) (Y:=Y) (O:=t) (last:=max last (Pr.lJ i Y last p).T);split<;>simp only[List.length_cons]<;>omega
theorem atA (i:Pr.gz)(G:Pr.lK i=0)(Y:Pr.bs)(gm:Pr.GD Y)(bK ab:Int)(O:List Pr.dx)(jO:Pr.kV O=0):aK prog 156 [.agg (aG.F i),.agg (aG.F Y),.agg [.int .i64 bK,.int .i64 ab,.pure 3 (ac O)]] []
 (fun v rs=>v= .bg [if Pr.pV i Y O=0 then .agg [.int .i64 ab,.pure 2 (ac (Pr.oh i Y O))] else .agg [.int .i64 0,.bD],.int .i64 (Pr.pV i Y O)]∧rs= []):=by
 have GE:Pr.pV i Y O=if 100000 < Pr.cR (Pr.kg i Y 0 O) then 3 else 0:=by
  unfold Pr.pV;rw[if_neg (by omega),if_neg (fun h=>by rcases gm with B|B;exact h.1 B;rw[B] at h;exact absurd h.2 (by decide)),if_neg (by omega)]
 by_cases hv:Pr.cR (Pr.kg i Y 0 O)≤100000
 ·rw[if_neg (by omega)] at GE;rw[GE,if_pos rfl];exact Pr.atB i Y bK ab O GE
 rw[if_pos (by omega)] at GE;rw[GE,if_neg (by decide)];obtain⟨xg,kB,pd⟩:=Pr.KC G;have sJ:=Pr.KD jO;have gV:=Pr.KE sJ (by omega);have cB:O.length≤1024:=by unfold Pr.kV at jO;split at jO<;>omega
 refine cr func156 Qd (by simp[DN,GF]) ?_;simp only[go_sem,DN,GF,Pr.yR,Pr.eM];refine bH (Pr.Qe i) rfl rfl ?_;rw[G];simp only[go_sem];have hA:=Pr.X9 i xg Y gm O sJ cB;have oG:=Pr.GG (i:=i) (Y:=Y) (O:=O) (last:=0);have DO:=Pr.Qf oG (by omega);have KF: (Pr.kg i Y 0 O).length≤O.length:=X8;have Ya:=Pr.KG _ DO (by omega);generalize Pr.kg i Y 0 O=bq at *;have aq:decide (100000 < Pr.cR bq)=true:=decide_eq_true (by omega)
 by_cases aS:Y.J=0∧Y.T=0
 ·have Z: (!(Y.J==0&&Y.T==0))=false:=by simp[aS.1,aS.2]
  simp only[go_sem,Z];refine bH (Pr.mY O (by omega)) rfl rfl ?_;rw[jO];simp only[go_sem];refine bH hA rfl rfl ?_;simp only[go_sem];refine bH Ya rfl rfl ?_;simp only[go_sem,aq];exact s.bb rfl ⟨rfl,rfl⟩
 ·have Z: (!(Y.J==0&&Y.T==0))=true:=by simp;omega
  have pW:Pr.hz ⟨Y.J,Y.T⟩ 0 120968640=true:=by rcases gm with B|B;exact absurd B aS;exact B
  simp only[go_sem,Z];refine bH (Pr.Yb Y.J Y.T) rfl rfl ?_;rw[pW];simp only[go_sem];refine bH (Pr.mY O (by omega)) rfl rfl ?_;rw[jO];simp only[go_sem];refine bH hA rfl rfl ?_;simp only[go_sem];refine bH Ya rfl rfl ?_;simp only[go_sem,aq];exact s.bb rfl ⟨rfl,rfl⟩
theorem atC (i:er)(G:Pr.lK i.dB=0)(Y:List cp)(gm:iN i.D Y=0)(o:eL)(aq:o.bK < Y.length)(jO:Pr.kV o.O=0):aK prog 70 [.agg i.F,.pure 3 (ac Y),.agg (aG.F o)] []
 (fun v rs=>v= .bg [if Pr.pV i.dB (qJ i.D Y o) o.O=0 then .agg [.int .i64 o.ab,.pure 2 (ac (Pr.oh i.dB (qJ i.D Y o) o.O))] else .agg [.int .i64 0,.bD],.int .i64 (Pr.pV i.dB (qJ i.D Y o) o.O)]∧rs= []):=by
 have hA:=atA i.dB G (qJ i.D Y o) (atz gm o) o.bK o.ab o.O jO;have atD:=Xx gm;refine hr func70 Yc (by simp[a70,Qg]) ?_;unfold er.F;simp only[go_sem,a70,Qg,Qh]
 (repeat (first| (refine s.U ?_;simp only[go_sem,bO])|simp only[go_sem,bO]))
 simp only[Pr.yR,Pr.eM] at hA
 by_cases h0:0≤o.bK
 ·have q1:decide (0≤o.bK)=true:=decide_eq_true h0;have eF:decide (o.bK < Y.length)=true:=decide_eq_true aq;have gs: (ac Y).getD o.bK.toNat []=aG.F (Y[o.bK.toNat]'(by omega)):=cQ (by omega);have e:qJ i.D Y o=⟨(fO i.D (Y[o.bK.toNat]'(by omega))).J,(fO i.D (Y[o.bK.toNat]'(by omega))).T⟩:=by unfold qJ;rw[dif_pos ⟨h0,aq⟩]
  have cY:=PS gm _ (List.getElem_mem (l:=Y) (n:=o.bK.toNat) (by omega));have de:=Xs i.D (Y[o.bK.toNat]'(by omega));rw[cY] at de;rw[e] at hA ⊢;generalize (Y[o.bK.toNat]'(by omega))=E at *;unfold bZ.v at de;simp only[tZ,yJ] at de;generalize fO i.D E=ba at *
  (repeat (first| (refine s.U ?_;simp only[go_sem,bO,q1,eF,h0,aq,gs,tZ])|simp only[go_sem,bO,q1,eF,h0,aq,gs,tZ]))
  refine jd de (by simp only[bP,bE,cw,Bool.and_self,Bool.and_true]) rfl ?_
  (repeat (first| (refine s.U ?_;simp only[go_sem])|simp only[go_sem]))
  by_cases aS:Pr.pV i.dB ⟨ba.J,ba.T⟩ o.O=0
  ·rw[aS,if_pos rfl] at hA;rw[aS,if_pos rfl];refine bH hA (by simp only[bP,bE,cw,Bool.and_self,Bool.and_true]) (by simp only[bP,bE,cw,Bool.and_self,Bool.and_true]) ?_
   (repeat (first| (refine s.U ?_;simp only[go_sem,cw])|simp only[go_sem,cw]))
   exact s.bb rfl ⟨rfl,rfl⟩
  ·rw[if_neg aS] at hA;rw[if_neg aS];refine bH hA (by simp only[bP,bE,cw,Bool.and_self,Bool.and_true]) rfl ?_
   (repeat (first| (refine s.U ?_;simp only[go_sem,cw])|simp only[go_sem,cw]))
   exact s.bb rfl ⟨rfl,rfl⟩
 ·have q1:decide (0≤o.bK)=false:=decide_eq_false h0;have e:qJ i.D Y o=⟨0,0⟩:=by unfold qJ;rw[dif_neg (fun h=>h0 h.1)]
  rw[e] at hA ⊢
  (repeat (first| (refine s.U ?_;simp only[go_sem,bO,q1])|simp only[go_sem,bO,q1]))
  by_cases aS:Pr.pV i.dB ⟨0,0⟩ o.O=0
  ·rw[aS,if_pos rfl] at hA;rw[aS,if_pos rfl];refine bH hA (by simp only[bP,bE,cw,Bool.and_self,Bool.and_true]) (by simp only[bP,bE,cw,Bool.and_self,Bool.and_true]) ?_
   (repeat (first| (refine s.U ?_;simp only[go_sem,cw])|simp only[go_sem,cw]))
   exact s.bb rfl ⟨rfl,rfl⟩
  ·rw[if_neg aS] at hA;rw[if_neg aS];refine bH hA (by simp only[bP,bE,cw,Bool.and_self,Bool.and_true]) rfl ?_
   (repeat (first| (refine s.U ?_;simp only[go_sem,cw])|simp only[go_sem,cw]))
   exact s.bb rfl ⟨rfl,rfl⟩
def nH (f:Int):List Pr.bs→List Pr.bs
 | []=> []
 |L::os=>if L.T≤f then nH f os else L::os
def hB (t:Int):Int→List Pr.bs→List Pr.bs→List Pr.bs×Int
 |f,[],acc=>(acc,f)
 |f,L::os,acc=>if L.J < t then hB t (max f L.T) os (if f < L.J then acc++ [⟨f,L.J⟩] else acc) else (acc,f)
def zn (E:Pr.bs)(b acc:List Pr.bs):List Pr.bs:=if (hB E.T E.J (nH E.J b) acc).2 < E.T then (hB E.T E.J (nH E.J b) acc).1++ [⟨(hB E.T E.J (nH E.J b) acc).2,E.T⟩] else (hB E.T E.J (nH E.J b) acc).1
def ox:List Pr.bs→List Pr.bs→List Pr.bs→List Pr.bs
 | [],_,acc=>acc
 |E::a,b,acc=>ox a (nH E.J b) (zn E b acc)
theorem axD {f:Int}{b:List Pr.bs}{c:Nat}(h:c < b.length):nH f (b.drop c)=if b[c].T≤f then nH f (b.drop (c+1)) else b.drop c:=by
 rw[List.drop_eq_getElem_cons h,nH]
theorem aaO {t f:Int}{b acc:List Pr.bs}{c:Nat}(h:c < b.length):hB t f (b.drop c) acc=if b[c].J < t then hB t (max f b[c].T) (b.drop (c+1)) (if f < b[c].J then acc++ [⟨f,b[c].J⟩] else acc) else (acc,f):=by
 rw[List.drop_eq_getElem_cons h,hB]
theorem axE {a b acc:List Pr.bs}{c:Nat}(h:c < a.length):ox (a.drop c) b acc=ox (a.drop (c+1)) (nH a[c].J b) (zn a[c] b acc):=by
 rw[List.drop_eq_getElem_cons h,ox]
theorem LK {t:Int}: ∀ {b acc:List Pr.bs} {f:Int},acc.length≤(hB t f b acc).1.length
 | [],acc,f=>Nat.le_refl _
 |L::os,acc,f=>by
  unfold hB;split
  ·refine Nat.le_trans ?_ LK;split
   ·rw[List.length_append];omega
   ·exact Nat.le_refl _
  ·exact Nat.le_refl _
theorem RL: ∀ {a b acc:List Pr.bs},acc.length≤(ox a b acc).length
 | [],b,acc=>Nat.le_refl _
 |E::a,b,acc=>by
  unfold ox;refine Nat.le_trans ?_ RL;unfold zn;have:=LK (t:=E.T) (f:=E.J) (b:=nH E.J b) (acc:=acc);split
  ·rw[List.length_append];omega
  ·exact this
set_option maxHeartbeats 4000000 in
theorem axF (a b:List Pr.bs)(aw:a.length≤1000000000)(Z:b.length≤1000000000)(fu: (ox a b []).length≤1000000000):aK prog 71 [.pure 2 (ac a),.own 0 b.length 0 b.length] [.aa 64 2 (ac b)]
 (fun v rs=>v= .pure 2 (ac (ox a b []))∧rs= [.aa 64 2 (ac b)]):=by
 refine hr func71 aaP (by simp[lM,mA]) ?_;simp only[go_sem,lM,mA]
 (repeat (first| (refine s.U ?_;simp only[go_sem,bO])|simp only[go_sem,bO]))
 refine gY (fun r d=> ∃ (c wz:Nat) (acc:List Pr.bs),c≤a.length∧wz≤b.length∧ox a b []=ox (a.drop c) (b.drop wz) acc∧r= [(1,.own 0 b.length 0 b.length),(5,.own 1 acc.length 0 acc.length),(6,.int .i64 wz),(11,.pure 2 (ac a)),(12,.int .i64 a.length),(13,.int .i64 c)]∧d= [.aa 64 2 (ac b),.aa 64 2 (ac acc)])
  (fun r _=>match bn r 13 with| .int _ j=>(a.length-j).toNat|_=>0) ?_ ?_
 ·(refine s.iI 5 64 2 rfl (s.eW [1,5,6,11,12,13] ?_);simp only[go_sem])
  exact s.U ⟨0,0,[],by omega,by omega,rfl,rfl,rfl⟩
 rintro r d ⟨c,wz,acc,an,dQ,de,rfl,rfl⟩;have aR:=dr (c:=c) (by omega)
 by_cases aC:c < a.length
 rotate_left
 ·have h1:decide ((c:Int) < a.length)=false:=decide_eq_false (by omega);obtain rfl:c=a.length:=by omega
  rw[List.drop_length,ox] at de;simp only[go_sem,lM,mA]
  (repeat (first| (refine s.U ?_;simp only[go_sem,h1])|simp only[go_sem,h1]))
  have mZ:bU [.aa 64 2 (ac b),.aa 64 2 (ac acc)] [some 0] [1] (.own 1 acc.length 0 acc.length)= .pure 2 (ac acc):=pO rfl rfl rfl (by rw[bO]) cw;refine s.kc [some 0] [1] rfl rfl (by simp only[go_sem]<;>rfl) ?_;simp only[List.map_cons,List.map_nil,mZ];exact s.U ⟨by rw[de]<;>rfl,rfl⟩
 have h1:decide ((c:Int) < a.length)=true:=decide_eq_true (by omega);have sO: (0:Int)≤c:=by omega
 have sP: (c:Int) < a.length:=by omega
 have na: (ac a).getD c []=aG.F a[c]:=cQ aC;rw[axE aC] at de;generalize a[c]=E at *;simp only[go_sem,lM,mA]
 (repeat (first| (refine s.U ?_;simp only[go_sem,h1,sO,sP,na,bO,Pr.eM])|simp only[go_sem,h1,sO,sP,na,bO,Pr.eM]))
 refine gY (fun r d=> ∃ ec:Nat,ec≤b.length∧nH E.J (b.drop wz)=nH E.J (b.drop ec)∧r= [(1,.own 0 b.length 0 b.length),(5,.own 1 acc.length 0 acc.length),(6,.int .i64 ec),(8,.aW 2 1 0 0),(9,.int .i64 E.J),(11,.pure 2 (ac a)),(12,.int .i64 a.length),(13,.int .i64 c)]∧d= [.aa 64 2 (ac b),.aa 64 2 (ac acc),.aa 64 2 [[.int .i64 E.J,.int .i64 E.T]]])
  (fun r _=>match bn r 6 with| .int _ j=>(b.length-j).toNat|_=>0) ?_ ?_
 ·exact s.U ⟨wz,dQ,rfl,rfl,rfl⟩
 rintro r d ⟨ec,zo,cs,rfl,rfl⟩;have gg:=dr (c:=ec) (by omega)
 by_cases kO:ec < b.length
 ·have q1:decide ((ec:Int) < b.length)=true:=decide_eq_true (by omega);have AM: (0:Int)≤ec:=by omega
  have LL: (ec:Int) < b.length:=by omega
  have LM: (ac b).getD ec []=aG.F b[ec]:=cQ kO;rw[axD kO] at cs
  by_cases ed:b[ec].T≤E.J
  ·rw[if_pos ed] at cs;have eF:decide (b[ec].T≤E.J)=true:=decide_eq_true ed;simp only[go_sem,lM,mA]
   (repeat (first| (refine s.U ?_;simp only[go_sem,bO,q1,eF,AM,LL,LM,Pr.eM,gg])|simp only[go_sem,bO,q1,eF,AM,LL,LM,Pr.eM,gg]))
   exact⟨⟨ec+1,by omega,cs,rfl⟩,by omega⟩
  ·rw[if_neg ed] at cs;have eF:decide (b[ec].T≤E.J)=false:=decide_eq_false ed;simp only[go_sem,lM,mA]
   (repeat (first| (refine s.U ?_;simp only[go_sem,bO,q1,eF,AM,LL,LM,Pr.eM,gg])|simp only[go_sem,bO,q1,eF,AM,LL,LM,Pr.eM,gg]))
   unfold zn at de;rw[cs] at de;have hG:=RL (a:=a.drop (c+1)) (b:=b.drop ec) (acc:=if (hB E.T E.J (b.drop ec) acc).2 < E.T then (hB E.T E.J (b.drop ec) acc).1++ [⟨(hB E.T E.J (b.drop ec) acc).2,E.T⟩] else (hB E.T E.J (b.drop ec) acc).1);rw[←de] at hG;have RM: (hB E.T E.J (b.drop ec) acc).1.length≤1000000000:=by
    split at hG
    ·rw[List.length_append] at hG;omega
    ·omega
   refine gY (fun r d=> ∃ (ge:Nat) (f:Int) (dq:List Pr.bs),ec≤ge∧ge≤b.length∧hB E.T E.J (b.drop ec) acc=hB E.T f (b.drop ge) dq∧r= [(1,.own 0 b.length 0 b.length),(5,.own 1 dq.length 0 dq.length),(6,.int .i64 ec),(8,.aW 2 1 0 0),(9,.int .i64 f),(10,.int .i64 ge),(11,.pure 2 (ac a)),(12,.int .i64 a.length),(13,.int .i64 c)]∧d= [.aa 64 2 (ac b),.aa 64 2 (ac dq),.aa 64 2 [[.int .i64 E.J,.int .i64 E.T]]])
    (fun r _=>match bn r 10 with| .int _ j=>(b.length-j).toNat|_=>0) ?_ ?_
   ·exact s.U ⟨ec,E.J,acc,by omega,by omega,rfl,rfl,rfl⟩
   rintro r d ⟨ge,f,dq,Lp,axG,hE,rfl,rfl⟩;have sx:dq.length≤1000000000:=by
    have g1:=LK (t:=E.T) (f:=f) (b:=b.drop ge) (acc:=dq);rw[←hE] at g1;omega
   have hS:=dr (c:=ge) (by omega)
   by_cases rz:ge < b.length
   ·have ev:decide ((ge:Int) < b.length)=true:=decide_eq_true (by omega);have lN: (0:Int)≤ge:=by omega
    have lO: (ge:Int) < b.length:=by omega
    have lP: (ac b).getD ge []=aG.F b[ge]:=cQ rz;rw[aaO rz] at hE;generalize b[ge]=L at *
    by_cases mK:L.J < E.T
    ·rw[if_pos mK] at hE;have iE:decide (L.J < E.T)=true:=decide_eq_true mK
     by_cases ir:f < L.J
     ·have pn:decide (f < L.J)=true:=decide_eq_true ir;rw[if_pos ir] at hE;simp only[go_sem,lM,mA]
      (repeat (first| (refine s.U ?_;simp only[go_sem,bO,ev,iE,pn,lN,lO,lP,Pr.eM,hS])|simp only[go_sem,bO,ev,iE,pn,lN,lO,lP,Pr.eM,hS]))
      refine⟨by omega,?_⟩
      (refine s.bw [some 0,some 1,some 2] ?_;simp only[go_sem])
      (repeat (first| (refine s.U ?_;simp only[go_sem,bO,ev,iE,pn,lN,lO,lP,Pr.eM,hS])|simp only[go_sem,bO,ev,iE,pn,lN,lO,lP,Pr.eM,hS]))
      exact⟨⟨ge+1,max f L.T,dq++ [⟨f,L.J⟩],by omega,by omega,hE,by rw[List.length_append];rfl,rfl⟩,by omega⟩
     ·have pn:decide (f < L.J)=false:=decide_eq_false ir;rw[if_neg ir] at hE;simp only[go_sem,lM,mA]
      (repeat (first| (refine s.U ?_;simp only[go_sem,bO,ev,iE,pn,lN,lO,lP,Pr.eM,hS])|simp only[go_sem,bO,ev,iE,pn,lN,lO,lP,Pr.eM,hS]))
      exact⟨⟨ge+1,max f L.T,dq,by omega,by omega,hE,rfl,rfl⟩,by omega⟩
    ·rw[if_neg mK] at hE;have iE:decide (L.J < E.T)=false:=decide_eq_false mK
     by_cases nj:f < E.T
     ·have jT:decide (f < E.T)=true:=decide_eq_true nj;rw[hE] at de;simp only[nj,if_true] at de;simp only[go_sem,lM,mA]
      (repeat (first| (refine s.U ?_;simp only[go_sem,bO,ev,iE,lN,lO,lP,jT,Pr.eM,aR])|simp only[go_sem,bO,ev,iE,lN,lO,lP,jT,Pr.eM,aR]))
      refine⟨by omega,?_⟩
      (refine s.bw [some 0,some 1] ?_;simp only[go_sem])
      (repeat (first| (refine s.U ?_;simp only[go_sem,aR])|simp only[go_sem,aR]))
      exact⟨⟨c+1,ec,dq++ [⟨f,E.T⟩],by omega,by omega,de,by rw[List.length_append];rfl,rfl⟩,by omega⟩
     ·have jT:decide (f < E.T)=false:=decide_eq_false nj;rw[hE] at de;simp only[nj,if_false] at de;simp only[go_sem,lM,mA]
      (repeat (first| (refine s.U ?_;show ey _ _ _ _ _ _;simp only[go_sem,bO,ev,iE,lN,lO,lP,jT,Pr.eM,aR])|simp only[go_sem,bO,ev,iE,lN,lO,lP,jT,Pr.eM,aR]))
      (refine s.bw [some 0,some 1] ?_;simp only[go_sem])
      refine s.U ⟨⟨c+1,ec,dq,by omega,by omega,de,rfl,rfl⟩,?_⟩;simp only[go_sem];omega
   ·have ev:decide ((ge:Int) < b.length)=false:=decide_eq_false (by omega);have xV:ge=b.length:=by omega
    rw[xV,List.drop_length,hB] at hE
    by_cases nj:f < E.T
    ·have jT:decide (f < E.T)=true:=decide_eq_true nj;rw[hE] at de;simp only[nj,if_true] at de;simp only[go_sem,lM,mA]
     (repeat (first| (refine s.U ?_;simp only[go_sem,bO,ev,jT,Pr.eM,aR])|simp only[go_sem,bO,ev,jT,Pr.eM,aR]))
     refine⟨by omega,?_⟩
     (refine s.bw [some 0,some 1] ?_;simp only[go_sem])
     (repeat (first| (refine s.U ?_;simp only[go_sem,aR])|simp only[go_sem,aR]))
     exact⟨⟨c+1,ec,dq++ [⟨f,E.T⟩],by omega,by omega,de,by rw[List.length_append];rfl,rfl⟩,by omega⟩
    ·have jT:decide (f < E.T)=false:=decide_eq_false nj;rw[hE] at de;simp only[nj,if_false] at de;simp only[go_sem,lM,mA]
     (repeat (first| (refine s.U ?_;show ey _ _ _ _ _ _;simp only[go_sem,bO,ev,jT,Pr.eM,aR])|simp only[go_sem,bO,ev,jT,Pr.eM,aR]))
     (refine s.bw [some 0,some 1] ?_;simp only[go_sem])
     refine s.U ⟨⟨c+1,ec,dq,by omega,by omega,de,rfl,rfl⟩,?_⟩;simp only[go_sem];omega
 ·have q1:decide ((ec:Int) < b.length)=false:=decide_eq_false (by omega);have hne:ec=b.length:=by omega
  have Dz:nH E.J (b.drop ec)=b.drop ec:=by rw[hne,List.drop_length];rfl
  ·rw[Dz] at cs;simp only[go_sem,lM,mA]
   (repeat (first| (refine s.U ?_;simp only[go_sem,bO,q1])|simp only[go_sem,bO,q1]))
   unfold zn at de;rw[cs] at de;have hG:=RL (a:=a.drop (c+1)) (b:=b.drop ec) (acc:=if (hB E.T E.J (b.drop ec) acc).2 < E.T then (hB E.T E.J (b.drop ec) acc).1++ [⟨(hB E.T E.J (b.drop ec) acc).2,E.T⟩] else (hB E.T E.J (b.drop ec) acc).1);rw[←de] at hG;have RM: (hB E.T E.J (b.drop ec) acc).1.length≤1000000000:=by
    split at hG
    ·rw[List.length_append] at hG;omega
    ·omega
   refine gY (fun r d=> ∃ (ge:Nat) (f:Int) (dq:List Pr.bs),ec≤ge∧ge≤b.length∧hB E.T E.J (b.drop ec) acc=hB E.T f (b.drop ge) dq∧r= [(1,.own 0 b.length 0 b.length),(5,.own 1 dq.length 0 dq.length),(6,.int .i64 ec),(8,.aW 2 1 0 0),(9,.int .i64 f),(10,.int .i64 ge),(11,.pure 2 (ac a)),(12,.int .i64 a.length),(13,.int .i64 c)]∧d= [.aa 64 2 (ac b),.aa 64 2 (ac dq),.aa 64 2 [[.int .i64 E.J,.int .i64 E.T]]])
    (fun r _=>match bn r 10 with| .int _ j=>(b.length-j).toNat|_=>0) ?_ ?_
   ·exact s.U ⟨ec,E.J,acc,by omega,by omega,rfl,rfl,rfl⟩
   rintro r d ⟨ge,f,dq,Lp,axG,hE,rfl,rfl⟩;have sx:dq.length≤1000000000:=by
    have g1:=LK (t:=E.T) (f:=f) (b:=b.drop ge) (acc:=dq);rw[←hE] at g1;omega
   have hS:=dr (c:=ge) (by omega)
   by_cases rz:ge < b.length
   ·have ev:decide ((ge:Int) < b.length)=true:=decide_eq_true (by omega);have lN: (0:Int)≤ge:=by omega
    have lO: (ge:Int) < b.length:=by omega
    have lP: (ac b).getD ge []=aG.F b[ge]:=cQ rz;rw[aaO rz] at hE;generalize b[ge]=L at *
    by_cases mK:L.J < E.T
    ·rw[if_pos mK] at hE;have iE:decide (L.J < E.T)=true:=decide_eq_true mK
     by_cases ir:f < L.J
     ·have pn:decide (f < L.J)=true:=decide_eq_true ir;rw[if_pos ir] at hE;simp only[go_sem,lM,mA]
      (repeat (first| (refine s.U ?_;simp only[go_sem,bO,ev,iE,pn,lN,lO,lP,Pr.eM,hS])|simp only[go_sem,bO,ev,iE,pn,lN,lO,lP,Pr.eM,hS]))
      refine⟨by omega,?_⟩
      (refine s.bw [some 0,some 1,some 2] ?_;simp only[go_sem])
      (repeat (first| (refine s.U ?_;simp only[go_sem,bO,ev,iE,pn,lN,lO,lP,Pr.eM,hS])|simp only[go_sem,bO,ev,iE,pn,lN,lO,lP,Pr.eM,hS]))
      exact⟨⟨ge+1,max f L.T,dq++ [⟨f,L.J⟩],by omega,by omega,hE,by rw[List.length_append];rfl,rfl⟩,by omega⟩
     ·have pn:decide (f < L.J)=false:=decide_eq_false ir;rw[if_neg ir] at hE;simp only[go_sem,lM,mA]
      (repeat (first| (refine s.U ?_;simp only[go_sem,bO,ev,iE,pn,lN,lO,lP,Pr.eM,hS])|simp only[go_sem,bO,ev,iE,pn,lN,lO,lP,Pr.eM,hS]))
      exact⟨⟨ge+1,max f L.T,dq,by omega,by omega,hE,rfl,rfl⟩,by omega⟩
    ·rw[if_neg mK] at hE;have iE:decide (L.J < E.T)=false:=decide_eq_false mK
     by_cases nj:f < E.T
     ·have jT:decide (f < E.T)=true:=decide_eq_true nj;rw[hE] at de;simp only[nj,if_true] at de;simp only[go_sem,lM,mA]
      (repeat (first| (refine s.U ?_;simp only[go_sem,bO,ev,iE,lN,lO,lP,jT,Pr.eM,aR])|simp only[go_sem,bO,ev,iE,lN,lO,lP,jT,Pr.eM,aR]))
      refine⟨by omega,?_⟩
      (refine s.bw [some 0,some 1] ?_;simp only[go_sem])
      (repeat (first| (refine s.U ?_;simp only[go_sem,aR])|simp only[go_sem,aR]))
      exact⟨⟨c+1,ec,dq++ [⟨f,E.T⟩],by omega,by omega,de,by rw[List.length_append];rfl,rfl⟩,by omega⟩
     ·have jT:decide (f < E.T)=false:=decide_eq_false nj;rw[hE] at de;simp only[nj,if_false] at de;simp only[go_sem,lM,mA]
      (repeat (first| (refine s.U ?_;show ey _ _ _ _ _ _;simp only[go_sem,bO,ev,iE,lN,lO,lP,jT,Pr.eM,aR])|simp only[go_sem,bO,ev,iE,lN,lO,lP,jT,Pr.eM,aR]))
      (refine s.bw [some 0,some 1] ?_;simp only[go_sem])
      refine s.U ⟨⟨c+1,ec,dq,by omega,by omega,de,rfl,rfl⟩,?_⟩;simp only[go_sem];omega
   ·have ev:decide ((ge:Int) < b.length)=false:=decide_eq_false (by omega);have xV:ge=b.length:=by omega
    rw[xV,List.drop_length,hB] at hE
    by_cases nj:f < E.T
    ·have jT:decide (f < E.T)=true:=decide_eq_true nj;rw[hE] at de;simp only[nj,if_true] at de;simp only[go_sem,lM,mA]
     (repeat (first| (refine s.U ?_;simp only[go_sem,bO,ev,jT,Pr.eM,aR])|simp only[go_sem,bO,ev,jT,Pr.eM,aR]))
     refine⟨by omega,?_⟩
     (refine s.bw [some 0,some 1] ?_;simp only[go_sem])
     (repeat (first| (refine s.U ?_;simp only[go_sem,aR])|simp only[go_sem,aR]))
     exact⟨⟨c+1,ec,dq++ [⟨f,E.T⟩],by omega,by omega,de,by rw[List.length_append];rfl,rfl⟩,by omega⟩
    ·have jT:decide (f < E.T)=false:=decide_eq_false nj;rw[hE] at de;simp only[nj,if_false] at de;simp only[go_sem,lM,mA]
     (repeat (first| (refine s.U ?_;show ey _ _ _ _ _ _;simp only[go_sem,bO,ev,jT,Pr.eM,aR])|simp only[go_sem,bO,ev,jT,Pr.eM,aR]))
     (refine s.bw [some 0,some 1] ?_;simp only[go_sem])
     refine s.U ⟨⟨c+1,ec,dq,by omega,by omega,de,rfl,rfl⟩,?_⟩;simp only[go_sem];omega
def ni (x y:Pr.bs):Prop:=x.T≤y.J∨y.T≤x.J
theorem qS {e t:Int}{b:Pr.bs}{i:List Pr.bs}:Pr.cV e t (b::i)=true↔(e≤b.J∧b.J < b.T∧b.T≤t)∧Pr.cV b.T t i=true:=by
 rw[Pr.cV,Bool.and_eq_true,Pr.hz,decide_eq_true_eq]
theorem vA {t:Int}: ∀ {l:List Pr.bs} {e:Int},Pr.cV e t l=true→ ∀ x∈l,e≤x.J∧x.J < x.T∧x.T≤t
 | [],_,_,x,ad=>by cases ad
 |b::i,e,h,x,ad=>by
  rw[qS] at h;rcases List.mem_cons.1 ad with rfl|ad
  ·exact h.1
  ·have:=vA h.2 x ad;omega
theorem RG {t:Int}: ∀ {l:List Pr.bs} {e:Int},Pr.cV e t l=true→e≤t→e+l.length≤t
 | [],e,_,h=>by simpa using h
 |b::i,e,h,he=>by
  rw[qS] at h;have:=RG h.2 (by omega);rw[List.length_cons];omega
theorem xu {t:Int}: ∀ {l m:List Pr.bs} {e g:Int},Pr.cV e t l=true→(∀ x∈l,x.T≤g)→e≤g→Pr.cV g t m=true→Pr.cV e t (l++m)=true
 | [],m,e,g,_,_,he,h=>by
  cases m with
  |nil=>rfl
  |cons b i=>rw[qS] at h;rw[List.nil_append,qS];exact⟨⟨by omega,h.1.2⟩,h.2⟩
 |b::i,m,e,g,h,hl,he,hm=>by
  rw[qS] at h;rw[List.cons_append,qS];exact⟨h.1,xu h.2 (fun x ad=>hl x (List.mem_cons_of_mem _ ad)) (hl b List.mem_cons_self) hm⟩
theorem aaJ {e t sG:Int}(ht:t≤sG): ∀ {l:List Pr.bs} {e:Int},Pr.cV e t l=true→Pr.cV e sG l=true
 | [],_,_=>rfl
 |b::i,e,h=>by
  rw[qS] at h ⊢;exact⟨⟨h.1.1,h.1.2.1,by omega⟩,aaJ (e:=e) ht h.2⟩
theorem aaK {t aP:Int}: ∀ {b:List Pr.bs} {f e:Int} {acc:List Pr.bs},Pr.cV e aP b=true→
 ∃ az,(hB t f b acc).1=acc++az∧Pr.cV f t az=true∧f≤(hB t f b acc).2∧(∀ x∈az,x.T≤(hB t f b acc).2∧ ∀ L∈b,ni x L)∧ ∀ L∈b,L.T≤(hB t f b acc).2∨t≤L.J
 | [],f,e,acc,_=>⟨[],by simp[hB],rfl,Int.le_refl _,by simp,by simp⟩
 |L::os,f,e,acc,h=>by
  rw[qS] at h;unfold hB
  by_cases bi:L.J < t
  ·rw[if_pos bi];obtain⟨az,h1,B,am,bp,cn⟩:=aaK (t:=t) (f:=max f L.T) (acc:=if f < L.J then acc++ [⟨f,L.J⟩] else acc) h.2;generalize hB t (max f L.T) os (if f < L.J then acc++ [⟨f,L.J⟩] else acc)=p at *;have axo:=vA h.2;have mX:=vA B;have hi: ∀ x∈az,x.T≤p.2∧ ∀ q∈L::os,ni x q:=fun x ad=>⟨(bp x ad).1,fun q aQ=>by
    rcases List.mem_cons.1 aQ with rfl|aQ
    ·have:=mX x ad;unfold ni;omega
    ·exact (bp x ad).2 q aQ⟩
   have jr: ∀ q∈L::os,q.T≤p.2∨t≤q.J:=fun q aQ=>by
    rcases List.mem_cons.1 aQ with rfl|aQ
    ·left;omega
    ·exact cn q aQ
   by_cases hf:f < L.J
   ·rw[if_pos hf] at h1;refine⟨⟨f,L.J⟩::az,by rw[h1,List.append_assoc];rfl,?_,by omega,fun x ad=> ?_,jr⟩
    ·rw[qS];refine⟨⟨Int.le_refl _,hf,by show L.J≤t;omega⟩,?_⟩;exact xu (l:= []) (g:=max f L.T) rfl (by simp) (by show L.J≤max f L.T;omega) B
    ·rcases List.mem_cons.1 ad with rfl|ad
     ·refine⟨by show L.J≤p.2;omega,fun q aQ=> ?_⟩;unfold ni;rcases List.mem_cons.1 aQ with rfl|aQ
      ·left;exact Int.le_refl _
      ·have:=axo q aQ
       left;simp only;omega
     ·exact hi x ad
   ·rw[if_neg hf] at h1;refine⟨az,h1,xu (l:= []) (g:=max f L.T) rfl (by simp) (by omega) B,by omega,hi,jr⟩
  ·rw[if_neg bi];refine⟨[],by simp,rfl,Int.le_refl _,by simp,fun q aQ=> ?_⟩
   right
   rcases List.mem_cons.1 aQ with rfl|aQ
   ·omega
   ·have:=vA h.2 q aQ;omega
theorem RH {aP f:Int}: ∀ {b:List Pr.bs} {e:Int},Pr.cV e aP b=true→(∃ cA,Pr.cV cA aP (nH f b)=true)∧ ∀ L∈b,L∈nH f b∨L.T≤f
 | [],_,_=>⟨⟨0,rfl⟩,by simp⟩
 |L::os,e,h=>by
  have cJ:=h;rw[qS] at h;unfold nH;split
  ·obtain⟨h1,B⟩:=RH (f:=f) h.2;refine⟨h1,fun q aQ=> ?_⟩;rcases List.mem_cons.1 aQ with rfl|aQ
   ·right;assumption
   ·exact B q aQ
  ·exact⟨⟨e,cJ⟩,fun q aQ=> .inl aQ⟩
theorem axp {aP e:Int}{E:Pr.bs}(ak:E.J < E.T){b acc:List Pr.bs}(Z:Pr.cV e aP b=true):
 ∃ az,zn E b acc=acc++az∧Pr.cV E.J E.T az=true∧ ∀ x∈az,∀ L∈b,ni x L:=by
 obtain⟨⟨cA,he⟩,I⟩:=RH (f:=E.J) Z;obtain⟨az,h1,B,am,bp,cn⟩:=aaK (t:=E.T) (f:=E.J) (acc:=acc) he;unfold zn;generalize hB E.T E.J (nH E.J b) acc=p at *;have cU:=vA B;have k: ∀ x∈az,∀ L∈b,ni x L:=fun x ad L bi=>by
  rcases I L bi with h|h
  ·exact (bp x ad).2 L h
  ·have:=cU x ad;unfold ni;omega
 by_cases hf:p.2 < E.T
 ·rw[if_pos hf];refine⟨az++ [⟨p.2,E.T⟩],by rw[h1,List.append_assoc],xu B (fun x ad=>(bp x ad).1) am (by rw[qS];exact⟨⟨Int.le_refl _,hf,Int.le_refl _⟩,rfl⟩),fun x ad L bi=> ?_⟩;rcases List.mem_append.1 ad with ad|ad
  ·exact k x ad L bi
  ·rw[List.mem_singleton] at ad;subst ad;unfold ni;simp only;rcases I L bi with h|h
   ·have:=cn L h;omega
   ·omega
 ·rw[if_neg hf];exact⟨az,h1,B,k⟩
theorem aaL {aP:Int}: ∀ {a b acc:List Pr.bs} {e g:Int},Pr.cV e aP a=true→Pr.cV g aP b=true→
 ∃ az,ox a b acc=acc++az∧Pr.cV e aP az=true∧ ∀ x∈az,∀ L∈b,ni x L
 | [],b,acc,e,g,_,_=>⟨[],by simp[ox],rfl,by simp⟩
 |E::a,b,acc,e,g,aw,Z=>by
  rw[qS] at aw;obtain⟨axq,h1,B,am⟩:=axp (acc:=acc) aw.1.2.1 Z;obtain⟨⟨yN,ao⟩,I⟩:=RH (f:=E.J) Z;obtain⟨axr,bI,ca,fc⟩:=aaL (acc:=zn E b acc) aw.2 ao;unfold ox;refine⟨axq++axr,by rw[bI,h1,List.append_assoc],?_,fun x ad L bi=> ?_⟩
  ·exact xu (l:= []) (g:=E.J) rfl (by simp) aw.1.1 (xu (g:=E.T) (aaJ (e:=E.J) aw.1.2.2 B) (fun x ad=>(vA B x ad).2.2) (by omega) ca)
  ·rcases List.mem_append.1 ad with ad|ad
   ·exact am x ad L bi
   ·rcases I L bi with h|h
    ·exact fc x ad L h
    ·have:=vA ca x ad;unfold ni;omega
end Go.Proofs.YtpincjkjoeopkaaGreatDoor
namespace Go.Proofs.YtpincjkjoeopkaaGreatDoor
open Go Go.Abs Go.Proofs.Tryz
open Go.Sort (SWO)
def axv:Go.Shelf.Ren:=
 {f:=fun x=>match x with|6=>72|15=>158|14=>157|28=>241|29=>242|20=>233|21=>234|22=>235|23=>236|24=>237|25=>238|26=>239|27=>240|46=>289|47=>290|48=>291|49=>292|50=>293|57=>342|n=>n,
  t:=fun x=>match x with|22=>60|24=>64|25=>162|3=>3|39=>284|0=>0|53=>347|55=>349|4=>4|46=>341|45=>340|50=>206|5=>5|9=>9|66=>376|70=>380|76=>412|77=>308|n=>n,
  g:=fun n=>n}
set_option maxRecDepth 100000 in
theorem axw:SlLaysF0.n6 prog axv where
 mixed:=by kernel_rfl
 f6:=⟨"slices.SortFunc[[]payroll/api.Interval,payroll/api.Interval]",by decide,Eq.trans func72 (congrArg some (by kernel_rfl))⟩
 f14:=⟨"slices.pdqsortCmpFunc[payroll/api.Interval]",by decide,Eq.trans func157 (congrArg some (by kernel_rfl))⟩
 f15:=Eq.trans func158 (congrArg some (by kernel_rfl))
 f20:=⟨"slices.insertionSortCmpFunc[payroll/api.Interval]",by decide,Eq.trans func233 (congrArg some (by kernel_rfl))⟩
 f21:=⟨"slices.heapSortCmpFunc[payroll/api.Interval]",by decide,Eq.trans func234 (congrArg some (by kernel_rfl))⟩
 f22:=⟨"slices.breakPatternsCmpFunc[payroll/api.Interval]",by decide,Eq.trans func235 (congrArg some (by kernel_rfl))⟩
 f23:=⟨"slices.choosePivotCmpFunc[payroll/api.Interval]",by decide,Eq.trans func236 (congrArg some (by kernel_rfl))⟩
 f24:=⟨"slices.reverseRangeCmpFunc[payroll/api.Interval]",by decide,Eq.trans func237 (congrArg some (by kernel_rfl))⟩
 f25:=⟨"slices.partialInsertionSortCmpFunc[payroll/api.Interval]",by decide,Eq.trans func238 (congrArg some (by kernel_rfl))⟩
 f26:=⟨"slices.partitionEqualCmpFunc[payroll/api.Interval]",by decide,Eq.trans func239 (congrArg some (by kernel_rfl))⟩
 f27:=⟨"slices.partitionCmpFunc[payroll/api.Interval]",by decide,Eq.trans func240 (congrArg some (by kernel_rfl))⟩
 f28:=Eq.trans func241 (congrArg some (by kernel_rfl))
 f29:=Eq.trans func242 (congrArg some (by kernel_rfl))
 f46:=⟨"slices.siftDownCmpFunc[payroll/api.Interval]",by decide,Eq.trans func289 (congrArg some (by kernel_rfl))⟩
 f47:=Eq.trans func290 (congrArg some (by kernel_rfl))
 f48:=Eq.trans func291 (congrArg some (by kernel_rfl))
 f49:=⟨"slices.medianAdjacentCmpFunc[payroll/api.Interval]",by decide,Eq.trans func292 (congrArg some (by kernel_rfl))⟩
 f50:=⟨"slices.medianCmpFunc[payroll/api.Interval]",by decide,Eq.trans func293 (congrArg some (by kernel_rfl))⟩
 f57:=⟨"slices.order2CmpFunc[payroll/api.Interval]",by decide,Eq.trans func342 (congrArg some (by kernel_rfl))⟩
 t0:=underlying0
 a0:=isAgg0
 z0:=sizeOf0
 v0:=zeroValue0
 t3:=underlying3
 a3:=isAgg3
 z3:=sizeOf3
 v3:=zeroValue3
 t4:=underlying4
 a4:=isAgg4
 z4:=sizeOf4
 v4:=zeroValue4
 t5:=underlying5
 a5:=isAgg5
 z5:=sizeOf5
 v5:=zeroValue5
 t9:=underlying9
 a9:=isAgg9
 z9:=sizeOf9
 v9:=zeroValue9
 t22:=underlying60
 a22:=isAgg60
 z22:=sizeOf60
 v22:=zeroValue60
 t25:=underlying162
 a25:=isAgg162
 z25:=sizeOf162
 v25:=zeroValue162
 t39:=underlying284
 a39:=isAgg284
 z39:=sizeOf284
 v39:=zeroValue284
 t45:=underlying340
 a45:=isAgg340
 z45:=sizeOf340
 v45:=zeroValue340
 t46:=underlying341
 a46:=isAgg341
 z46:=sizeOf341
 v46:=zeroValue341
 t50:=underlying206
 a50:=isAgg206
 z50:=sizeOf206
 v50:=zeroValue206
 t53:=underlying347
 a53:=isAgg347
 z53:=sizeOf347
 v53:=zeroValue347
 t55:=underlying349
 a55:=isAgg349
 z55:=sizeOf349
 v55:=zeroValue349
 t66:=underlying376
 a66:=isAgg376
 z66:=sizeOf376
 v66:=zeroValue376
 t70:=underlying380
 a70:=isAgg380
 z70:=sizeOf380
 v70:=zeroValue380
 t76:=underlying412
 a76:=isAgg412
 z76:=sizeOf412
 v76:=zeroValue412
 t77:=underlying308
 a77:=isAgg308
 z77:=sizeOf308
 v77:=zeroValue308
section
variable [iK:dw]
theorem axx (a b:Pr.bs):aK prog 73 [.agg (aG.F a),.agg (aG.F b)] [] (fun v rs=>v= .int .i64 (gJ a.J b.J)∧rs= []):=by
 refine cr func73 aaN (by simp[LI,RJ]) ?_;simp only[go_sem,LI,RJ,Pr.eM];refine bH (xq _ _) rfl rfl ?_;simp only[go_sem];exact s.bb rfl ⟨rfl,rfl⟩
end
instance:tR Pr.bs:=⟨fun _=>rfl⟩
instance:Inhabited Pr.bs:=⟨⟨0,0⟩⟩
theorem LJ {a b:Int}:gJ a b < 0↔a < b:=by
 unfold gJ;split
 ·simp_all
 ·split<;>simp_all
theorem axy:SWO (ltOf fun a b:Pr.bs=>gJ a.J b.J):=by
 refine⟨fun a=> ?_,fun a b F=> ?_,fun a b F=> ?_⟩
 ·simp only[ltOf,decide_eq_false_iff_not,LJ];omega
 ·simp only[ltOf,decide_eq_true_eq,LJ];omega
 ·simp only[ltOf,decide_eq_false_iff_not,LJ];omega
theorem axz (l:List Pr.bs)(hl:l.length < 4611686018427387904):aK prog 72 [.own 0 l.length 0 l.length,.fn 73 []] [.aa 64 2 (ac l)]
 (fun v rs=>v= .bg []∧ ∃ bX:List Pr.bs,bX.Perm l∧bX.Pairwise (fun x y=>x.J≤y.J)∧rs= [.aa 64 2 (ac bX)]):=by
 refine aK.F6 inferInstance ?_;refine @aK.mono (dw.ax inferInstance) _ _ _ _ _ _ (@aK.FV (dw.ax inferInstance) trivial Pr.bs _ _ _ _ _ _ _ 64 axw rfl isAgg64 sizeOf64 (fun a b=>gJ a.J b.J) axy (@axx (dw.ax inferInstance)) (enters_of func73 (by kernel_rfl) rfl) l hl) ?_;rintro v rs ⟨rfl,bX,h1,B,rfl⟩;exact⟨rfl,bX,h1,B.imp fun {x y} h=>by rw[LJ] at h;omega,rfl⟩
end Go.Proofs.YtpincjkjoeopkaaGreatDoor
namespace Go.Proofs.YtpincjkjoeopkaaGreatDoor
open Go Go.Abs
def Hi (x y:Pr.bs):Bool:=decide (x.J≤y.J)
def Ea (tk w:List Pr.bs):List Pr.bs:=(tk++w).mergeSort Hi
theorem Q6 {aP:Int}: ∀ {l:List Pr.bs} {e:Int},(∀ x∈l,e≤x.J∧x.J < x.T∧x.T≤aP)→l.Pairwise (fun x y=>x.T≤y.J)→Pr.cV e aP l=true
 | [],_,_,_=>rfl
 |b::i,e,h,ae=>by
  rw[List.pairwise_cons] at ae;rw[qS];exact⟨h b List.mem_cons_self,Q6 (fun x ad=>⟨ae.1 x ad,(h x (List.mem_cons_of_mem _ ad)).2⟩) ae.2⟩
theorem Hj {aP:Int}: ∀ {l:List Pr.bs} {e:Int},Pr.cV e aP l=true→l.Pairwise (fun x y=>x.T≤y.J)
 | [],_,_=>List.Pairwise.nil
 |b::i,e,h=>by
  rw[qS] at h;exact List.pairwise_cons.2 ⟨fun x ad=>(vA h.2 x ad).1,Hj h.2⟩
theorem aav {x y:Pr.bs}(h:ni x y):ni y x:=Or.symm h
theorem awC {aP:Int}{tk w:List Pr.bs}(h1:Pr.cV 0 aP tk=true)(B:Pr.cV 0 aP w=true)(aq: ∀ x∈w,∀ L∈tk,ni x L): (tk++w).Pairwise ni:=
 List.pairwise_append.2 ⟨(Hj h1).imp fun h=> .inl h,(Hj B).imp fun h=> .inl h,fun x ad y bl=>aav (aq y bl x ad)⟩
theorem Rz {aP:Int}{l bX:List Pr.bs}(hl: ∀ x∈l,0≤x.J∧x.J < x.T∧x.T≤aP)(aq:l.Pairwise ni)(ae:bX.Perm l)(ak:bX.Pairwise fun x y=>x.J≤y.J):Pr.cV 0 aP bX=true:=by
 have mh:bX.Pairwise ni:=(ae.pairwise_iff (fun h=>aav h)).2 aq;have iv: ∀ x∈bX,0≤x.J∧x.J < x.T∧x.T≤aP:=fun x ad=>hl x (ae.mem_iff.1 ad);refine Q6 iv ?_;refine (ak.and mh).imp_of_mem fun {x y} ad bl h=> ?_;have a:=iv x ad;have b:=iv y bl;unfold ni at h;omega
theorem awD {aP:Int}{l mb mL:List Pr.bs}(hl: ∀ x∈l,0≤x.J∧x.J < x.T∧x.T≤aP)(aq:l.Pairwise ni)(hn:mb.Perm l)(kN:mb.Pairwise fun x y=>x.J≤y.J)(Bb:mL.Perm l)(uW:mL.Pairwise fun x y=>x.J≤y.J):mb=mL:=by
 have p1:=Hj (Rz hl aq hn kN);have iG:=Hj (Rz hl aq Bb uW);refine (hn.trans Bb.symm).eq_of_pairwise (fun a b aw Z am bp=> ?_) p1 iG;have cz:=hl a (hn.mem_iff.1 aw);have b1:=hl b (Bb.mem_iff.1 Z);omega
theorem RA (tk w:List Pr.bs): (Ea tk w).Perm (tk++w):=List.mergeSort_perm _ _
theorem aaw (tk w:List Pr.bs): (Ea tk w).Pairwise fun x y=>x.J≤y.J:=by
 have:=List.pairwise_mergeSort (le:=Hi) (fun a b F h1 B=>by simp only[Hi,decide_eq_true_eq] at *;omega) (fun a b=>by simp only[Hi,Bool.or_eq_true,decide_eq_true_eq];omega) (tk++w);exact this.imp fun h=>by simpa[Hi] using h
theorem awE {aP:Int}{tk w:List Pr.bs}(h1:Pr.cV 0 aP tk=true)(B:Pr.cV 0 aP w=true)(aq: ∀ x∈w,∀ L∈tk,ni x L):Pr.cV 0 aP (Ea tk w)=true∧ ∀ bX,bX.Perm (tk++w)→bX.Pairwise (fun x y=>x.J≤y.J)→bX=Ea tk w:=by
 have hl: ∀ x∈tk++w,0≤x.J∧x.J < x.T∧x.T≤aP:=fun x ad=>by
  rcases List.mem_append.1 ad with ad|ad
  ·exact vA h1 x ad
  ·exact vA B x ad
 have ae:=awC h1 B aq;exact⟨Rz hl ae (RA _ _) (aaw _ _),fun bX aw Z=>awD hl ae aw Z (RA _ _) (aaw _ _)⟩
end Go.Proofs.YtpincjkjoeopkaaGreatDoor
