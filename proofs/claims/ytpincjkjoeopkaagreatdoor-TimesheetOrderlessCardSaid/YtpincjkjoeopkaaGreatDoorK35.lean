/- Time evaluation. -/
import Derived.Test.YtpincjkjoeopkaaGreatDoorK30
import Derived.Test.YtpincjkjoeopkaaGreatDoorK19
import Derived.Test.YtpincjkjoeopkaaGreatDoorK34
set_option linter.unusedSimpArgs false
set_option linter.unusedVariables false
set_option linter.unusedSectionVars false
namespace Go.Proofs.YtpincjkjoeopkaaGreatDoor
open Go Go.Abs Go.Proofs.Tryz
theorem Yy: ∀ {l:List Pr.dx} {e:Int},Pr.hX e l=true→0≤e→ ∀ p∈l,0≤p.J∧p.J < p.T∧p.T≤120968640∧p.en.length≤1024∧Pr.cV p.J p.T p.en=true
 | [],_,_,_,p,ae=>by simp at ae
 |x::i,e,h,he,p,ae=>by
  simp only[Pr.hX,Pr.sN,Pr.hz,Bool.and_eq_true,decide_eq_true_eq] at h;rcases List.mem_cons.1 ae with rfl|ae
  ·exact⟨by omega,by omega,by omega,h.1.1.2,h.1.2⟩
  ·exact Yy h.2 (by omega) p ae
theorem Yz {d t:List R}(h: ∀ (i:Nat) (bz:R),d[i]? =some bz→iM (d.length+t.length) bz=true)(ht: ∀ bz∈t,iM (d.length+t.length) bz=true):jA (d++t):=by
 intro i bz G;rw[List.length_append];rw[List.getElem?_append] at G;split at G
 ·exact h i bz G
 ·exact ht _ (List.mem_of_getElem? G)
theorem YA {n:Nat}{a b F:Int}{ds:List eL}:iM n (.aY (.map true [.int .i64,.int .i64] (dp (.agg [.int .i64 a,.int .i64 b]) (.int .i64 F) (fR 0 ds))))=true:=by
 have key: ∀ (dM:List (z×z)),mU n dM=true→mU n (dp (.agg [.int .i64 a,.int .i64 b]) (.int .i64 F) dM)=true:=by
  intro dM
  induction dM with
  |nil=>intro _;rfl
  |cons x dM ih=>
   intro h;obtain⟨k,v⟩:=x;have cJ: (di n k&&di n v&&mU n dM)=true:=h;simp only[Bool.and_eq_true] at cJ;rw[dp];split
   ·show (di n (.agg [.int .i64 a,.int .i64 b])&&di n (.int .i64 F)&&mU n dM)=true;rw[cJ.2];rfl
   ·show (di n k&&di n v&&mU n _)=true;rw[cJ.1.1,cJ.1.2,ih cJ.2];rfl
 exact key _ Yv
def Bp (D:bZ)(Y:List cp)(e l:Int)(p:Pr.dx):Int:=bel p.J e l (Y.map (fO D))
def KS (D:bZ)(Y:List cp)(e l:Int)(p:Pr.dx):Int:=if 0≤Bp D Y e l p then (Y.map cp.ab).getD (Bp D Y e l p).toNat 0 else lI D p.J
def mq (D:bZ)(Y:List cp)(e l:Int)(O:List Pr.dx):List eL:=O.foldl (fun ds p=>fy (Bp D Y e l p) (KS D Y e l p) p ds) []
theorem QD {D:bZ}{Y:List cp}{e l:Int}{O:List Pr.dx}{c:Nat}(h:c < O.length):mq D Y e l (O.take (c+1))=fy (Bp D Y e l O[c]) (KS D Y e l O[c]) O[c] (mq D Y e l (O.take c)):=by
 unfold mq;rw[List.take_succ_eq_append_getElem h,List.foldl_append];rfl
theorem YB {a b:Int}{p:Pr.dx}: ∀ {ds:List eL},(fy a b p ds).length≤ds.length+1
 | []=>Nat.le_refl _
 |o::t=>by
  have:=YB (a:=a) (b:=b) (p:=p) (ds:=t);unfold fy;split
  ·simp
  ·simpa using this
theorem YC {a b:Int}{p:Pr.dx}{n:Nat}: ∀ {ds:List eL},(∀ o∈ds,o.O.length≤n)→ ∀ o∈fy a b p ds,o.O.length≤n+1
 | [],_,o,aq=>by rw[fy,List.mem_singleton] at aq;subst aq;simp
 |x::t,h,o,aq=>by
  unfold fy at aq;split at aq
  ·rcases List.mem_cons.1 aq with rfl|aq
   ·have:=h x List.mem_cons_self;simp only[List.length_append,List.length_singleton];omega
   ·have:=h o (List.mem_cons_of_mem _ aq);omega
  ·rcases List.mem_cons.1 aq with rfl|aq
   ·have:=h o List.mem_cons_self;omega
   ·exact YC (fun y bl=>h y (List.mem_cons_of_mem _ bl)) o aq
theorem GR {D:bZ}{Y:List cp}{e l:Int}{O:List Pr.dx}: ∀ {c:Nat},c≤O.length→(mq D Y e l (O.take c)).length≤c∧ ∀ o∈mq D Y e l (O.take c),o.O.length≤c
 |0,_=>by simp[mq]
 |c+1,h=>by
  obtain⟨h1,B⟩:=GR (D:=D) (Y:=Y) (e:=e) (l:=l) (O:=O) (c:=c) (by omega);rw[QD (by omega)];exact⟨Nat.le_trans YB (by omega),YC B⟩
set_option maxHeartbeats 4000000 in
theorem aul (D:bZ)(Y:List cp)(gm:iN D Y=0)(O:List Pr.dx)(jO:Pr.kV O=0)(e l:Int)(he:0≤e∧e≤1440)(hl:0≤l∧l≤1440):
 aK prog 69 [D.v,.pure 3 (ac Y),.pure 3 (ac O),.int .i64 e,.int .i64 l] [] (fun v rs=>v= .bg [.pure 3 (ac (mq D Y e l O)),.int .i64 0]∧rs= []):=by
 have atD:=Xx gm;have aIg:=asB gm;have de:=Kq D Y (by omega);have GS:O.length≤1024∧Pr.hX 0 O=true:=by
  unfold Pr.kV at jO;split at jO
  ·cases jO
  ·split at jO
   ·exact⟨by omega,by assumption⟩
   ·cases jO
 have hV:=Pr.mY O (by omega);rw[jO] at hV;refine hr func69 YD (by simp[DT,GU]) ?_;unfold bZ.v at *;simp only[go_sem,DT,GU]
 (refine s.U ?_;simp only[go_sem])
 refine oW [] [] (by simp) rfl (pN _ (by first|rfl|simp only[go_sem,cw])) de ?_;intro v rs ag;unfold yL at ag;rw[if_pos gm] at ag;obtain⟨rfl,rfl⟩:=ag;refine⟨.inl rfl,?_⟩;simp only[go_sem];generalize jz:Y.map (fO D)=vs at *;have wm:vs.length=Y.length:=by rw[←jz,List.length_map]
 have Kr: ∀ v∈vs,0≤v.J∧v.J≤120968640:=fun v ag=>by
  rw[←jz] at ag;obtain⟨E,ak,rfl⟩:=List.mem_map.1 ag;have:=PQ (PS gm E ak);omega
 have mZ: ∀ r0:R,bU [r0,.aa 64 2 (ac vs)] [some 0] [1] (.own 1 Y.length 0 Y.length)= .pure 2 (ac vs):=fun r0=>pO rfl rfl rfl (by rw[bO,wm]) cw;refine s.kc [some 0] [1] rfl rfl (by simp only[go_sem]<;>rfl) ?_;simp only[List.map_cons,List.map_nil,mZ,sz (.pure 3 (ac Y)) (by simp only[bE,cw]),sz (.pure 3 (ac O)) (by simp only[bE,cw])];have bF:decide (e < 0)=false:=decide_eq_false (by omega);have bJ:decide (1440 < e)=false:=decide_eq_false (by omega);have it:decide (l < 0)=false:=decide_eq_false (by omega);have qE:decide (1440 < l)=false:=decide_eq_false (by omega);simp only[go_sem]
 (repeat (first| (refine s.U ?_;simp only[go_sem,bF,bJ,it,qE])|simp only[go_sem,bF,bJ,it,qE]))
 refine bH hV (by simp only[bP,bE,cw,Bool.and_self]) rfl ?_
 (repeat (first| (refine s.U ?_;simp only[go_sem,bO])|simp only[go_sem,bO]))
 refine gY (fun r d=> ∃ (c:Nat) (X:Nat→Nat),c≤O.length∧r= [(1,.pure 3 (ac Y)),(3,.int .i64 e),(4,.int .i64 l),(5,.aW 0 1 0 0),(12,.pure 2 (ac vs)),(15,.bu 1),(16,.own 2 (mq D Y e l (O.take c)).length 0 (mq D Y e l (O.take c)).length),(51,.pure 3 (ac O)),(52,.int .i64 O.length),(53,.int .i64 c)]∧Bo d D (mq D Y e l (O.take c)) X)
  (fun r _=>match bn r 53 with| .int _ j=>(O.length-j).toNat|_=>0) ?_ ?_
 ·(refine s.iI 16 157 3 rfl (s.eW [1,3,4,5,12,15,16,51,52,53] ?_);simp only[go_sem])
  refine s.U ⟨0,fun _=>0,by omega,rfl,⟨?_,rfl,rfl,rfl,fun c h=>absurd h (by simp[mq]),fun c j h=>absurd h (by simp[mq])⟩⟩;intro i bz G
  match i,G with
  |0,G=>cases G;exact kf (by simp only[eg,bP,bE,cw,Bool.and_self,Bool.and_true])
  |1,G=>cases G;rfl
  |2,G=>cases G;rfl
  |i+3,G=>simp at G
 rintro r d ⟨c,X,an,rfl,eD⟩;have aR:=dr (c:=c) (by omega)
 by_cases aC:c < O.length
 rotate_left
 ·have h1:decide ((c:Int) < O.length)=false:=decide_eq_false (by omega);obtain rfl:c=O.length:=by omega
  rw[List.take_length] at *;simp only[go_sem,DT,GU]
  (repeat (first| (refine s.U ?_;simp only[go_sem,h1])|simp only[go_sem,h1]))
  have jv:=(GR (D:=D) (Y:=Y) (e:=e) (l:=l) (O:=O) (c:=O.length) (Nat.le_refl _)).1;rw[List.take_length] at jv;generalize mq D Y e l O=ds at *;have aq:=eD.o;have hf:lD d [some 2] (List.range d.length) (gh X ds)=ac ds:=auk eD;have QE:ew d (List.range d.length) [some 2] [some 2]=some [.aa 157 3 (ac ds)]:=by simp only[ew,aq,ho,hf]
  refine s.kc [some 2] (List.range d.length) rfl rfl QE ?_;have lY:bU d [some 2] (List.range d.length) (.own 2 ds.length 0 ds.length)= .own 0 ds.length 0 ds.length:=by simp[bU,hR]
  simp only[go_sem];have mZ:bU [.aa 157 3 (ac ds)] [] [0] (.bg [.own 0 ds.length 0 ds.length,.int .i64 0])= .bg [.pure 3 (ac ds),.int .i64 0]:=by
   have:bU [.aa 157 3 (ac ds)] [] [0] (.own 0 ds.length 0 ds.length)= .pure 3 (ac ds):=pO rfl rfl rfl (by rw[bO]) cw;rw[bU];simp only[dV,this];rfl
  refine s.kc [] [0] rfl rfl (by simp only[go_sem]<;>rfl) ?_;have mT:List.take ds.length (ac ds)=ac ds:=List.take_of_length_le (by rw[bO];exact Nat.le_refl _);simp only[go_sem,mZ,bO,cw,mT];exact s.U ⟨rfl,rfl⟩
 have h1:decide ((c:Int) < O.length)=true:=decide_eq_true (by omega);have sO: (0:Int)≤c:=by omega
 have sP: (c:Int) < O.length:=by omega
 have na: (ac O).getD c []=aG.F O[c]:=cQ aC;have dQ:=QD (D:=D) (Y:=Y) (e:=e) (l:=l) aC;obtain⟨tv,ri⟩:=GR (D:=D) (Y:=Y) (e:=e) (l:=l) (O:=O) (c:=c) an;have gV:=Yy GS.2 (by omega) O[c] (List.getElem_mem aC);have tB:Bp D Y e l O[c]=bel O[c].J e l vs:=by unfold Bp;rw[jz]
 have aum:KS D Y e l O[c]=if 0≤bel O[c].J e l vs then (Y.map cp.ab).getD (bel O[c].J e l vs).toNat 0 else lI D O[c].J:=by unfold KS;rw[tB]
 have QF:=XA O[c].J e l vs;rw[tB,aum] at dQ;generalize ae:O[c]=p at *;generalize yW:mq D Y e l (O.take c)=ds at *;have aS:=eD.D;have hm:=eD.m;have aq:=eD.o;simp only[go_sem,DT,GU]
 (repeat (first| (refine s.U ?_;simp only[go_sem,h1,sO,sP,na,bO,Pr.GV,dz,dE,dW,dT,List.append_assoc])|simp only[go_sem,h1,sO,sP,na,bO,Pr.GV,dz,dE,dW,dT,List.append_assoc]))
 refine bH (asE vs (by omega) Kr p.J e l (by omega) he) rfl rfl ?_;generalize bel p.J e l vs=bK at *
 by_cases nR:0≤bK
 ·rw[if_pos nR] at dQ;have kN:decide (0≤bK)=true:=decide_eq_true nR;have uW:bK < Y.length:=by omega
  have gs: (ac Y).getD bK.toNat []=aG.F (Y[bK.toNat]'(by omega)):=cQ (by omega);have aun: (Y.map cp.ab).getD bK.toNat 0=(Y[bK.toNat]'(by omega)).ab:=by
   rw[List.getD_eq_getElem?_getD,List.getElem?_map,List.getElem?_eq_getElem (by omega)];rfl
  rw[aun] at dQ
  (repeat (first| (refine s.U ?_;simp only[go_sem,dz,dE,dW,dT,List.append_assoc,List.length_append,kN,nR,uW,gs,tZ,bO])|simp only[go_sem,dz,dE,dW,dT,List.append_assoc,List.length_append,kN,nR,uW,gs,tZ,bO]))
  generalize (Y[bK.toNat]'(by omega)).ab=ab at dQ ⊢;have auo:=Qz bK ab ds
  by_cases gb:cE bK ab ds < ds.length
  ·have gZ:dd (.agg [.int .i64 bK,.int .i64 ab]) (fR 0 ds)=some (.int .i64 (cE bK ab ds:Int)):=by
    rw[GQ,if_pos gb,Nat.zero_add]
   (repeat (first| (refine s.U ?_;simp only[go_sem,dz,dE,dW,dT,List.append_assoc,List.length_append,bL aS,bL hm,bL aq,gZ])|simp only[go_sem,dz,dE,dW,dT,List.append_assoc,List.length_append,bL aS,bL hm,bL aq,gZ]))
   refine bH (KT p.en (by omega)) (by simp only[bP,bE,cw,Bool.and_self]) rfl ?_;have xj: (gh X ds).getD (cE bK ab ds) []= [.int .i64 (ds[cE bK ab ds]).bK,.int .i64 (ds[cE bK ab ds]).ab,.own (X (cE bK ab ds)) (ds[cE bK ab ds]).O.length 0 (ds[cE bK ab ds]).O.length]:=by
    rw[List.getD_eq_getElem?_getD,KQ gb];rfl
   have ad:=eD.x _ gb;have mr: ((cE bK ab ds:Nat):Int) < ds.length:=by omega
   have iz: (0:Int)≤((cE bK ab ds:Nat):Int):=by omega
   (repeat (first| (refine s.U ?_;simp only[go_sem,dz,dE,dW,dT,List.append_assoc,List.length_append,bL aS,bL hm,bL aq,bL ad,xj,kh,iz,mr,Int.toNat_natCast])|simp only[go_sem,dz,dE,dW,dT,List.append_assoc,List.length_append,bL aS,bL hm,bL aq,bL ad,xj,kh,iz,mr,Int.toNat_natCast]))
   have KM:=jP aq;have hne: (2==d.length+2)=false:=beq_false_of_ne (by omega);rw[hne];refine⟨trivial,by have:=ri _ (List.getElem_mem gb);omega,?_⟩;have QG:X (cE bK ab ds)≠0:=fun e=>by rw[e,aS] at ad;simp at ad
   have QH:X (cE bK ab ds)≠1:=fun e=>by rw[e,hm] at ad;cases ad
   have GW:X (cE bK ab ds)≠2:=fun e=>by rw[e,aq] at ad;simp at ad
   simp only[sI ad];have rL: (d.set (X (cE bK ab ds)) (.aa 88 3 (ac (ds[cE bK ab ds].O++ [⟨p.J,p.T,p.en⟩]))))[0]? =some (.aa 32 2 [[.int .i64 D.off,.pure 2 (ac D.cK)]]):=by rw[List.getElem?_set,if_neg QG];exact aS
   have nE: (d.set (X (cE bK ab ds)) (.aa 88 3 (ac (ds[cE bK ab ds].O++ [⟨p.J,p.T,p.en⟩]))))[1]? =some (.aY (.map true [.int .i64,.int .i64] (fR 0 ds))):=by rw[List.getElem?_set,if_neg QH];exact hm
   have pZ: (d.set (X (cE bK ab ds)) (.aa 88 3 (ac (ds[cE bK ab ds].O++ [⟨p.J,p.T,p.en⟩]))))[2]? =some (.aa 157 3 (gh X ds)):=by rw[List.getElem?_set,if_neg GW];exact aq
   have mX: (d.set (X (cE bK ab ds)) (.aa 88 3 (ac (ds[cE bK ab ds].O++ [⟨p.J,p.T,p.en⟩])))).length=d.length:=List.length_set;generalize cU:d.set (X (cE bK ab ds)) (.aa 88 3 (ac (ds[cE bK ab ds].O++ [⟨p.J,p.T,p.en⟩])))=az at *;simp only[←mX]
   (repeat (first| (refine s.U ?_;simp only[go_sem,dz,dE,dW,dT,List.append_assoc,List.length_append,bL rL,bL nE,bL pZ,xj,kh,iz,mr,Int.toNat_natCast,aR])|simp only[go_sem,dz,dE,dW,dT,List.append_assoc,List.length_append,bL rL,bL nE,bL pZ,xj,kh,iz,mr,Int.toNat_natCast,aR]))
   refine⟨⟨c+1,X,by omega,by rw[dQ,uc gb,List.length_set],?_⟩,by omega⟩;rw[dQ,sI pZ];have ol:=(rK eD gb).2.2.2;have QI: ∀ j,j < ds.length→X j < az.length:=fun j aT=>by rw[mX];exact (rK eD aT).2.2.2
   refine Yw eD gb ?_ (fun i bz G B aQ=> ?_) ?_ ?_
   ·have QJ:jA az:=by rw[←cU];exact Bh eD.all (kf cw)
    refine DI (Bh QJ ?_) ?_
    ·have e: ((gh X ds).set (cE bK ab ds) [.int .i64 (ds[cE bK ab ds]).bK,.int .i64 (ds[cE bK ab ds]).ab,.own (X (cE bK ab ds)) ((ds[cE bK ab ds]).O.length+1) 0 ((ds[cE bK ab ds]).O.length+1)])=gh X (fy bK ab p ds):=by
      rw[uc gb,QA];unfold pY;simp
     rw[e];refine KR fun j aT=> ?_;rw[uc gb,List.length_set] at aT;exact QI j aT
    ·intro bz hrow;simp only[fA] at hrow;rcases hrow with rfl|rfl|rfl
     ·exact kf (by simp only[eg,bP,bE,cw,Bool.and_self,Bool.and_true])
     ·exact kf (by simp only[eg,bP,bE,Bool.and_self,Bool.and_true])
     ·exact kf (by simp only[eg,bP,bE,cw,Bool.and_self,Bool.and_true])
   ·refine bL ?_;rw[List.getElem?_set,if_neg (fun e=>B e.symm),←cU,List.getElem?_set,if_neg (fun e=>aQ e.symm)];exact G
   ·refine bL ?_;rw[List.getElem?_set,if_pos rfl,if_pos (by omega)];unfold pY;simp
   ·refine bL ?_;rw[List.getElem?_set,if_neg (fun e=>GW e.symm),←cU,List.getElem?_set,if_pos rfl,if_pos ol]
  ·have gZ:dd (.agg [.int .i64 bK,.int .i64 ab]) (fR 0 ds)=none:=by
    rw[GQ,if_neg gb]
   have Bq:cE bK ab ds=ds.length:=by omega
   (repeat (first| (refine s.U ?_;simp only[go_sem,dz,dE,dW,dT,List.append_assoc,List.length_append,bL aS,bL hm,bL aq,gZ])|simp only[go_sem,dz,dE,dW,dT,List.append_assoc,List.length_append,bL aS,bL hm,bL aq,gZ]))
   have KM:=jP aq;simp only[sI hm];have rL: (d.set 1 (.aY (.map true [.int .i64,.int .i64] (dp (.agg [.int .i64 bK,.int .i64 ab]) (.int .i64 (ds.length:Int)) (fR 0 ds)))))[0]? =some (.aa 32 2 [[.int .i64 D.off,.pure 2 (ac D.cK)]]):=by rw[List.getElem?_set,if_neg (by omega)];exact aS
   have nE: (d.set 1 (.aY (.map true [.int .i64,.int .i64] (dp (.agg [.int .i64 bK,.int .i64 ab]) (.int .i64 (ds.length:Int)) (fR 0 ds)))))[1]? =some (.aY (.map true [.int .i64,.int .i64] (dp (.agg [.int .i64 bK,.int .i64 ab]) (.int .i64 (ds.length:Int)) (fR 0 ds)))):=by rw[List.getElem?_set,if_pos rfl,if_pos (by omega)]
   have pZ: (d.set 1 (.aY (.map true [.int .i64,.int .i64] (dp (.agg [.int .i64 bK,.int .i64 ab]) (.int .i64 (ds.length:Int)) (fR 0 ds)))))[2]? =some (.aa 157 3 (gh X ds)):=by rw[List.getElem?_set,if_neg (by omega)];exact aq
   have mX: (d.set 1 (.aY (.map true [.int .i64,.int .i64] (dp (.agg [.int .i64 bK,.int .i64 ab]) (.int .i64 (ds.length:Int)) (fR 0 ds))))).length=d.length:=List.length_set;generalize cU:d.set 1 (.aY (.map true [.int .i64,.int .i64] (dp (.agg [.int .i64 bK,.int .i64 ab]) (.int .i64 (ds.length:Int)) (fR 0 ds))))=az at *;simp only[←mX]
   (repeat (first| (refine s.U ?_;simp only[go_sem,dz,dE,dW,dT,List.append_assoc,List.length_append,bL rL,bL nE,bL pZ,kh])|simp only[go_sem,dz,dE,dW,dT,List.append_assoc,List.length_append,bL rL,bL nE,bL pZ,kh]))
   refine⟨by omega,?_⟩;simp only[sI pZ];obtain⟨cj,fu⟩: ∃ cj,cj=gh X ds++ [[.int .i64 bK,.int .i64 ab,.bD]]:=⟨_,rfl⟩;have xk:cj.length=ds.length+1:=by rw[fu,List.length_append,kh];rfl
   have ud:cj.getD ds.length []= [.int .i64 bK,.int .i64 ab,.bD]:=by rw[fu,List.getD_eq_getElem?_getD,List.getElem?_append_right (by rw[kh];exact Nat.le_refl _),kh,Nat.sub_self];rfl
   have GX: ∀ y,cj.set ds.length y=gh X ds++ [y]:=fun y=>by rw[fu,List.set_append_right _ _ (by rw[kh];exact Nat.le_refl _),kh,Nat.sub_self];rfl
   rw[←fu];have xl: (az.set 2 (.aa 157 3 cj))[0]? =some (.aa 32 2 [[.int .i64 D.off,.pure 2 (ac D.cK)]]):=by rw[List.getElem?_set,if_neg (by omega)];exact rL
   have ue: (az.set 2 (.aa 157 3 cj))[2]? =some (.aa 157 3 cj):=by rw[List.getElem?_set,if_pos rfl,if_pos (by omega)]
   have rM: (az.set 2 (.aa 157 3 cj))[1]? =az[1]? :=by rw[List.getElem?_set,if_neg (by omega)]
   rw[nE] at rM;have yX: (az.set 2 (.aa 157 3 cj)).length=az.length:=List.length_set;generalize de:az.set 2 (.aa 157 3 cj)=S at *;simp only[←yX];have mr: (ds.length:Int) < ((ds.length+1:Nat):Int):=by omega
   have iz: (0:Int)≤(ds.length:Int):=by omega
   (repeat (first| (refine s.U ?_;simp only[go_sem,dz,dE,dW,dT,List.append_assoc,List.length_append,bL xl,bL rM,bL ue,ud,xk,iz,mr])|simp only[go_sem,dz,dE,dW,dT,List.append_assoc,List.length_append,bL xl,bL rM,bL ue,ud,xk,iz,mr]))
   refine bH (KT p.en (by omega)) (by simp only[bP,bE,cw,Bool.and_self]) rfl ?_
   (repeat (first| (refine s.U ?_;simp only[go_sem,dz,dE,dW,dT,List.append_assoc,List.length_append,bL xl,bL rM,bL ue,ud,xk,GX,iz,mr,Int.toNat_natCast,aR])|simp only[go_sem,dz,dE,dW,dT,List.append_assoc,List.length_append,bL xl,bL rM,bL ue,ud,xk,GX,iz,mr,Int.toNat_natCast,aR]))
   have hne: (2==S.length+3)=false:=beq_false_of_ne (by omega);rw[hne];refine⟨trivial,?_⟩;rw[sI ue]
   (repeat (first| (refine s.U ?_;simp only[go_sem,aR])|simp only[go_sem,aR]))
   obtain⟨yV,Bj⟩:=Yx (W:=S.set 2 (.aa 157 3 (gh X ds++ [[.int .i64 bK,.int .i64 ab,.own (S.length+4) 1 0 1]]))++ [.aa 88 3 [[.int .i64 p.J,.int .i64 p.T,.pure 2 (ac p.en)]],.aa 280 2 [[.int .i64 bK,.int .i64 ab]],.aa 157 3 [[.int .i64 bK,.int .i64 ab,.bD]],.aa 88 3 [[.int .i64 p.J,.int .i64 p.T,.pure 2 (ac p.en)]],.aa 88 3 [[.int .i64 p.J,.int .i64 p.T,.pure 2 (ac p.en)]]]) (p:=p) eD Bq (S.length+4) (by omega) (by
    refine Yz (fun i bz G=> ?_) ?_
    ·rw[List.getElem?_set] at G;split at G
     ·split at G
      ·cases G;have e:gh X ds++ [[.int .i64 bK,.int .i64 ab,.own (S.length+4) 1 0 1]]=gh (fun c=>if c < ds.length then X c else S.length+4) (ds++ [⟨bK,ab,[p]⟩]):=by
        rw[QB];congr 1
        ·exact QC fun c an=>by rw[if_pos an]
        ·unfold pY;simp
       rw[e];refine KR fun c an=> ?_;rw[List.length_append,List.length_singleton] at an;simp only[List.length_set,List.length_cons,List.length_nil];split
       ·have:=(rK eD (by assumption)).2.2.2;omega
       ·omega
      ·cases G
     ·rename_i B;rw[←de,List.getElem?_set,if_neg B,←cU,List.getElem?_set] at G;split at G
      ·split at G
       ·cases G;exact YA
       ·cases G
      ·exact Py (by rw[List.length_set];omega) (eD.all i bz G)
    ·intro bz hrow;simp only[fA] at hrow;rcases hrow with rfl|rfl|rfl|rfl|rfl
     all_goals exact kf (by simp only[eg,bP,bE,cw,Bool.and_self,Bool.and_true])) (fun i bz G h1 B=>by
    refine bL ?_;rw[List.getElem?_set,if_neg (fun e=>B e.symm),←de,List.getElem?_set,if_neg (fun e=>B e.symm),←cU,List.getElem?_set,if_neg (fun e=>h1 e.symm)];exact G) (by
    refine bL ?_;rw[List.getElem?_set,if_neg (by omega)];exact rM) (by
    refine bL ?_;rw[List.getElem?_set,if_pos rfl,if_pos (by omega)]) (by
    rw[List.getElem?_append_right (by rw[List.length_set];omega),List.length_set,Nat.add_sub_cancel_left];rfl)
   exact⟨⟨c+1,yV,by omega,by rw[dQ,DR Bq,List.length_append];rfl,by rw[dQ];exact Bj⟩,by omega⟩
 ·rw[if_neg nR] at dQ;have kN:decide (0≤bK)=false:=decide_eq_false nR;have aup:nC D p.J=0:=by unfold nC;rw[if_neg (by omega),if_neg (by omega)]
  have fr:=Xl D p.J;rw[aup,if_pos rfl] at fr;unfold bZ.v at fr
  (repeat (first| (refine s.U ?_;simp only[go_sem,dz,dE,dW,dT,List.append_assoc,List.length_append,kN,nR,bL aS])|simp only[go_sem,dz,dE,dW,dT,List.append_assoc,List.length_append,kN,nR,bL aS]))
  refine bH fr (by simp only[bP,bE,cw,Bool.and_self,Bool.and_true]) rfl ?_;generalize lI D p.J=ab at dQ ⊢
  (repeat (first| (refine s.U ?_;simp only[go_sem,dz,dE,dW,dT,List.append_assoc,List.length_append,kN,nR,bL aS])|simp only[go_sem,dz,dE,dW,dT,List.append_assoc,List.length_append,kN,nR,bL aS]))
  have auo:=Qz bK ab ds
  by_cases gb:cE bK ab ds < ds.length
  ·have gZ:dd (.agg [.int .i64 bK,.int .i64 ab]) (fR 0 ds)=some (.int .i64 (cE bK ab ds:Int)):=by
    rw[GQ,if_pos gb,Nat.zero_add]
   (repeat (first| (refine s.U ?_;simp only[go_sem,dz,dE,dW,dT,List.append_assoc,List.length_append,bL aS,bL hm,bL aq,gZ])|simp only[go_sem,dz,dE,dW,dT,List.append_assoc,List.length_append,bL aS,bL hm,bL aq,gZ]))
   refine bH (KT p.en (by omega)) (by simp only[bP,bE,cw,Bool.and_self]) rfl ?_;have xj: (gh X ds).getD (cE bK ab ds) []= [.int .i64 (ds[cE bK ab ds]).bK,.int .i64 (ds[cE bK ab ds]).ab,.own (X (cE bK ab ds)) (ds[cE bK ab ds]).O.length 0 (ds[cE bK ab ds]).O.length]:=by
    rw[List.getD_eq_getElem?_getD,KQ gb];rfl
   have ad:=eD.x _ gb;have mr: ((cE bK ab ds:Nat):Int) < ds.length:=by omega
   have iz: (0:Int)≤((cE bK ab ds:Nat):Int):=by omega
   (repeat (first| (refine s.U ?_;simp only[go_sem,dz,dE,dW,dT,List.append_assoc,List.length_append,bL aS,bL hm,bL aq,bL ad,xj,kh,iz,mr,Int.toNat_natCast])|simp only[go_sem,dz,dE,dW,dT,List.append_assoc,List.length_append,bL aS,bL hm,bL aq,bL ad,xj,kh,iz,mr,Int.toNat_natCast]))
   have KM:=jP aq;have hne: (2==d.length+2)=false:=beq_false_of_ne (by omega);rw[hne];refine⟨trivial,by have:=ri _ (List.getElem_mem gb);omega,?_⟩;have QG:X (cE bK ab ds)≠0:=fun e=>by rw[e,aS] at ad;simp at ad
   have QH:X (cE bK ab ds)≠1:=fun e=>by rw[e,hm] at ad;cases ad
   have GW:X (cE bK ab ds)≠2:=fun e=>by rw[e,aq] at ad;simp at ad
   simp only[sI ad];have rL: (d.set (X (cE bK ab ds)) (.aa 88 3 (ac (ds[cE bK ab ds].O++ [⟨p.J,p.T,p.en⟩]))))[0]? =some (.aa 32 2 [[.int .i64 D.off,.pure 2 (ac D.cK)]]):=by rw[List.getElem?_set,if_neg QG];exact aS
   have nE: (d.set (X (cE bK ab ds)) (.aa 88 3 (ac (ds[cE bK ab ds].O++ [⟨p.J,p.T,p.en⟩]))))[1]? =some (.aY (.map true [.int .i64,.int .i64] (fR 0 ds))):=by rw[List.getElem?_set,if_neg QH];exact hm
   have pZ: (d.set (X (cE bK ab ds)) (.aa 88 3 (ac (ds[cE bK ab ds].O++ [⟨p.J,p.T,p.en⟩]))))[2]? =some (.aa 157 3 (gh X ds)):=by rw[List.getElem?_set,if_neg GW];exact aq
   have mX: (d.set (X (cE bK ab ds)) (.aa 88 3 (ac (ds[cE bK ab ds].O++ [⟨p.J,p.T,p.en⟩])))).length=d.length:=List.length_set;generalize cU:d.set (X (cE bK ab ds)) (.aa 88 3 (ac (ds[cE bK ab ds].O++ [⟨p.J,p.T,p.en⟩])))=az at *;simp only[←mX]
   (repeat (first| (refine s.U ?_;simp only[go_sem,dz,dE,dW,dT,List.append_assoc,List.length_append,bL rL,bL nE,bL pZ,xj,kh,iz,mr,Int.toNat_natCast,aR])|simp only[go_sem,dz,dE,dW,dT,List.append_assoc,List.length_append,bL rL,bL nE,bL pZ,xj,kh,iz,mr,Int.toNat_natCast,aR]))
   refine⟨⟨c+1,X,by omega,by rw[dQ,uc gb,List.length_set],?_⟩,by omega⟩;rw[dQ,sI pZ];have ol:=(rK eD gb).2.2.2;have QI: ∀ j,j < ds.length→X j < az.length:=fun j aT=>by rw[mX];exact (rK eD aT).2.2.2
   refine Yw eD gb ?_ (fun i bz G B aQ=> ?_) ?_ ?_
   ·have QJ:jA az:=by rw[←cU];exact Bh eD.all (kf cw)
    refine DI (Bh QJ ?_) ?_
    ·have e: ((gh X ds).set (cE bK ab ds) [.int .i64 (ds[cE bK ab ds]).bK,.int .i64 (ds[cE bK ab ds]).ab,.own (X (cE bK ab ds)) ((ds[cE bK ab ds]).O.length+1) 0 ((ds[cE bK ab ds]).O.length+1)])=gh X (fy bK ab p ds):=by
      rw[uc gb,QA];unfold pY;simp
     rw[e];refine KR fun j aT=> ?_;rw[uc gb,List.length_set] at aT;exact QI j aT
    ·intro bz hrow;simp only[fA] at hrow;rcases hrow with rfl|rfl|rfl
     ·exact kf (by simp only[eg,bP,bE,cw,Bool.and_self,Bool.and_true])
     ·exact kf (by simp only[eg,bP,bE,Bool.and_self,Bool.and_true])
     ·exact kf (by simp only[eg,bP,bE,cw,Bool.and_self,Bool.and_true])
   ·refine bL ?_;rw[List.getElem?_set,if_neg (fun e=>B e.symm),←cU,List.getElem?_set,if_neg (fun e=>aQ e.symm)];exact G
   ·refine bL ?_;rw[List.getElem?_set,if_pos rfl,if_pos (by omega)];unfold pY;simp
   ·refine bL ?_;rw[List.getElem?_set,if_neg (fun e=>GW e.symm),←cU,List.getElem?_set,if_pos rfl,if_pos ol]
  ·have gZ:dd (.agg [.int .i64 bK,.int .i64 ab]) (fR 0 ds)=none:=by
    rw[GQ,if_neg gb]
   have Bq:cE bK ab ds=ds.length:=by omega
   (repeat (first| (refine s.U ?_;simp only[go_sem,dz,dE,dW,dT,List.append_assoc,List.length_append,bL aS,bL hm,bL aq,gZ])|simp only[go_sem,dz,dE,dW,dT,List.append_assoc,List.length_append,bL aS,bL hm,bL aq,gZ]))
   have KM:=jP aq;simp only[sI hm];have rL: (d.set 1 (.aY (.map true [.int .i64,.int .i64] (dp (.agg [.int .i64 bK,.int .i64 ab]) (.int .i64 (ds.length:Int)) (fR 0 ds)))))[0]? =some (.aa 32 2 [[.int .i64 D.off,.pure 2 (ac D.cK)]]):=by rw[List.getElem?_set,if_neg (by omega)];exact aS
   have nE: (d.set 1 (.aY (.map true [.int .i64,.int .i64] (dp (.agg [.int .i64 bK,.int .i64 ab]) (.int .i64 (ds.length:Int)) (fR 0 ds)))))[1]? =some (.aY (.map true [.int .i64,.int .i64] (dp (.agg [.int .i64 bK,.int .i64 ab]) (.int .i64 (ds.length:Int)) (fR 0 ds)))):=by rw[List.getElem?_set,if_pos rfl,if_pos (by omega)]
   have pZ: (d.set 1 (.aY (.map true [.int .i64,.int .i64] (dp (.agg [.int .i64 bK,.int .i64 ab]) (.int .i64 (ds.length:Int)) (fR 0 ds)))))[2]? =some (.aa 157 3 (gh X ds)):=by rw[List.getElem?_set,if_neg (by omega)];exact aq
   have mX: (d.set 1 (.aY (.map true [.int .i64,.int .i64] (dp (.agg [.int .i64 bK,.int .i64 ab]) (.int .i64 (ds.length:Int)) (fR 0 ds))))).length=d.length:=List.length_set;generalize cU:d.set 1 (.aY (.map true [.int .i64,.int .i64] (dp (.agg [.int .i64 bK,.int .i64 ab]) (.int .i64 (ds.length:Int)) (fR 0 ds))))=az at *;simp only[←mX]
   (repeat (first| (refine s.U ?_;simp only[go_sem,dz,dE,dW,dT,List.append_assoc,List.length_append,bL rL,bL nE,bL pZ,kh])|simp only[go_sem,dz,dE,dW,dT,List.append_assoc,List.length_append,bL rL,bL nE,bL pZ,kh]))
   refine⟨by omega,?_⟩;simp only[sI pZ];obtain⟨cj,fu⟩: ∃ cj,cj=gh X ds++ [[.int .i64 bK,.int .i64 ab,.bD]]:=⟨_,rfl⟩;have xk:cj.length=ds.length+1:=by rw[fu,List.length_append,kh];rfl
   have ud:cj.getD ds.length []= [.int .i64 bK,.int .i64 ab,.bD]:=by rw[fu,List.getD_eq_getElem?_getD,List.getElem?_append_right (by rw[kh];exact Nat.le_refl _),kh,Nat.sub_self];rfl
   have GX: ∀ y,cj.set ds.length y=gh X ds++ [y]:=fun y=>by rw[fu,List.set_append_right _ _ (by rw[kh];exact Nat.le_refl _),kh,Nat.sub_self];rfl
   rw[←fu];have xl: (az.set 2 (.aa 157 3 cj))[0]? =some (.aa 32 2 [[.int .i64 D.off,.pure 2 (ac D.cK)]]):=by rw[List.getElem?_set,if_neg (by omega)];exact rL
   have ue: (az.set 2 (.aa 157 3 cj))[2]? =some (.aa 157 3 cj):=by rw[List.getElem?_set,if_pos rfl,if_pos (by omega)]
   have rM: (az.set 2 (.aa 157 3 cj))[1]? =az[1]? :=by rw[List.getElem?_set,if_neg (by omega)]
   rw[nE] at rM;have yX: (az.set 2 (.aa 157 3 cj)).length=az.length:=List.length_set;generalize de:az.set 2 (.aa 157 3 cj)=S at *;simp only[←yX];have mr: (ds.length:Int) < ((ds.length+1:Nat):Int):=by omega
   have iz: (0:Int)≤(ds.length:Int):=by omega
   (repeat (first| (refine s.U ?_;simp only[go_sem,dz,dE,dW,dT,List.append_assoc,List.length_append,bL xl,bL rM,bL ue,ud,xk,iz,mr])|simp only[go_sem,dz,dE,dW,dT,List.append_assoc,List.length_append,bL xl,bL rM,bL ue,ud,xk,iz,mr]))
   refine bH (KT p.en (by omega)) (by simp only[bP,bE,cw,Bool.and_self]) rfl ?_
   (repeat (first| (refine s.U ?_;simp only[go_sem,dz,dE,dW,dT,List.append_assoc,List.length_append,bL xl,bL rM,bL ue,ud,xk,GX,iz,mr,Int.toNat_natCast,aR])|simp only[go_sem,dz,dE,dW,dT,List.append_assoc,List.length_append,bL xl,bL rM,bL ue,ud,xk,GX,iz,mr,Int.toNat_natCast,aR]))
   have hne: (2==S.length+3)=false:=beq_false_of_ne (by omega);rw[hne];refine⟨trivial,?_⟩;rw[sI ue]
   (repeat (first| (refine s.U ?_;simp only[go_sem,aR])|simp only[go_sem,aR]))
   obtain⟨yV,Bj⟩:=Yx (W:=S.set 2 (.aa 157 3 (gh X ds++ [[.int .i64 bK,.int .i64 ab,.own (S.length+4) 1 0 1]]))++ [.aa 88 3 [[.int .i64 p.J,.int .i64 p.T,.pure 2 (ac p.en)]],.aa 280 2 [[.int .i64 bK,.int .i64 ab]],.aa 157 3 [[.int .i64 bK,.int .i64 ab,.bD]],.aa 88 3 [[.int .i64 p.J,.int .i64 p.T,.pure 2 (ac p.en)]],.aa 88 3 [[.int .i64 p.J,.int .i64 p.T,.pure 2 (ac p.en)]]]) (p:=p) eD Bq (S.length+4) (by omega) (by
    refine Yz (fun i bz G=> ?_) ?_
    ·rw[List.getElem?_set] at G;split at G
     ·split at G
      ·cases G;have e:gh X ds++ [[.int .i64 bK,.int .i64 ab,.own (S.length+4) 1 0 1]]=gh (fun c=>if c < ds.length then X c else S.length+4) (ds++ [⟨bK,ab,[p]⟩]):=by
        rw[QB];congr 1
        ·exact QC fun c an=>by rw[if_pos an]
        ·unfold pY;simp
       rw[e];refine KR fun c an=> ?_;rw[List.length_append,List.length_singleton] at an;simp only[List.length_set,List.length_cons,List.length_nil];split
       ·have:=(rK eD (by assumption)).2.2.2;omega
       ·omega
      ·cases G
     ·rename_i B;rw[←de,List.getElem?_set,if_neg B,←cU,List.getElem?_set] at G;split at G
      ·split at G
       ·cases G;exact YA
       ·cases G
      ·exact Py (by rw[List.length_set];omega) (eD.all i bz G)
    ·intro bz hrow;simp only[fA] at hrow;rcases hrow with rfl|rfl|rfl|rfl|rfl
     all_goals exact kf (by simp only[eg,bP,bE,cw,Bool.and_self,Bool.and_true])) (fun i bz G h1 B=>by
    refine bL ?_;rw[List.getElem?_set,if_neg (fun e=>B e.symm),←de,List.getElem?_set,if_neg (fun e=>B e.symm),←cU,List.getElem?_set,if_neg (fun e=>h1 e.symm)];exact G) (by
    refine bL ?_;rw[List.getElem?_set,if_neg (by omega)];exact rM) (by
    refine bL ?_;rw[List.getElem?_set,if_pos rfl,if_pos (by omega)]) (by
    rw[List.getElem?_append_right (by rw[List.length_set];omega),List.length_set,Nat.add_sub_cancel_left];rfl)
   exact⟨⟨c+1,yV,by omega,by rw[dQ,DR Bq,List.length_append];rfl,by rw[dQ];exact Bj⟩,by omega⟩
theorem auQ {e cA:Int}(he:cA≤e): ∀ {l:List Pr.dx},Pr.hX e l=true→Pr.hX cA l=true
 | [],_=>rfl
 |p::i,h=>by
  simp only[Pr.hX,Pr.sN,Pr.hz,Bool.and_eq_true,decide_eq_true_eq] at h ⊢;exact⟨⟨⟨⟨by omega,h.1.1.1.2⟩,h.1.1.2⟩,h.1.2⟩,h.2⟩
theorem Q1: ∀ {l bX:List Pr.dx} {e:Int},bX.Sublist l→Pr.hX e l=true→Pr.hX e bX=true
 |_,_,_,.slnil,_=>rfl
 |_,_,e,.cons (a:=p) ak,h=>by
  have cJ:=h;simp only[Pr.hX,Pr.sN,Pr.hz,Bool.and_eq_true,decide_eq_true_eq] at cJ;exact auQ (e:=p.T) (by omega) (Q1 ak cJ.2)
 |_,_,e,.cons_cons (a:=p) ak,h=>by
  simp only[Pr.hX,Bool.and_eq_true] at h ⊢;exact⟨h.1,Q1 ak h.2⟩
theorem auR {l bX:List Pr.dx}(ak:bX.Sublist l)(h:Pr.kV l=0):Pr.kV bX=0:=by
 have hl:=ak.length_le;have h1:l.length≤1024∧Pr.hX 0 l=true:=by
  unfold Pr.kV at h;split at h
  ·cases h
  ·split at h
   ·exact⟨by omega,by assumption⟩
   ·cases h
 unfold Pr.kV;rw[if_neg (by omega),if_pos (Q1 ak h1.2)]
theorem Y0 {a b:Int}{p:Pr.dx}{aU:List Pr.dx}{cj:Int}(aw:a < cj): ∀ {ds:List eL},(∀ o∈ds,o.O.Sublist aU∧o.bK < cj)→ ∀ o∈fy a b p ds,o.O.Sublist (aU++ [p])∧o.bK < cj
 | [],_,o,aq=>by
  rw[fy,List.mem_singleton] at aq;subst aq;exact⟨List.sublist_append_right aU [p],aw⟩
 |x::t,h,o,aq=>by
  have ad:=h x List.mem_cons_self;unfold fy at aq;split at aq
  ·rcases List.mem_cons.1 aq with rfl|aq
   ·exact⟨ad.1.append (List.Sublist.refl [p]),ad.2⟩
   ·have:=h o (List.mem_cons_of_mem _ aq);exact⟨this.1.trans (List.sublist_append_left aU [p]),this.2⟩
  ·rcases List.mem_cons.1 aq with rfl|aq
   ·exact⟨ad.1.trans (List.sublist_append_left aU [p]),ad.2⟩
   ·exact Y0 aw (fun y bl=>h y (List.mem_cons_of_mem _ bl)) o aq
theorem Y1 {D:bZ}{Y:List cp}{e l:Int}{O:List Pr.dx}: ∀ {c:Nat},c≤O.length→ ∀ o∈mq D Y e l (O.take c),o.O.Sublist (O.take c)∧o.bK < Y.length
 |0,_,o,aq=>by simp[mq] at aq
 |c+1,h,o,aq=>by
  rw[QD (by omega)] at aq;rw[List.take_succ_eq_append_getElem (by omega)];refine Y0 ?_ (Y1 (by omega)) o aq;have:=XA (O[c]'(by omega)).J e l (Y.map (fO D));rw[List.length_map] at this;unfold Bp;omega
theorem auS {D:bZ}{Y:List cp}{e l:Int}{O:List Pr.dx}(h:Pr.kV O=0): ∀ o∈mq D Y e l O,Pr.kV o.O=0∧o.bK < Y.length:=fun o aq=>by
 have:=Y1 (D:=D) (Y:=Y) (e:=e) (l:=l) (O:=O) (c:=O.length) (Nat.le_refl _) o (by rw[List.take_length];exact aq);rw[List.take_length] at this;exact⟨auR this.1 h,this.2⟩
theorem Q2: ∀ {dc:List Pr.lm} {k a m:Int} {w:List Pr.bs},Pr.kW a m dc=true→Pr.gn w→Pr.gn (Pr.pi dc k w)∧Pr.cR (Pr.pi dc k w)≤Pr.cR w
 | [],k,a,m,w,_,h=>⟨h,by simp[Pr.pi]⟩
 |b::dc,k,a,m,w,Z,h=>by
  simp only[Pr.kW,Bool.and_eq_true] at Z;rw[Pr.pi];split
  ·exact Q2 Z.2 h
  ·obtain⟨F,o⟩:=Pr.Q3 (l:=w) (i:= []) (a:=b.after) (k:=min (b.iD-k) (Pr.cR w-b.after)) (by omega) h (by simp[Pr.gn]);obtain⟨e,f⟩:=Q2 (k:=k+min (b.iD-k) (Pr.cR w-b.after)) Z.2 F;simp only[Pr.cR] at o;exact⟨e,by omega⟩
theorem auT {i:Pr.gz}{Y:Pr.bs}{O:List Pr.dx}(h:Pr.pV i Y O=0):Pr.gn (Pr.oh i Y O)∧Pr.cR (Pr.oh i Y O)≤100000:=by
 obtain⟨h1,B,am,bp⟩:=Pr.Q4 h;obtain⟨xg,kB,pd⟩:=Pr.KC h1;have sJ:=Pr.KD am;obtain⟨fC,D0⟩:=Pr.Q5 (i:= []) (Pr.G5 sJ) (by omega) (Pr.Qf (Pr.GG (i:=i) (Y:=Y) (O:=O) (last:=0)) (by omega)) (by simp[Pr.gn]);unfold Pr.oh;simp only;split
 ·exact⟨by simp[Pr.gn],by simp[Pr.cR]⟩
 ·obtain⟨F,o⟩:=Q2 (k:=Pr.uf (Pr.lL (Pr.kg i Y 0 O) (Pr.ms O) [])) kB fC;simp only[Pr.cR] at D0;exact⟨F,by omega⟩
theorem auU {i:Pr.gz}{Y:Pr.bs}{O:List Pr.dx}(h:Pr.pV i Y O=0):Pr.cV 0 120968640 (Pr.oh i Y O)=true∧(Pr.oh i Y O).length≤100000:=by
 obtain⟨h1,B,am,bp⟩:=Pr.Q4 h;obtain⟨xg,kB,pd⟩:=Pr.KC h1;obtain⟨an,ht⟩:=auT h;obtain⟨⟨dM,jh⟩,_⟩:=Pr.auV (i:=i) (Y:=Y) (O:=O) kB (Pr.KD am);have hl:=Pr.nd an;refine⟨Q6 (fun x ad=> ?_) (jh.Q7.imp fun h=>by omega),by omega⟩;have:=an x ad;have:=jh.wK x ad;omega
end Go.Proofs.YtpincjkjoeopkaaGreatDoor
