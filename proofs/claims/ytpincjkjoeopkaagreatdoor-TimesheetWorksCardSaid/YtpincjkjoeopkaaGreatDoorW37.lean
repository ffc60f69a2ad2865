/- Time evaluation. -/
import Derived.Test.YtpincjkjoeopkaaGreatDoorW32
import Derived.Test.YtpincjkjoeopkaaGreatDoorW33
import Derived.Test.YtpincjkjoeopkaaGreatDoorW34
import Derived.Test.YtpincjkjoeopkaaGreatDoorW35
import Derived.Test.YtpincjkjoeopkaaGreatDoorW36
import Derived.Test.YtpincjkjoeopkaaGreatDoorW20
import Derived.Test.YtpincjkjoeopkaaGreatDoorW17
import Derived.Test.YtpincjkjoeopkaaGreatDoorW21
import Derived.Test.YtpincjkjoeopkaaGreatDoorW27
set_option linter.all false
namespace Go.Proofs.YtpincjkjoeopkaaGreatDoor
open Go Go.Abs Go.Proofs.Tryz
set_option maxHeartbeats 8000000 in
theorem aOW (z:eD)(hh:z.ao.length≤1000000)(aP:z.al.length≤1000000)(ae:List cw)(gy:ae.length≤1000000)(l:List Ib.Ev)(hl:l.length≤1000000)(n:Int):
 aO prog 21 [.agg z.J,.pure 3 (ai ae),.pure 7 (ai l),.int .i64 n] []
  (fun v rs=>(if rE z ae l n=0 then v= .bo [.pure 2 (ai (nc z ae (tX z ae l n)).1),.pure 2 (ai (Pr.tY (kZ l n) z.fz)),.int .i64 0] else v= .bo [.bH,.bH,.int .i64 (rE z ae l n)])∧rs= []):=by
 have bO:=aPo z hh aP;have fk:=Ib.aPq l (by omega) n;refine hJ func21 azv (by simp[acr,aIe]) ?_;unfold eD.J at *;simp only[go_sem,acr,aIe]
 (repeat (first| (refine E.ac ?_;simp only[go_sem])|simp only[go_sem]))
 refine bM bO (by simp only[bU,bJ,ck,Bool.and_self,Bool.and_true]) rfl ?_;unfold rE
 by_cases h1:qL z=0
 rotate_left
 ·have q1: (qL z != 0)=true:=by simp[h1]
  (repeat (first| (refine E.ac ?_;simp only[go_sem,q1])|simp only[go_sem,q1]))
  exact E.bg rfl ⟨by rw[if_pos h1,if_neg h1],rfl⟩
 have q1: (qL z != 0)=false:=by simp[h1]
 rw[if_neg (show ¬qL z≠0 by omega)];obtain⟨aJL,Ad,aB7,_,_⟩:=Mr h1;have cd:=aMK z.M aJL ae (by omega);unfold cc.v at cd
 (repeat (first| (refine E.ac ?_;simp only[go_sem,q1])|simp only[go_sem,q1]))
 refine bM cd (by simp only[bU,bJ,ck,Bool.and_self,Bool.and_true]) rfl ?_
 by_cases G:jd z.M ae=0
 rotate_left
 ·have eQ: (jd z.M ae != 0)=true:=by simp[G]
  (repeat (first| (refine E.ac ?_;simp only[go_sem,eQ])|simp only[go_sem,eQ]))
  exact E.bg rfl ⟨by rw[if_pos G,if_neg G],rfl⟩
 have eQ: (jd z.M ae != 0)=false:=by simp[G]
 rw[if_neg (show ¬jd z.M ae≠0 by omega)]
 (repeat (first| (refine E.ac ?_;simp only[go_sem,eQ])|simp only[go_sem,eQ]))
 refine om [] [] (by simp) rfl (qw _ (by simp only[bU,bJ,ck,Bool.and_self,Bool.and_true])) fk ?_;rintro v rs (⟨au,rfl,rfl⟩|⟨au,S,Nj,aB5,rfl,rfl⟩)
 ·refine⟨.inl rfl,?_⟩;have eF: (Ib.cL l != 0)=true:=by simp[au]
  (repeat (first| (refine E.ac ?_;simp only[go_sem,eF])|simp only[go_sem,eF]))
  exact E.bg rfl ⟨by rw[if_pos au,if_neg au],rfl⟩
 refine⟨.inl rfl,?_⟩;rw[if_neg (show ¬Ib.cL l≠0 by omega)];have agx:=aBZ Nj aB5;have Ag:ai S=ai (kZ l n):=by unfold kZ;rw[aB1,agx]
 have aB6:S.length=(kZ l n).length:=by unfold kZ;rw[List.length_map,agx]
 simp only[go_sem];rw[Ag,aB6];have aJ9: (kZ l n).length≤1000000:=by
  have bv: (Ib.CU (Ib.kp l n)).length≤(Ib.kp l n).length:=List.length_filterMap_le _ _;have cx:=Ib.agy l n;have dx:=Nj.length_eq;omega
 unfold tX;generalize kZ l n=aW at *;have agz: (1≤z.fz∧z.fz≤10080)∧(0≤z.er∧z.er≤1440)∧0≤z.ex∧z.ex≤1440:=by unfold rF at Ad;omega
 have aB8: ∀ r0:Z,bW [r0,.ag 177 4 (ai aW)] [some 0] [1] (.own 1 aW.length 0 aW.length)= .pure 4 (ai aW):=fun r0=>qx rfl rfl rfl (by rw[bT]) ck;have RG:eC [Z.ag 42 14 [z.J],Z.ag 177 4 (ai aW)] [1] [some 0] [some 0]=some [.ag 42 14 [z.J]]:=by
  simp only[eC,hr,aB3 z];rfl
 refine E.jN [some 0] [1] rfl rfl RG ?_;simp only[List.map_cons,List.map_nil,aB8,tv (.pure 3 (ai ae)) (by simp only[bJ,ck])];unfold eD.J;simp only[go_sem];have hB:=Pr.aPr aW z.fz (by omega)
 (repeat (first| (refine E.ac ?_;simp only[go_sem])|simp only[go_sem]))
 refine bM hB (by simp only[bU,bJ,ck,Bool.and_self,Bool.and_true]) (by simp only[bU,bJ,ck,Bool.and_self,Bool.and_true]) ?_
 by_cases bv:Pr.lb aW z.fz=0
 rotate_left
 ·have iR: (Pr.lb aW z.fz != 0)=true:=by simp[bv]
  (repeat (first| (refine E.ac ?_;simp only[go_sem,iR])|simp only[go_sem,iR]))
  exact E.bg rfl ⟨by rw[if_pos bv,if_neg bv],rfl⟩
 have iR: (Pr.lb aW z.fz != 0)=false:=by simp[bv]
 rw[if_neg (show ¬Pr.lb aW z.fz≠0 by omega)];have Ik:aW.length≤1024∧Pr.qM 0 aW=true:=by
  have:=bv;unfold Pr.lb at this;split at this
  ·omega
  split at this
  ·omega
  split at this
  ·exact⟨by omega,by assumption⟩
  ·omega
 obtain⟨_,H1,_,EC⟩:=Pr.aaI (aY:=aW) (n:=z.fz) Ik.2 Ik.1 (by omega) (by omega);have jE:=aOo z.M ae G (Pr.nQ aW z.fz) H1 z.er z.ex agz.2.1 agz.2.2;unfold cc.v at jE
 (repeat (first| (refine E.ac ?_;simp only[go_sem,iR])|simp only[go_sem,iR]))
 refine bM jE (by simp only[bU,bJ,ck,Bool.and_self,Bool.and_true]) (by simp only[bU,bJ,ck,Bool.and_self,Bool.and_true]) ?_
 (repeat (first| (refine E.ac ?_;simp only[go_sem,bT])|simp only[go_sem,bT]))
 obtain⟨LF,_⟩:=H0 (M:=z.M) (ae:=ae) (e:=z.er) (l:=z.ex) (aa:=Pr.nQ aW z.fz) (c:=(Pr.nQ aW z.fz).length) (Nat.le_refl _);have Sv:=awA (M:=z.M) (ae:=ae) (e:=z.er) (l:=z.ex) H1;rw[List.take_length] at LF;generalize Pr.tY aW z.fz=A at *;generalize mY z.M ae z.er z.ex (Pr.nQ aW z.fz)=ds at *;generalize (Pr.nQ aW z.fz).length=aKa at *;refine hv (fun D r=> ∃ (c:Nat) (aD:List Pr.bx),c≤ds.length∧AM z ae ds=AM z ae (ds.drop c)∧aMm aD (nc z ae (ds.take c)).2∧(nc z ae (ds.take c)).1.length≤c∧D= [(1,.pure 3 (ai ae)),(4,.bd 0 1 0 0),(16,.pure 2 (ai A)),(17,.pure 3 (ai ds)),(18,.own 1 (nc z ae (ds.take c)).1.length 0 (nc z ae (ds.take c)).1.length),(19,.own 2 aD.length 0 aD.length),(20,.int .i64 c)]∧r= [.ag 42 14 [z.J],.ag 62 2 (ai (nc z ae (ds.take c)).1),.ag 64 2 (ai aD)])
  (fun D _=>match bs D 20 with| .int _ j=>(ds.length-j).toNat|_=>0) ?_ ?_
 ·(refine E.iv 18 62 2 rfl (E.eW [1,4,16,17,18,19,20] ?_);simp only[go_sem])
  (refine E.iv 19 64 2 rfl (E.eW [1,4,16,17,18,19,20] ?_);simp only[go_sem])
  exact E.ac ⟨0,[],by omega,rfl,⟨rfl,fun _=>rfl,rfl⟩,by simp[nc],rfl,rfl⟩
 rintro D r ⟨c,aD,av,eZ,fC,Mt,rfl,rfl⟩;have fK:=dB (c:=c) (by omega);unfold eD.J
 by_cases aI:c < ds.length
 rotate_left
 ·have h1:decide ((c:Int) < ds.length)=false:=decide_eq_false (by omega);obtain rfl:c=ds.length:=by omega
  rw[List.take_length,List.drop_length,AM] at *;simp only[go_sem,acr,aIe,h1,bT];generalize (nc z ae ds).1=W at *
  (refine E.kK [some 0] [1] ?_;simp only[go_sem])
  repeat (refine E.ac ?_;(show eG _ _ _ _ _ _);simp only[go_sem,h1,bT])
  exact E.bg (by simp only[bU,bJ,ck,Bool.and_self,Bool.and_true]) ⟨by rw[if_pos eZ],rfl⟩
 have h1:decide ((c:Int) < ds.length)=true:=decide_eq_true (by omega);have nM: (ai ds).getD c []=aJ.J ds[c]:=cT aI;obtain⟨dI,ct⟩:=Sv ds[c] (List.getElem_mem aI);have dV:=aaG (z:=z) (ae:=ae) aI;rw[aB2 aI] at eZ;generalize ds[c]=B at *;have jF:=aPj z.dK aB7 (rA z.M ae B) (avk G B) B.bP B.ah B.aa dI;have aCa:Pr.qD z.dK (rA z.M ae B) B.aa=AK z ae B:=rfl;have aCb:Pr.pb z.dK (rA z.M ae B) B.aa=AL z ae B:=rfl;rw[aCa,aCb] at jF;simp only[Pr.Ab,Pr.eY] at jF;have mT:AK z ae B=0→Pr.dd 0 120968640 (AL z ae B)=true∧(AL z ae B).length≤100000:=awC;simp only[go_sem,acr,aIe,h1,bT]
 repeat (refine E.ac ?_;(show eG _ _ _ _ _ _);simp only[go_sem,h1,nM,bT,Ri])
 repeat (first| (refine⟨by omega,?_⟩)| (refine⟨by rw[bT],?_⟩))
 (repeat (first| (refine E.ac ?_;simp only[go_sem,nM,bT,Ri])|simp only[go_sem,nM,bT,Ri]))
 have aGn:ae.length≤1024:=YM G;generalize cn:nc z ae (ds.take c)=bw at *;obtain⟨W,tk⟩:=bw;simp only at fC Mt;refine arL (E 0 fun D r=>bs D 1= .pure 3 (ai ae)∧bs D 4= .bd 0 1 0 0∧bs D 16= .pure 2 (ai A)∧bs D 17= .pure 3 (ai ds)∧bs D 18= .own 1 W.length 0 W.length∧bs D 19= .own 2 aD.length 0 aD.length∧bs D 20= .int .i64 c∧bs D 21= .bd 3 1 0 0∧r= [.ag 42 14 [[.int .i64 z.M.off,.pure 2 (ai z.M.cS),.int .i64 z.fz,.int .i64 z.er,.int .i64 z.ex,.int .i64 z.dK.eI,.int .i64 z.dK.lw,.int .i64 z.dK.lP,.pure 2 (ai z.dK.iA),.str z.ia.ef,.pure 2 (ai z.ia.eN),.pure 2 (ai z.ia.gL),.pure 7 (ai z.al),.pure 6 (ai z.ao)]],.ag 62 2 (ai W),.ag 64 2 (ai aD),.ag 64 2 [[.int .i64 (rA z.M ae B).R,.int .i64 (rA z.M ae B).ab]]]) ?_ ?_ ?_
 ·intro aw;have h0:0≤B.bP:=of_decide_eq_true aw;have gs: (ai ae).getD B.bP.toNat []=aJ.J (ae[B.bP.toNat]'(by omega)):=cT (by omega);have e:rA z.M ae B=⟨(fW z.M (ae[B.bP.toNat]'(by omega))).R,(fW z.M (ae[B.bP.toNat]'(by omega))).ab⟩:=by unfold rA;rw[dif_pos ⟨h0,ct⟩]
  have du:=aL3 z.M aJL (ae[B.bP.toNat]'(by omega));rw[e];generalize (ae[B.bP.toNat]'(by omega))=I at *;unfold cc.v at du;simp only[uZ,zT] at du;simp only[go_sem,bT,nM,gs,uZ,Ri]
  repeat (first| (refine⟨by omega,?_⟩)| (refine⟨by rw[bT],?_⟩))
  refine gG du (by simp only[bU,bJ,ck,Bool.and_self,Bool.and_true]) rfl ?_;simp only[go_sem]
  repeat (first| (refine⟨by omega,?_⟩)| (refine⟨by rw[bT],?_⟩))
  exact E.ac ⟨rfl,rfl,rfl,rfl,rfl,rfl,rfl,rfl,rfl⟩
 ·intro aw;have h0: ¬0≤B.bP:=of_decide_eq_false aw;have e:rA z.M ae B=⟨0,0⟩:=by unfold rA;rw[dif_neg (fun h=>h0 h.1)]
  rw[e];simp only[go_sem];exact E.ac ⟨rfl,rfl,rfl,rfl,rfl,rfl,rfl,rfl,rfl⟩
 intro D r dc;refine E.mono ?_ dc;rintro D r ⟨xu,xb,QC,MN,Hv,aHq,AN,aIe,rfl⟩;simp only[go_sem,xu,xb,QC,MN,Hv,aHq,AN,aIe,nM,Ri,bT]
 repeat (first| (refine⟨by omega,?_⟩)| (refine⟨by rw[bT],?_⟩))
 by_cases dx:AK z ae B=0
 rotate_left
 ·rw[if_neg dx] at jF eZ;have kq: (AK z ae B != 0)=true:=by simp[dx]
  refine gG jF (by simp only[bU,bJ,ck,Bool.and_self,Bool.and_true]) (by simp only[bU,bJ,ck,Bool.and_self,Bool.and_true]) ?_;simp only[go_sem,xu,xb,QC,MN,Hv,aHq,AN,aIe]
  repeat (refine E.ac ?_;(show eG _ _ _ _ _ _);simp only[go_sem,kq])
  exact E.bg rfl ⟨by rw[eZ,if_neg dx],rfl⟩
 rw[dx,if_pos rfl] at jF;rw[if_pos dx] at eZ;obtain⟨aPs,RR,aiw⟩:=aPt aB7 dI dx fC;have aCc:=SO fC.Ot (by omega);have Zz:=fC.aNp;have Ms:=aOz (AL z ae B) aD (mT dx).1 (by omega);rw[aPs] at Ms;unfold Mq at dV;simp only at dV;have nJ:=SO aiw (by omega);generalize pm (AL z ae B) tk []=aF at *;refine gG jF (by simp only[bU,bJ,ck,Bool.and_self,Bool.and_true]) (by simp only[bU,bJ,ck,Bool.and_self,Bool.and_true]) ?_;simp only[go_sem,xu,xb,QC,MN,Hv,aHq,AN,aIe]
 repeat (refine E.ac ?_;(show eG _ _ _ _ _ _);simp only[go_sem])
 refine om [2] [] (by decide) (by simp only[go_sem]<;>rfl) (by simp only[go_sem,ck]<;>rfl) Ms ?_;rintro _ _ ⟨rfl,rfl⟩;refine⟨.inl rfl,?_⟩;simp only[go_sem,ck];have aPu:ai aD++ai aF=ai (aD++aF):=by simp[ai]
 have aNq: (aD++aF).length=aD.length+aF.length:=List.length_append
 repeat (first| (refine And.intro (by omega) ?_)| (refine E.ac ?_;(show eG _ _ _ _ _ _);simp only[go_sem,bT]))
 try rw[aPu]
 by_cases va:aF.length=0
 ·rw[if_pos va] at dV;have aPv:aF= []:=List.eq_nil_of_length_eq_zero va;have zqq:decide ((0:Int) < aF.length)=false:=decide_eq_false (by omega);simp only[go_sem,zqq]
  repeat (refine E.ac ?_;(show eG _ _ _ _ _ _);simp only[go_sem,bT,zqq])
  (refine E.bB [some 0,some 1,some 2] ?_;simp only[go_sem])
  refine E.ac ⟨⟨c+1,aD++aF,by omega,eZ,by rw[dV,aPv,List.append_nil];exact fC,by rw[dV];exact Nat.le_trans Mt (by omega),by rw[dV,aNq,fK],by rw[dV]<;>rfl⟩,?_⟩;simp only[go_sem,fK];omega
 ·rw[if_neg va] at dV;have zqq:decide ((0:Int) < aF.length)=true:=decide_eq_true (by omega);have qC:ai W++ [[.int .i64 B.ah,.pure 2 (ai aF)]]=ai (W++ [⟨B.ah,aF⟩]):=kT (x:=wE.mk B.ah aF);have agA: (W++ [(⟨B.ah,aF⟩:wE)]).length=W.length+1:=by simp
  simp only[go_sem,zqq,qC]
  repeat (first| (refine And.intro (by omega) ?_)| (refine E.ac ?_;(show eG _ _ _ _ _ _);simp only[go_sem,bT,zqq,qC]))
  (refine E.bB [some 0,some 1,some 2] ?_;simp only[go_sem])
  refine E.ac ⟨⟨c+1,aD++aF,by omega,eZ,by rw[dV];exact RR,by rw[dV];simp only[agA];omega,by rw[dV,aNq,fK];simp only[agA],by rw[dV]<;>rfl⟩,?_⟩;simp only[go_sem,fK];omega
end Go.Proofs.YtpincjkjoeopkaaGreatDoor
namespace Go.Proofs.YtpincjkjoeopkaaGreatDoor.Ib
open Go Go.Abs
end Go.Proofs.YtpincjkjoeopkaaGreatDoor.Ib
namespace Go.Abs
variable [dE]
end Go.Abs
namespace Go.Proofs.YtpincjkjoeopkaaGreatDoor
open Go Go.Abs
end Go.Proofs.YtpincjkjoeopkaaGreatDoor
namespace Go.Proofs.YtpincjkjoeopkaaGreatDoor
open Go Go.Abs
open Classical in
theorem aaF {z:eD}{ae:List cw}{ds:List eX}: ∀ {c:Nat},c≤ds.length→(nc z ae (ds.take c)).1.length≤c
 |0,_=>by simp[nc]
 |c+1,h=>by
  have:=aaF (z:=z) (ae:=ae) (ds:=ds) (c:=c) (by omega);rw[aaG (by omega)];unfold Mq;split
  ·omega
  ·rw[List.length_append,List.length_singleton];omega
theorem aaH {z:eD}{ae:List cw}{l:List Ib.Ev}{n:Int}(h:rE z ae l n=0):qL z=0∧jd z.M ae=0∧Ib.cL l=0∧(nc z ae (tX z ae l n)).1.length≤1024∧(Pr.tY (kZ l n) z.fz).length≤1024:=by
 unfold rE at h;split at h
 ·omega
 split at h
 ·omega
 split at h
 ·omega
 split at h
 ·omega
 rename_i h1 G au bv;obtain⟨_,Ad,_,_,_⟩:=Mr (show qL z=0 by omega);have ak:Pr.lb (kZ l n) z.fz=0:=by omega
 have Ik: (kZ l n).length≤1024∧Pr.qM 0 (kZ l n)=true:=by
  have:=ak;unfold Pr.lb at this;split at this
  ·omega
  split at this
  ·omega
  split at this
  ·exact⟨by omega,by assumption⟩
  ·omega
 obtain⟨_,H1,_,EC⟩:=Pr.aaI (aY:=kZ l n) (n:=z.fz) Ik.2 Ik.1 (by unfold rF at Ad;omega) (by unfold rF at Ad;omega);have ay:=(H0 (M:=z.M) (ae:=ae) (e:=z.er) (l:=z.ex) (aa:=Pr.nQ (kZ l n) z.fz) (c:=(Pr.nQ (kZ l n) z.fz).length) (Nat.le_refl _)).1;rw[List.take_length] at ay;have sF:=aaF (z:=z) (ae:=ae) (ds:=tX z ae l n) (c:=(tX z ae l n).length) (Nat.le_refl _);rw[List.take_length] at sF;have he:tX z ae l n=mY z.M ae z.er z.ex (Pr.nQ (kZ l n) z.fz):=rfl;rw[he] at sF ⊢;exact⟨by omega,by omega,by omega,by omega,by omega⟩
end Go.Proofs.YtpincjkjoeopkaaGreatDoor
