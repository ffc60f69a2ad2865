/- Time evaluation. -/
import Derived.Test.YtpincjkjoeopkaaGreatDoorC24
import Derived.Test.YtpincjkjoeopkaaGreatDoorC25
set_option linter.all false
namespace Go.Proofs.YtpincjkjoeopkaaGreatDoor
open Go Go.Abs Go.Proofs.Tryz
structure wE where
 ah:Int
 gM:List Pr.bx
instance:aJ wE:=⟨λa=> [.int .i64 a.ah,.pure 2 (ai a.gM)],2,λ_=>rfl,λa=>by simp only[bU,bJ,ck,aK4,aK0,aLw],λ_=>rfl⟩
theorem aBX:aJ.U wE=2:=rfl
theorem aBY (e:wE):List.take 2 (aJ.J e)=aJ.J e:=rfl
attribute [go_sem] aBX aBY
open Classical in
noncomputable def Mv (l:List Ib.Ev)(n:Int):List Ib.Stamp:=if h:∃Rd:List Ib.Stamp,Rd.Perm (Ib.CU (Ib.kp l n))/\Rd.Pairwise Ib.ni then Classical.choose h else []
theorem aBZ {l:List Ib.Ev}{n:Int}{Rd:List Ib.Stamp}(d:Rd.Perm (Ib.CU (Ib.kp l n)))(G:Rd.Pairwise Ib.ni):Rd=Mv l n:=by
 have h:∃Rd:List Ib.Stamp,Rd.Perm (Ib.CU (Ib.kp l n))/\Rd.Pairwise Ib.ni:=⟨Rd,d,G⟩;unfold Mv;rw[aN0 h];exact Ib.aB0 (d.trans (aOy h).1.symm) G (aOy h).2
def agw (I:Ib.Stamp):Pr.Stamp:=⟨I.time,I.cB,I.cZ,I.Y⟩
theorem aB1 (Rd:List Ib.Stamp):ai (Rd.map agw)=ai Rd:=by
 unfold ai;rw[aLr];rfl
noncomputable def kZ (l:List Ib.Ev)(n:Int):List Pr.Stamp:=(Mv l n).map agw
def AK (z:eD)(ae:List cw)(B:eX):Int:=Pr.qD z.dK (rA z.M ae B) B.aa
def AL (z:eD)(ae:List cw)(B:eX):List Pr.bx:=Pr.pb z.dK (rA z.M ae B) B.aa
def Mq (z:eD)(ae:List cw)(bw:List wE×List Pr.bx)(B:eX):List wE×List Pr.bx:=
 if (pm (AL z ae B) bw.2 []).length=0 then bw else (bw.1++[⟨B.ah,pm (AL z ae B) bw.2 []⟩],Fe bw.2 (pm (AL z ae B) bw.2 []))
def nc (z:eD)(ae:List cw)(ds:List eX):List wE×List Pr.bx:=ds.foldl (Mq z ae) ([],[])
theorem aaG {z:eD}{ae:List cw}{ds:List eX}{c:Nat}(h:c<ds.length):nc z ae (ds.take (c+1))=Mq z ae (nc z ae (ds.take c)) ds[c]:=by
 unfold nc;rw[aLz h,aMc];rfl
def AM (z:eD)(ae:List cw):List eX->Int
 | []=>0
 |B::t=>if AK z ae B=0 then AM z ae t else AK z ae B
theorem aB2 {z:eD}{ae:List cw}{ds:List eX}{c:Nat}(h:c<ds.length):AM z ae (ds.drop c)=if AK z ae ds[c]=0 then AM z ae (ds.drop (c+1)) else AK z ae ds[c]:=by
 rw[aL4 h,AM]
noncomputable def tX (z:eD)(ae:List cw)(l:List Ib.Ev)(n:Int):List eX:=mY z.M ae z.er z.ex (Pr.nQ (kZ l n) z.fz)
noncomputable def rE (z:eD)(ae:List cw)(l:List Ib.Ev)(n:Int):Int:=if qL z≠0 then qL z else if jd z.M ae≠0 then jd z.M ae else if Ib.cL l≠0 then Ib.cL l else if Pr.lb (kZ l n) z.fz≠0 then Pr.lb (kZ l n) z.fz else AM z ae (tX z ae l n)
theorem Mr {z:eD}(h:qL z=0):fe z.M=0/\ ¬rF z/\Pr.mq z.dK=0/\Ib.lA z.ia=0/\Pm.vm z.M z.ao z.al=0:=by
 unfold qL at h;split at h
 ·omega
 split at h
 ·omega
 split at h
 ·omega
 split at h
 ·omega
 exact⟨by omega,by assumption,by omega,by omega,h⟩
theorem aB3 (z:eD){r:List Z}{a:List (Option Nat)}{b:List Nat}:lJ r a b [z.J]=[z.J]:=by
 rw[KV];simp only[aKP,aLC,qw _ z.fX]
set_option maxHeartbeats 4000000 in
theorem awS (z:eD)(hh:z.ao.length<=1000000)(aP:z.al.length<=1000000)(ae:List cw)(gy:ae.length<=1000000)(l:List Ib.Ev)(hl:l.length<=1000000)(n:Int):
 aO prog 20 [.agg z.J,.pure 3 (ai ae),.pure 7 (ai l),.int .i64 n] []
  (λv rs=>(if rE z ae l n=0 then v= .bo [.pure 2 (ai (nc z ae (tX z ae l n)).1),.pure 2 (ai (Pr.tY (kZ l n) z.fz)),.int .i64 0] else v= .bo [.bH,.bH,.int .i64 (rE z ae l n)])/\rs=[]):=by
 have bO:=aBW z hh aP;have cd:=auo z.M ae (by omega);have fk:=Ib.aB4 l (by omega) n;unfold cc.v at cd;refine hJ func20 acp (by simp[Fo,AN]) ?_;unfold eD.J at *;simp only[go_sem,Fo,AN]
 (repeat (first| (refine i ?_;simp only[go_sem])|simp only[go_sem]))
 refine bM bO (by simp only[bU,bJ,ck,aK4,aK0]) rfl ?_;unfold rE
 by_cases d:qL z=0
 rotate_left
 ·have aKY: (qL z != 0)=true:=by simp[d]
  (repeat (first| (refine i ?_;simp only[go_sem,aKY])|simp only[go_sem,aKY]))
  exact aKG rfl ⟨by rw[Rc d,S d],rfl⟩
 have aKY: (qL z != 0)=false:=by simp[d]
 rw[S (show ¬qL z≠0 by omega)]
 (repeat (first| (refine i ?_;simp only[go_sem,aKY])|simp only[go_sem,aKY]))
 refine bM cd (by simp only[bU,bJ,ck,aK4,aK0]) rfl ?_
 by_cases G:jd z.M ae=0
 rotate_left
 ·have eQ: (jd z.M ae != 0)=true:=by simp[G]
  (repeat (first| (refine i ?_;simp only[go_sem,eQ])|simp only[go_sem,eQ]))
  exact aKG rfl ⟨by rw[Rc G,S G],rfl⟩
 have eQ: (jd z.M ae != 0)=false:=by simp[G]
 rw[S (show ¬jd z.M ae≠0 by omega)]
 (repeat (first| (refine i ?_;simp only[go_sem,eQ])|simp only[go_sem,eQ]))
 refine om [] [] (by simp) rfl (qw _ (by simp only[bU,bJ,ck,aK4,aK0])) fk ?_;rintro v rs (⟨au,rfl,rfl⟩|⟨au,Rd,Nj,aB5,rfl,rfl⟩)
 ·refine⟨.inl rfl,?_⟩;have eF: (Ib.cL l != 0)=true:=by simp[au]
  (repeat (first| (refine i ?_;simp only[go_sem,eF])|simp only[go_sem,eF]))
  exact aKG rfl ⟨by rw[Rc au,S au],rfl⟩
 refine⟨.inl rfl,?_⟩;rw[S (show ¬Ib.cL l≠0 by omega)];have agx:=aBZ Nj aB5;have Ag:ai Rd=ai (kZ l n):=by unfold kZ;rw[aB1,agx]
 have aB6:Rd.length=(kZ l n).length:=by unfold kZ;rw[aLe,agx]
 simp only[go_sem];rw[Ag,aB6];have aJ9: (kZ l n).length<=1000000:=by
  have bv: (Ib.CU (Ib.kp l n)).length<=(Ib.kp l n).length:=aPc _ _;have cx:=Ib.agy l n;have dx:=Nj.length_eq;omega
 unfold tX;generalize kZ l n=aW at *;obtain⟨_,Ad,aB7,_,_⟩:=Mr d;have agz: (1<=z.fz/\z.fz<=10080)/\(0<=z.er/\z.er<=1440)/\0<=z.ex/\z.ex<=1440:=by unfold rF at Ad;omega
 have aB8:∀r0:Z,bW [r0,.ag 177 4 (ai aW)] [some 0] [1] (.own 1 aW.length 0 aW.length)= .pure 4 (ai aW):=λr0=>qx rfl rfl rfl (by rw[bT]) ck;have RG:eC [Z.ag 42 14 [z.J],Z.ag 177 4 (ai aW)] [1] [some 0] [some 0]=some [.ag 42 14 [z.J]]:=by
  simp only[eC,hr,aB3 z];rfl
 refine E.jN [some 0] [1] rfl rfl RG ?_;simp only[aKP,aLC,aB8,tv (.pure 3 (ai ae)) (by simp only[bJ,ck])];unfold eD.J;simp only[go_sem];have hB:=Pr.aB9 aW z.fz (by omega)
 (repeat (first| (refine i ?_;simp only[go_sem])|simp only[go_sem]))
 refine bM hB (by simp only[bU,bJ,ck,aK4,aK0]) (by simp only[bU,bJ,ck,aK4,aK0]) ?_
 by_cases bv:Pr.lb aW z.fz=0
 rotate_left
 ·have iR: (Pr.lb aW z.fz != 0)=true:=by simp[bv]
  (repeat (first| (refine i ?_;simp only[go_sem,iR])|simp only[go_sem,iR]))
  exact aKG rfl ⟨by rw[Rc bv,S bv],rfl⟩
 have iR: (Pr.lb aW z.fz != 0)=false:=by simp[bv]
 rw[S (show ¬Pr.lb aW z.fz≠0 by omega)];have Ik:aW.length<=1024/\Pr.qM 0 aW=true:=by
  have:=bv;unfold Pr.lb at this;split at this
  ·omega
  split at this
  ·omega
  split at this
  ·exact⟨by omega,by assumption⟩
  ·omega
 obtain⟨_,H1,_,EC⟩:=Pr.aaI (aY:=aW) (n:=z.fz) Ik.2 Ik.1 (by omega) (by omega);have jE:=avW z.M ae G (Pr.nQ aW z.fz) H1 z.er z.ex agz.2.1 agz.2.2;unfold cc.v at jE
 (repeat (first| (refine i ?_;simp only[go_sem,iR])|simp only[go_sem,iR]))
 refine bM jE (by simp only[bU,bJ,ck,aK4,aK0]) (by simp only[bU,bJ,ck,aK4,aK0]) ?_
 (repeat (first| (refine i ?_;simp only[go_sem,bT])|simp only[go_sem,bT]))
 obtain⟨LF,_⟩:=H0 (M:=z.M) (ae:=ae) (e:=z.er) (l:=z.ex) (aa:=Pr.nQ aW z.fz) (c:=(Pr.nQ aW z.fz).length) (aKM _);have Sv:=awA (M:=z.M) (ae:=ae) (e:=z.er) (l:=z.ex) H1;rw[aLb] at LF;generalize Pr.tY aW z.fz=A at *;generalize mY z.M ae z.er z.ex (Pr.nQ aW z.fz)=ds at *;generalize (Pr.nQ aW z.fz).length=aKa at *;refine hv (λD r=> ∃c:Nat,c<=ds.length/\AM z ae ds=AM z ae (ds.drop c)/\Pr.dd 0 120968640 (nc z ae (ds.take c)).2=true/\(nc z ae (ds.take c)).1.length<=c/\D=[(1,.pure 3 (ai ae)),(4,.bd 0 1 0 0),(16,.pure 2 (ai A)),(18,.own 1 (nc z ae (ds.take c)).1.length 0 (nc z ae (ds.take c)).1.length),(19,.own 2 (nc z ae (ds.take c)).2.length 0 (nc z ae (ds.take c)).2.length),(71,.pure 3 (ai ds)),(72,.int .i64 ds.length),(73,.int .i64 c)]/\r=[.ag 42 14 [z.J],.ag 62 2 (ai (nc z ae (ds.take c)).1),.ag 64 2 (ai (nc z ae (ds.take c)).2)])
  (λD _=>match bs D 73 with| .int _ j=>(ds.length-j).toNat|_=>0) ?_ ?_
 ·(refine E.iv 18 62 2 rfl (E.eW [1,4,16,18,19,71,72,73] ?_);simp only[go_sem])
  (refine E.iv 19 64 2 rfl (E.eW [1,4,16,18,19,71,72,73] ?_);simp only[go_sem])
  exact i ⟨0,by omega,rfl,rfl,by simp[nc],rfl,rfl⟩
 rintro D r ⟨c,av,eZ,hp,Mt,rfl,rfl⟩;have fK:=dB (c:=c) (by omega);unfold eD.J
 by_cases aI:c<ds.length
 rotate_left
 ·have d:decide ((c:Int)<ds.length)=false:=aK7;obtain rfl:c=ds.length:=by omega
  rw[aLb,aLF,AM] at *;simp only[go_sem,Fo,AN]
  (repeat (first| (refine i ?_;simp only[go_sem,d])|simp only[go_sem,d]))
  simp only[Rc eZ];generalize (nc z ae ds).1=W at *;have nL:∀r0 cY:Z,bW [r0,.ag 62 2 (ai W),cY] [] [1] (.bo [.own 1 W.length 0 W.length,.pure 2 (ai A),.int .i64 0])= .bo [.pure 2 (ai W),.pure 2 (ai A),.int .i64 0]:=λr0 cY=>by
   have:bW [r0,.ag 62 2 (ai W),cY] [] [1] (.own 1 W.length 0 W.length)= .pure 2 (ai W):=qx rfl rfl rfl (by rw[bT]) ck;rw[bW];simp only[dT,this,tv (.pure 2 (ai A)) (by simp only[bJ,ck])];rfl
  refine E.jN [] [1] rfl rfl (by simp only[go_sem]<;>rfl) ?_;simp only[aKP,aLC,nL];exact aKG rfl ⟨rfl,rfl⟩
 have d:decide ((c:Int)<ds.length)=true:=aLv;have tM: (0:Int)<=c:=by omega
 have tN: (c:Int)<ds.length:=by omega
 have nM: (ai ds).getD c []=aJ.J ds[c]:=cT aI;obtain⟨dI,ct⟩:=Sv ds[c] (aLc aI);have dV:=aaG (z:=z) (ae:=ae) aI;rw[aB2 aI] at eZ;generalize ds[c]=B at *;have jF:=avn z aB7 ae G B ct dI;unfold eD.J at jF;have aCa:Pr.qD z.dK (rA z.M ae B) B.aa=AK z ae B:=rfl;have aCb:Pr.pb z.dK (rA z.M ae B) B.aa=AL z ae B:=rfl;rw[aCa,aCb] at jF;have mT:AK z ae B=0->Pr.dd 0 120968640 (AL z ae B)=true/\(AL z ae B).length<=100000:=awC;simp only[go_sem,Fo,AN]
 (repeat (first| (refine i ?_;simp only[go_sem,d,tM,tN,nM,bT,Ri])|simp only[go_sem,d,tM,tN,nM,bT,Ri]))
 by_cases dx:AK z ae B=0
 ·rw[dx,Rc rfl] at jF;rw[Rc dx] at eZ;refine bM jF (by simp only[bU,bJ,ck,aK4,aK0]) (by simp only[bU,bJ,ck,aK4,aK0]) ?_;obtain⟨Is,sF⟩:=mT dx;generalize cn:nc z ae (ds.take c)=bw at *;obtain⟨W,tk⟩:=bw;simp only at hp Mt;unfold Mq at dV;simp only at dV;obtain⟨aF,bF,bK,gX⟩:=acf (acc:=[]) Is hp;rw[aLV] at bF;have nJ:=SO bK (by omega);have aCc:=SO hp (by omega);have Nk:=azi (AL z ae B) tk (by omega) (by omega) (by rw[bF];omega);rw[bF] at Nk dV;generalize AL z ae B=w at *
  (repeat (first| (refine i ?_;simp only[go_sem])|simp only[go_sem]))
  refine om [2] [] (by decide) (by simp only[go_sem]<;>rfl) (by simp only[go_sem,ck]<;>rfl) Nk ?_;rintro _ _ ⟨rfl,rfl⟩;refine⟨.inl rfl,?_⟩;simp only[go_sem,ck]
  by_cases va:aF.length=0
  ·rw[Rc va] at dV;have zqq: ((aF.length:Int)==0)=true:=by simp[va]
   (repeat (first| (refine i ?_;show eG _ _ _ _ _ _;simp only[go_sem,bT,zqq,fK])|simp only[go_sem,bT,zqq,fK]))
   (refine E.bB [some 0,some 1,some 2] ?_;simp only[go_sem])
   refine i ⟨⟨c+1,by omega,eZ,by rw[dV];exact hp,by rw[dV];exact aLk Mt (by omega),by rw[dV]<;>rfl,by rw[dV]<;>rfl⟩,?_⟩;simp only[go_sem];omega
  ·rw[S va] at dV;have zqq: ((aF.length:Int)==0)=false:=aLO.2 (by omega)
   (repeat (first| (refine i ?_;simp only[go_sem,bT,zqq,fK])|simp only[go_sem,bT,zqq,fK]))
   refine⟨by omega,?_⟩;have qC:ai W++[[.int .i64 B.ah,.pure 2 (ai aF)]]=ai (W++[⟨B.ah,aF⟩]):=kT (x:=wE.mk B.ah aF);rw[qC]
   (refine E.bB [some 0,some 1,some 2,some 4] ?_;simp only[go_sem])
   (repeat (first| (refine i ?_;simp only[go_sem,bT,fK])|simp only[go_sem,bT,fK]))
   refine⟨by omega,?_⟩
   (repeat (first| (refine i ?_;simp only[go_sem])|simp only[go_sem]))
   have fF: (tk++aF).length=tk.length+aF.length:=aKK;have IP:=azb (tk++aF) (by omega);rw[fF] at IP;refine om [2] [] (by decide) (by simp only[go_sem]<;>rfl) (by simp only[go_sem,ck]<;>rfl) IP ?_;rintro _ _ ⟨rfl,cb,ak,ao,rfl⟩;refine⟨.inl rfl,?_⟩;obtain⟨qO,MB⟩:=ayf hp bK gX;obtain rfl:=MB cb ak ao;have zh: (Fe tk aF).length=tk.length+aF.length:=by rw[(SI tk aF).length_eq,fF]
   have agA: (W++[(⟨B.ah,aF⟩:wE)]).length=W.length+1:=by simp
   simp only[go_sem]
   (refine E.bB [some 0,some 1,some 2] ?_;simp only[go_sem])
   (repeat (first| (refine i ?_;show eG _ _ _ _ _ _;simp only[go_sem,fK])|simp only[go_sem,fK]))
   refine i ⟨⟨c+1,by omega,eZ,by rw[dV];exact qO,by rw[dV];simp only[agA];omega,by rw[dV];simp only[agA,zh],by rw[dV]<;>rfl⟩,?_⟩;simp only[go_sem];omega
 ·rw[S dx] at jF;rw[S dx] at eZ;refine bM jF (by simp only[bU,bJ,ck,aK4,aK0]) rfl ?_;have kq: (AK z ae B != 0)=true:=by simp[dx]
  (repeat (first| (refine i ?_;simp only[go_sem,kq])|simp only[go_sem,kq]))
  exact aKG rfl ⟨by rw[eZ,S dx],rfl⟩
theorem aRw (V:Pr.bx)(l:List Pr.bx):fg (V::l)=V.R::fg l:=rfl
theorem aRx (V:Pr.bx)(l:List Pr.bx):aLR (V::l)=V.ab::aLR l:=rfl
theorem aRy {t:Int}:∀{b acc:List Pr.bx} {f:Int},(∀x∈(hS t f b acc).1,x∈acc\/((x.R=f\/x.R∈aLR b)/\x.ab∈fg b))/\((hS t f b acc).2=f\/(hS t f b acc).2∈aLR b)
 | [],acc,f=>⟨λx aj=> .inl aj,.inl rfl⟩
 |V::os,acc,f=>by
  unfold hS
  by_cases bp:V.R<t
  ·rw[Rc bp];obtain⟨d,G⟩:=aRy (t:=t) (b:=os) (f:=max f V.ab) (acc:=if f<V.R then acc++[⟨f,V.R⟩] else acc);have hm:max f V.ab=f\/max f V.ab=V.ab:=by omega
   rw[aRx,aRw];refine⟨λx aj=> ?_,?_⟩
   ·rcases d x aj with h|⟨h,cR⟩
    ·split at h
     ·rcases aK3.1 h with h|h
      ·exact .inl h
      ·rw[aK2] at h;subst h;exact .inr ⟨.inl rfl,aLa⟩
     ·exact .inl h
    ·refine .inr ⟨?_,aK1 _ cR⟩;rcases h with h|h
     ·rcases hm with e|e
      ·exact .inl (h.trans e)
      ·exact .inr (by rw[h,e];exact aLa)
     ·exact .inr (aK1 _ h)
   ·rcases G with h|h
    ·rcases hm with e|e
     ·exact .inl (h.trans e)
     ·exact .inr (by rw[h,e];exact aLa)
    ·exact .inr (aK1 _ h)
  ·rw[S bp];exact⟨λx aj=> .inl aj,.inl rfl⟩
theorem aON {f:Int}:∀{b:List Pr.bx},∀V∈oA f b,V∈b
 | [],V,h=>h
 |x::b,V,h=>by
  unfold oA at h;split at h
  ·exact aK1 _ (aON V h)
  ·exact h
theorem aS1 {I:Pr.bx}{b acc:List Pr.bx}:∀x∈Ax I b acc,x∈acc\/((x.R=I.R\/x.R∈aLR b)/\(x.ab=I.ab\/x.ab∈fg b)):=by
 intro x aj;obtain⟨d,G⟩:=aRy (t:=I.ab) (f:=I.R) (b:=oA I.R b) (acc:=acc);have bO:∀y,y∈aLR (oA I.R b)->y∈aLR b:=λy bt=>by
  obtain⟨V,bp,rfl⟩:=aKZ.1 bt;exact aKZ.2 ⟨V,aON V bp,rfl⟩
 have cd:∀y,y∈fg (oA I.R b)->y∈fg b:=λy bt=>by
  obtain⟨V,bp,rfl⟩:=aKZ.1 bt;exact aKZ.2 ⟨V,aON V bp,rfl⟩
 have fk:∀x∈(hS I.ab I.R (oA I.R b) acc).1,x∈acc\/((x.R=I.R\/x.R∈aLR b)/\(x.ab=I.ab\/x.ab∈fg b)):=λx aj=>by
  rcases d x aj with h|⟨h,cR⟩
  ·exact .inl h
  ·exact .inr ⟨h.imp id (bO _),.inr (cd _ cR)⟩
 unfold Ax at aj;split at aj
 ·rcases aK3.1 aj with aj|aj
  ·exact fk x aj
  ·rw[aK2] at aj;subst aj;exact .inr ⟨G.imp id (bO _),.inl rfl⟩
 ·exact fk x aj
theorem aRz:∀{a b acc:List Pr.bx},∀x∈pm a b acc,x∈acc\/((x.R∈fg a\/x.R∈aLR b)/\(x.ab∈aLR a\/x.ab∈fg b))
 | [],b,acc,x,aj=> .inl aj
 |I::a,b,acc,x,aj=>by
  unfold pm at aj;rw[aRw,aRx];rcases aRz x aj with h|⟨h,cR⟩
  ·rcases aS1 x h with h|⟨h,cR⟩
   ·exact .inl h
   ·exact .inr ⟨h.imp (λe=>by rw[e];exact aLa) id,cR.imp (λe=>by rw[e];exact aLa) id⟩
  ·refine .inr ⟨h.imp (aK1 _) λh=> ?_,cR.imp (aK1 _) λh=> ?_⟩
   ·obtain⟨V,bp,e⟩:=aKZ.1 h;exact aKZ.2 ⟨V,aON V bp,e⟩
   ·obtain⟨V,bp,e⟩:=aKZ.1 h;exact aKZ.2 ⟨V,aON V bp,e⟩
theorem aOK {t:Int}:∀{l:List Pr.bx} {e:Int},Pr.dd e t l=true->e<=t->e+Pr.da l<=t
 | [],e,_,h=>by rw[Pr.da];omega
 |b::z,e,h,he=>by
  rw[rI] at h;have:=aOK h.2 (by omega);rw[Pr.da];omega
theorem aRA {aW:Int}:∀{a b acc:List Pr.bx} {e g:Int},Pr.dd e aW a=true->Pr.dd g aW b=true->
 (∀x∈pm a b acc,x∈acc\/ ∃I∈a,I.R<=x.R/\x.ab<=I.ab)/\Pr.da (pm a b acc)<=Pr.da acc+Pr.da a
 | [],b,acc,e,g,_,_=>⟨λx aj=> .inl aj,by simp only[pm,Pr.da];omega⟩
 |I::a,b,acc,e,g,aC,af=>by
  rw[rI] at aC;obtain⟨ayS,d,G,au⟩:=ayR (acc:=acc) aC.1.2.1 af;obtain⟨⟨zX,aw⟩,O⟩:=SP (f:=I.R) af;obtain⟨OX,gm⟩:=aRA (acc:=Ax I b acc) aC.2 aw;have dc:=wG G;have hN:=aOK G (by omega);unfold pm;refine⟨λx aj=> ?_,?_⟩
  ·rcases OX x aj with h|⟨q,aV,h⟩
   ·rw[d] at h;rcases aK3.1 h with h|h
    ·exact .inl h
    ·have:=dc x h;exact .inr ⟨I,aLa,by omega,by omega⟩
   ·exact .inr ⟨q,aK1 _ aV,h⟩
  ·rw[d,Pr.UM] at gm;rw[Pr.da,d];omega
theorem aOL {a b:List Pr.bx}(h:a.Perm b):Pr.da a=Pr.da b:=by
 induction h with
 |nil=>rfl
 |cons x _ ih=>rw[Pr.da,Pr.da,ih]
 |swap x y l=>rw[Pr.da,Pr.da,Pr.da,Pr.da];omega
 |trans _ _ OX gm=>exact OX.trans gm
def aM3 (z:eD)(ae:List cw)(ds:List eX):List Int:=ds.flatMap λB=>fg (AL z ae B)++aLR (AL z ae B)
structure aRj (z:eD) (ae:List cw) (ds:List eX) (ft av:Int) (bw:List wE×List Pr.bx):Prop where
 ok:Pr.dd 0 120968640 bw.2=true
 aOJ:∀x∈bw.2,ft<=x.R/\x.ab<=av
 aNV:∀x∈bw.2,x.R∈aM3 z ae ds/\x.ab∈aM3 z ae ds
 aOI:bw.2.Perm (bw.1.flatMap λw=>w.gM)
 ah:∀w∈bw.1,∃B∈ds,w.ah=B.ah
 sum:Pr.da bw.2<=(ds.map λB=>Pr.da (AL z ae B)).sum
theorem aRl {z:eD}{ae:List cw}{ds:List eX}{ft av:Int}(aP:∀B∈ds,Pr.dd 0 120968640 (AL z ae B)=true/\ ∀x∈AL z ae B,ft<=x.R/\x.ab<=av):∀{c:Nat},c<=ds.length->aRj z ae (ds.take c) ft av (nc z ae (ds.take c))
 |0,_=>⟨rfl,by simp[nc],by simp[nc],by simp[nc],by simp[nc],by simp[nc,Pr.da]⟩
 |c+1,h=>by
  have ih:=aRl aP (c:=c) (by omega);rw[aaG (by omega),aLz (by omega)];obtain⟨aLA,ky⟩:=aP _ (aLc (show c<ds.length by omega));generalize ds[c]'(by omega)=B at *;generalize ds.take c=aD at *;generalize nc z ae aD=bw at *;have aRB:aM3 z ae (aD++[B])=aM3 z ae aD++(fg (AL z ae B)++aLR (AL z ae B)):=by unfold aM3;rw[aMS];simp
  have aL2: ((aD++[B]).map λB=>Pr.da (AL z ae B)).sum=(aD.map λB=>Pr.da (AL z ae B)).sum+Pr.da (AL z ae B):=by rw[aLU,aNO];simp
  have Bx:=Pr.Jz (Pr.Rf aLA (by omega));have dp:=aRz (a:=AL z ae B) (b:=bw.2) (acc:=[]);obtain⟨aF,dc,aA,awP⟩:=acf (acc:=[]) aLA ih.ok;obtain⟨hX,hN⟩:=aRA (acc:=[]) aLA ih.ok;rw[aLV] at dc;rw[dc] at dp hX hN;unfold Mq;rw[dc];split
  ·exact⟨ih.ok,ih.aOJ,λx aj=>by rw[aRB];exact⟨aMa _ (ih.aNV x aj).1,aMa _ (ih.aNV x aj).2⟩,ih.aOI,λw aP=>by
    obtain⟨q,aV,e⟩:=ih.ah w aP;exact⟨q,aMa _ aV,e⟩,by rw[aL2];have:=ih.sum;omega⟩
  ·have hm:=(ayf ih.ok aA awP).1;have hC:=SI bw.2 aF;refine⟨hm,λx aj=> ?_,λx aj=> ?_,?_,λw aP=> ?_,?_⟩
   ·rcases aK3.1 (hC.mem_iff.1 aj) with aj|aj
    ·exact ih.aOJ x aj
    ·rcases hX x aj with h|⟨I,ao,h⟩
     ·cases h
     ·have:=ky I ao;omega
   ·rw[aRB];rcases aK3.1 (hC.mem_iff.1 aj) with aj|aj
    ·exact⟨aMa _ (ih.aNV x aj).1,aMa _ (ih.aNV x aj).2⟩
    ·rcases dp x aj with h|⟨h,cR⟩
     ·cases h
     ·constructor
      ·rcases h with h|h
       ·exact aNb _ (aMa _ h)
       ·obtain⟨V,bp,e⟩:=aKZ.1 h;rw[<-e];exact aMa _ (ih.aNV V bp).2
      ·rcases cR with h|h
       ·exact aNb _ (aNb _ h)
       ·obtain⟨V,bp,e⟩:=aKZ.1 h;rw[<-e];exact aMa _ (ih.aNV V bp).1
   ·rw[aMS];refine hC.trans ?_;simpa using ih.aOI.append_right aF
   ·rcases aK3.1 aP with aP|aP
    ·obtain⟨q,aV,e⟩:=ih.ah w aP;exact⟨q,aMa _ aV,e⟩
    ·rw[aK2] at aP;subst aP;exact⟨B,by simp,rfl⟩
   ·rw[aL2,aOL hC,Pr.UM];have:=ih.sum;rw[Pr.da] at hN;omega
theorem aPy {z:eD}{ae:List cw}:∀{ds:List eX},AM z ae ds=0-> ∀B∈ds,AK z ae B=0
 | [],_,B,ay=>by cases ay
 |x::t,h,B,ay=>by
  rw[AM] at h;split at h
  ·rcases aKV.1 ay with rfl|ay
   ·assumption
   ·exact aPy h B ay
  ·exact absurd h (by assumption)
def nN (R ab:Int)(bw:List Int×(Int->Bool->List (List F)))(x:Int×List F):List Int×(Int->Bool->List (List F)):=
 if R<=x.1/\x.1<=ab then (ek x.1 bw.1,gR bw.2 x.1 false x.2) else bw
def eS (R ab:Int)(bw:List Int×(Int->Bool->List (List F)))(aY:List (Int×List F)):List Int×(Int->Bool->List (List F)):=aY.foldl (nN R ab) bw
theorem Z0 {R ab:Int}{bw:List Int×(Int->Bool->List (List F))}{aY:List (Int×List F)}{c:Nat}(av:c<aY.length):eS R ab bw (aY.take (c+1))=nN R ab (eS R ab bw (aY.take c)) aY[c]:=by
 unfold eS;rw[aLz av,aMc];rfl
theorem Cx {R ab:Int}:∀(aY:List (Int×List F)) (bw:List Int×(Int->Bool->List (List F))) (n:Nat),(∀B k,(bw.2 B k).length<=n)-> ∀B k,((eS R ab bw aY).2 B k).length<=n+aY.length
 | [],bw,n,h,B,k=>h B k
 |x::aY,bw,n,h,B,k=>by
  unfold eS;rw[aMb];refine aLk (Cx aY (nN R ab bw x) (n+1) (λB k=> ?_) B k) (by rw[aK8];omega);unfold nN;split
  ·show (gR bw.2 x.1 false _ B k).length<=n+1;unfold gR;split
   ·have:=h x.1 false;rw[aKK];simp;omega
   ·have:=h B k;omega
  ·have:=h B k;omega
def ko (aa:List Pm.Pm):List (Int×List F):=aa.map λp=>(p.ah,[.str p.name,.int .i64 p.min])
set_option maxHeartbeats 2000000 in
theorem awW {r:List Z}{I m:Nat}{R ab:Int}{Y:List Int}{bf:Int->Bool->List (List F)}(h0:hQ r I m R ab Y bf)(cU:∀B k,(bf B k).length<=100000)(aa:List Pm.Pm)(hl:aa.length<=100000):
 aO prog 44 [.bd I 1 0 0,.pure 3 (ai aa)] r
  (λv W=>v= .bo []/\gf r W m/\hQ W I m R ab (eS R ab (Y,bf) (ko aa)).1 (eS R ab (Y,bf) (ko aa)).2):=by
 have fF:=km h0.choose_spec.I;refine cu func44 abT (by simp[Fh,Iz]) ?_;have gy: (ko aa).length=aa.length:=by unfold ko;rw[aLe]
 simp only[go_sem,Fh,Iz,bT];refine dN (λD W=> ∃c:Nat,c<=aa.length/\D=[(0,.bd I 1 0 0),(6,.pure 3 (ai aa)),(7,.int .i64 aa.length),(8,.int .i64 c)]/\gf r W m/\hQ W I m R ab (eS R ab (Y,bf) ((ko aa).take c)).1 (eS R ab (Y,bf) ((ko aa).take c)).2)
  (λD _=>match bs D 8 with| .int _ j=>(aa.length-j).toNat|_=>0) ?_ ?_
 ·exact i ⟨0,by omega,rfl,gf.refl,h0⟩
 rintro D W ⟨c,av,rfl,hF,dc⟩;have aP:=dB (c:=c) (by omega)
 by_cases aI:c<aa.length
 ·have d: (c:Int)<aa.length:=by omega
  have z0: (0:Int)<=c:=by omega
  have aw: (ai aa).getD c []=aJ.J aa[c]:=cT aI;have dV:=Z0 (R:=R) (ab:=ab) (bw:=(Y,bf)) (aY:=ko aa) (c:=c) (by omega);have MM: (ko aa)[c]'(by omega)=(aa[c].ah,[.str aa[c].name,.int .i64 aa[c].min]):=by unfold ko;rw[aPg]
  rw[MM] at dV;generalize aa[c]=p at *;have cK:=Cx (R:=R) (ab:=ab) ((ko aa).take c) (Y,bf) 100000 cU;have Aa: ((ko aa).take c).length<=100000:=by simp;omega
  have wC:hQ (W++[.ag 136 3 [[.int .i64 p.ah,.str p.name,.int .i64 p.min]]]) I m R ab (eS R ab (Y,bf) ((ko aa).take c)).1 (eS R ab (Y,bf) ((ko aa).take c)).2:=by
   obtain⟨yk,yl⟩:=dc;exact⟨yk,yl.ext (by intro bG hrow;rw[aK2] at hrow;subst hrow;exact kA rfl)⟩
  simp only[go_sem,Fh,Iz,z0,d,aw,Pm.ayC,bT,aKX,aKT,dO,dH,ee,ec,aKK];refine uV wC.choose_spec.all (by
   have au:=km wC.choose_spec.I;simp only[gx,dt,au,aNx,aK0]) (Q8 wC (λB k=>aLk (cK B k) (by omega)) p.ah p.name p.min) ?_
  rintro _ W' ⟨rfl,pO,jt⟩;refine⟨pO.1,?_⟩;simp only[go_sem,aP];refine i ⟨⟨c+1,by omega,rfl,hF.trans (gf.mh.trans pO),?_⟩,?_⟩
  ·rw[dV];unfold nN;simp only
   by_cases N:R<=p.ah/\p.ah<=ab
   ·rw[Rc N] at jt ⊢;exact jt
   ·rw[S N] at jt ⊢;exact jt
  ·simp only[go_sem];omega
 ·have d:¬(c:Int)<aa.length:=by omega
  obtain rfl:c=aa.length:=by omega
  rw[aLZ (by omega)] at dc;simp only[go_sem,Fh,Iz,d];exact i ⟨rfl,hF,dc⟩
def qF (M:cc)(R ab:Int)(bw:List Int×(Int->Bool->List (List F)))(a:Pr.kn):List Int×(Int->Bool->List (List F)):=
 if ot M a.time=0/\R<=mm M a.time/\mm M a.time<=ab then (ek (mm M a.time) bw.1,gR bw.2 (mm M a.time) true [.int .i64 a.cB,.int .i64 a.time]) else bw
def kY (M:cc)(R ab:Int)(bw:List Int×(Int->Bool->List (List F)))(aY:List Pr.kn):List Int×(Int->Bool->List (List F)):=aY.foldl (qF M R ab) bw
theorem avp {M:cc}{R ab:Int}{bw:List Int×(Int->Bool->List (List F))}{aY:List Pr.kn}{c:Nat}(av:c<aY.length):kY M R ab bw (aY.take (c+1))=qF M R ab (kY M R ab bw (aY.take c)) aY[c]:=by
 unfold kY;rw[aLz av,aMc];rfl
theorem Zt {M:cc}{R ab:Int}:∀(aY:List Pr.kn) (bw:List Int×(Int->Bool->List (List F))) (n:Nat),(∀B k,(bw.2 B k).length<=n)-> ∀B k,((kY M R ab bw aY).2 B k).length<=n+aY.length
 | [],bw,n,h,B,k=>h B k
 |x::aY,bw,n,h,B,k=>by
  unfold kY;rw[aMb];refine aLk (Zt aY (qF M R ab bw x) (n+1) (λB k=> ?_) B k) (by rw[aK8];omega);unfold qF;split
  ·show (gR bw.2 _ true _ B k).length<=n+1;unfold gR;split
   ·have:=h (mm M x.time) true;rw[aKK];simp;omega
   ·have:=h B k;omega
  ·have:=h B k;omega
set_option maxHeartbeats 4000000 in
theorem avq {r:List Z}{I m:Nat}{R ab:Int}{Y:List Int}{bf:Int->Bool->List (List F)}(h0:hQ r I m R ab Y bf)(cU:∀B k,(bf B k).length<=100000)(M:cc)(jR:List Pr.kn)(hl:jR.length<=100000):
 aO prog 46 [.bd I 1 0 0,M.v,.pure 2 (ai jR)] r
  (λv W=>v= .bo []/\gf r W m/\hQ W I m R ab (kY M R ab (Y,bf) jR).1 (kY M R ab (Y,bf) jR).2):=by
 have fF:=km h0.choose_spec.I;unfold cc.v;refine hJ func46 Zu (by simp[a46,HQ]) ?_;simp only[go_sem,a46,HQ]
 (repeat (first| (refine i ?_;simp only[go_sem,bT])|simp only[go_sem,bT]))
 obtain⟨yo,xp⟩:∃yo:Z,yo= .ag 32 2 [[.int .i64 M.off,.pure 2 (ai M.cS)]]:=⟨_,rfl⟩;have avr:∀n,jc n yo=true:=λn=>by rw[xp];exact kA (by simp only[dY,bU,bJ,ck,aK4,aK0])
 have Q6:gf r (r++[yo]) m:=gf.mh;have va:hQ (r++[yo]) I m R ab Y bf:=by
  obtain⟨yk,yl⟩:=h0;exact⟨yk,yl.ext (by intro bG hrow;rw[aK2] at hrow;subst hrow;exact avr _)⟩
 have jD: (r++[yo])[r.length]? =some yo:=by rw[dH];rfl
 refine hv (λD W=> ∃c:Nat,c<=jR.length/\D=[(0,.bd I 1 0 0),(4,.bd r.length 1 0 0),(11,.pure 2 (ai jR)),(12,.int .i64 jR.length),(13,.int .i64 c)]/\gf (r++[yo]) W m/\hQ W I m R ab (kY M R ab (Y,bf) (jR.take c)).1 (kY M R ab (Y,bf) (jR.take c)).2)
  (λD _=>match bs D 13 with| .int _ j=>(jR.length-j).toNat|_=>0) ?_ ?_
 ·rw[<-xp];exact i ⟨0,by omega,rfl,gf.refl,va⟩
 rintro D W ⟨c,av,rfl,hF,dc⟩;have aP:=dB (c:=c) (by omega);have Rj:W[r.length]? =some yo:=hF.2 _ _ jD (by have:=km h0.choose_spec.m;omega) (λk am e=>by rw[xp] at e;simp at e;cases k<;>simp[tE] at e)
 by_cases aI:c<jR.length
 rotate_left
 ·have d:decide ((c:Int)<jR.length)=false:=aK7;obtain rfl:c=jR.length:=by omega
  rw[aLb] at dc;simp only[go_sem,a46,HQ]
  (repeat (first| (refine i ?_;simp only[go_sem,d])|simp only[go_sem,d]))
  exact i ⟨rfl,Q6.trans hF,dc⟩
 have d:decide ((c:Int)<jR.length)=true:=aLv;have z0: (0:Int)<=c:=by omega
 have mn: (c:Int)<jR.length:=by omega
 have aw: (ai jR).getD c []=aJ.J jR[c]:=cT aI;have dV:=avp (M:=M) (R:=R) (ab:=ab) (bw:=(Y,bf)) aI;have cK:=Zt (M:=M) (R:=R) (ab:=ab) (jR.take c) (Y,bf) 100000 cU;have Aa: (jR.take c).length<=100000:=by simp;omega
 generalize jR[c]=a at *;generalize (kY M R ab (Y,bf) (jR.take c))=bw at *;obtain⟨rB,im⟩:=bw;simp only at cK dc;obtain⟨X,h⟩:=dc;have ao:=h.I;have hm:=h.m;have fC:=YA M a.time;unfold cc.v at fC;rw[xp] at Rj;simp only[go_sem,a46,HQ]
 (repeat (first| (refine i ?_;simp only[go_sem,d,z0,mn,aw,bT,Pr.Zv,aKT,dO,dH,ee,ec,aKK,bQ Rj])|simp only[go_sem,d,z0,mn,aw,bT,Pr.Zv,aKT,dO,dH,ee,ec,aKK,bQ Rj]))
 refine bM fC (by simp only[bU,bJ,ck,aK4,aK0]) rfl ?_
 by_cases dp:ot M a.time=0
 rotate_left
 ·have aKY: (ot M a.time != 0)=true:=by simp[dp]
  unfold qF at dV;rw[S (λh=>dp h.1)] at dV
  (repeat (first| (refine i ?_;simp only[go_sem,aKY,aP])|simp only[go_sem,aKY,aP]))
  exact⟨⟨c+1,by omega,rfl,hF.trans gf.mh,by rw[dV];exact⟨X,h.ext (by intro bG hrow;rw[aK2] at hrow;subst hrow;exact kA rfl)⟩⟩,by omega⟩
 rw[dp,Rc rfl];unfold qF at dV;simp only[dp,aMh] at dV;generalize mm M a.time=ah at *
 by_cases ay:R<=ah/\ah<=ab
 rotate_left
 ·rw[S ay] at dV
  by_cases aLA:ah<R
  ·have aKY:decide (ah<R)=true:=aLf aLA
   (repeat (first| (refine i ?_;simp only[go_sem,aKY,aP,aKT,dO,dH,ee,ec,aKK,bQ ao])|simp only[go_sem,aKY,aP,aKT,dO,dH,ee,ec,aKK,bQ ao]))
   exact⟨⟨c+1,by omega,rfl,hF.trans gf.mh,by rw[dV];exact⟨X,h.ext (by intro bG hrow;rw[aK2] at hrow;subst hrow;exact kA rfl)⟩⟩,by omega⟩
  ·have aKY:decide (ah<R)=false:=aLh aLA;have eQ:decide (ab<ah)=true:=aLv
   (repeat (first| (refine i ?_;simp only[go_sem,aKY,eQ,aP,aKT,dO,dH,ee,ec,aKK,bQ ao])|simp only[go_sem,aKY,eQ,aP,aKT,dO,dH,ee,ec,aKK,bQ ao]))
   exact⟨⟨c+1,by omega,rfl,hF.trans gf.mh,by rw[dV];exact⟨X,h.ext (by intro bG hrow;rw[aK2] at hrow;subst hrow;exact kA rfl)⟩⟩,by omega⟩
 rw[Rc ay] at dV;have aKY:decide (ah<R)=false:=aK7;have eQ:decide (ab<ah)=false:=aK7;obtain⟨il,vb⟩:=Zi (X:=X) (ah:=ah) h.ea;have avj:=cK ah true;have lh:Abs.cV (hy X im ah false)=true:=Zh;have vP:∀n,W.length<=n->dt n (hy X im ah false)=true:=λn aH=>Hb aH _ (Ra h.lt ah false)
 by_cases an:im ah true=[]
 ·have iI:hy X im ah true= .bH:=by unfold hy;rw[an];rfl
  rw[iI] at vb
  (repeat (first| (refine i ?_;simp only[go_sem,aKY,eQ,aP,aKT,dO,dH,ee,ec,aKK,bQ ao,bQ hm,vb,lh])|simp only[go_sem,aKY,eQ,aP,aKT,dO,dH,ee,ec,aKK,bQ ao,bQ hm,vb,lh]))
  obtain⟨pO,jt⟩:=Zl (aW:=[.ag 132 2 [[.int .i64 a.cB,.int .i64 a.time]],.ag 76 3 [[.int .i64 ah,hy X im ah false,.own (W.length+3) 1 0 1]],.ag 132 2 [[.int .i64 a.cB,.int .i64 a.time]],.ag 132 2 [[.int .i64 a.cB,.int .i64 a.time]]]) h ah true [.int .i64 a.cB,.int .i64 a.time] rfl 3 _ an rfl rfl (by
   simp only[aKV,aNf,aNt,aN9,aOa,jc,mj,gx,dt,vP _ (aNs _ _),aK8,aLQ,aK0,aLw,aKN,aMh,aMi];omega)
  exact⟨⟨c+1,by omega,rfl,hF.trans pO,by rw[dV];exact jt⟩,by omega⟩
 ·have aj:=h.x ah true an;have ak:0<(im ah true).length:=aNL.2 an;have iI:hy X im ah true= .own (X ah true) (im ah true).length 0 (im ah true).length:=by unfold hy;rw[S (by omega)]
  rw[iI] at vb
  (repeat (first| (refine i ?_;simp only[go_sem,aKY,eQ,aP,aKT,dO,dH,ee,ec,aKK,bQ ao,bQ hm,bQ aj,vb,lh])|simp only[go_sem,aKY,eQ,aP,aKT,dO,dH,ee,ec,aKK,bQ ao,bQ hm,bQ aj,vb,lh]))
  refine⟨rfl,by omega,?_⟩;have ts:X ah true≠I:=λe=>(by rw[e,ao] at aj;simp only[aLj,Z.ag.injEq] at aj;omega);have Gl:X ah true≠m:=λe=>(by rw[e,hm] at aj;cases aj);have LR: (W.set (X ah true) (.ag 132 2 (im ah true++[[.int .i64 a.cB,.int .i64 a.time]])))[I]? =some (.ag 118 3 [[.int .i64 R,.int .i64 ab,.bE m]]):=by rw[aKQ,S ts];exact ao
  have ov: (W.set (X ah true) (.ag 132 2 (im ah true++[[.int .i64 a.cB,.int .i64 a.time]])))[m]? =some (.be (.map false [.int .i64] (de (nI X im) rB))):=by rw[aKQ,S Gl];exact hm
  have nJ: (W.set (X ah true) (.ag 132 2 (im ah true++[[.int .i64 a.cB,.int .i64 a.time]]))).length=W.length:=aLg;have mX:=λ(aW:List Z) hN=>Zm (aW:=aW) h ah true [.int .i64 a.cB,.int .i64 a.time] rfl _ an rfl hN;simp only[tF aj];have HL:∀n,W.length<=n->dt n (.own (X ah true) ((im ah true).length+1) 0 ((im ah true).length+1))=true:=λn aH=>by
   have:=h.lt ah true an;simp only[dt,aKN];omega
  simp only[show tE true=132 from rfl,aK5] at mX;generalize va:W.set (X ah true) (.ag 132 2 (im ah true++[[.int .i64 a.cB,.int .i64 a.time]]))=aF at *;simp only[<-nJ] at vP HL mX ⊢
  (repeat (first| (refine i ?_;simp only[go_sem,aP,aKT,bQ LR,bQ ov,dO,dH,ee,ec,aKK,lh])|simp only[go_sem,aP,aKT,bQ LR,bQ ov,dO,dH,ee,ec,aKK,lh]))
  obtain⟨pO,jt⟩:=mX [.ag 132 2 [[.int .i64 a.cB,.int .i64 a.time]],.ag 76 3 [[.int .i64 ah,hy X im ah false,.own (X ah true) ((im ah true).length+1) 0 ((im ah true).length+1)]],.ag 132 2 [[.int .i64 a.cB,.int .i64 a.time]]] (by
   simp only[aKV,aNf,aNt,aN9,aOa,jc,mj,gx,dt,vP _ (aNs _ _),HL _ (aNs _ _),aK8,aLQ,aK0,aLw,aKN,aMh,aMi]
   all_goals (have:=h.lt ah true an;omega))
  exact⟨⟨c+1,by omega,rfl,hF.trans pO,by rw[dV];exact jt⟩,by omega⟩
end Go.Proofs.YtpincjkjoeopkaaGreatDoor
