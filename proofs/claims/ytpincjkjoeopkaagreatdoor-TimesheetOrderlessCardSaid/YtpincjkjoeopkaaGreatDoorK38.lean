/- Time evaluation. -/
import Derived.Test.YtpincjkjoeopkaaGreatDoorK35
import Derived.Test.YtpincjkjoeopkaaGreatDoorK37
import Derived.Test.YtpincjkjoeopkaaGreatDoorK28
set_option linter.unusedSimpArgs false
set_option linter.unusedVariables false
set_option linter.unusedSectionVars false
namespace Go.Proofs.YtpincjkjoeopkaaGreatDoor
open Go Go.Abs Go.Proofs.Tryz
structure vz where
 ab:Int
 gp:List Pr.bs
instance:aG vz:=⟨fun a=> [.int .i64 a.ab,.pure 2 (ac a.gp)],2,fun _=>rfl,fun a=>by simp only[bP,bE,cw,Bool.and_self,Bool.and_true,Bool.true_and],fun _=>rfl⟩
theorem aAF:aG.N vz=2:=rfl
theorem aAG (e:vz):List.take 2 (aG.F e)=aG.F e:=rfl
attribute [go_sem] aAF aAG
open Classical in
noncomputable def Li (l:List Ib.Ev)(n:Int):List Ib.Stamp:=if h: ∃ S:List Ib.Stamp,S.Perm (Ib.BN (Ib.jS l n))∧S.Pairwise Ib.mB then Classical.choose h else []
theorem aAH {l:List Ib.Ev}{n:Int}{S:List Ib.Stamp}(h1:S.Perm (Ib.BN (Ib.jS l n)))(B:S.Pairwise Ib.mB):S=Li l n:=by
 have h: ∃ S:List Ib.Stamp,S.Perm (Ib.BN (Ib.jS l n))∧S.Pairwise Ib.mB:=⟨S,h1,B⟩;unfold Li;rw[dif_pos h];exact Ib.aAI (h1.trans (Classical.choose_spec h).1.symm) B (Classical.choose_spec h).2
def afc (E:Ib.Stamp):Pr.Stamp:=⟨E.time,E.cH,E.da,E.M⟩
theorem aAJ (S:List Ib.Stamp):ac (S.map afc)=ac S:=by
 unfold ac;rw[List.map_map];rfl
noncomputable def kE (l:List Ib.Ev)(n:Int):List Pr.Stamp:=(Li l n).map afc
def zx (i:er)(Y:List cp)(o:eL):Int:=Pr.pV i.dB (qJ i.D Y o) o.O
def zy (i:er)(Y:List cp)(o:eL):List Pr.bs:=Pr.oh i.dB (qJ i.D Y o) o.O
def Ld (i:er)(Y:List cp)(bq:List vz×List Pr.bs)(o:eL):List vz×List Pr.bs:=
 if (ox (zy i Y o) bq.2 []).length=0 then bq else (bq.1++ [⟨o.ab,ox (zy i Y o) bq.2 []⟩],Ea bq.2 (ox (zy i Y o) bq.2 []))
def mw (i:er)(Y:List cp)(ds:List eL):List vz×List Pr.bs:=ds.foldl (Ld i Y) ([],[])
theorem Zo {i:er}{Y:List cp}{ds:List eL}{c:Nat}(h:c < ds.length):mw i Y (ds.take (c+1))=Ld i Y (mw i Y (ds.take c)) ds[c]:=by
 unfold mw;rw[List.take_succ_eq_append_getElem h,List.foldl_append];rfl
def zz (i:er)(Y:List cp):List eL→Int
 | []=>0
 |o::t=>if zx i Y o=0 then zz i Y t else zx i Y o
theorem aAK {i:er}{Y:List cp}{ds:List eL}{c:Nat}(h:c < ds.length):zz i Y (ds.drop c)=if zx i Y ds[c]=0 then zz i Y (ds.drop (c+1)) else zx i Y ds[c]:=by
 rw[List.drop_eq_getElem_cons h,zz]
noncomputable def sV (i:er)(Y:List cp)(l:List Ib.Ev)(n:Int):List eL:=mq i.D Y i.ee i.ek (Pr.ng (kE l n) i.fm)
noncomputable def qO (i:er)(Y:List cp)(l:List Ib.Ev)(n:Int):Int:=if qd i≠0 then qd i else if iN i.D Y≠0 then iN i.D Y else if Ib.cD l≠0 then Ib.cD l else if Pr.kF (kE l n) i.fm≠0 then Pr.kF (kE l n) i.fm else zz i Y (sV i Y l n)
theorem Le {i:er}(h:qd i=0):eR i.D=0∧ ¬qP i∧Pr.lK i.dB=0∧Ib.mu i.hI=0∧Pm.un i.D i.ak i.af=0:=by
 unfold qd at h;split at h
 ·omega
 split at h
 ·omega
 split at h
 ·omega
 split at h
 ·omega
 exact⟨by omega,by assumption,by omega,by omega,h⟩
theorem aAL (i:er){d:List R}{a:List (Option Nat)}{b:List Nat}:lD d a b [i.F]= [i.F]:=by
 rw[JC];simp only[List.map_cons,List.map_nil,pN _ i.fU]
set_option maxHeartbeats 4000000 in
theorem avk (i:er)(hh:i.ak.length≤1000000)(aR:i.af.length≤1000000)(Y:List cp)(gm:Y.length≤1000000)(l:List Ib.Ev)(hl:l.length≤1000000)(n:Int):
 aK prog 20 [.agg i.F,.pure 3 (ac Y),.pure 7 (ac l),.int .i64 n] []
  (fun v rs=>(if qO i Y l n=0 then v= .bg [.pure 2 (ac (mw i Y (sV i Y l n)).1),.pure 2 (ac (Pr.sW (kE l n) i.fm)),.int .i64 0] else v= .bg [.bD,.bD,.int .i64 (qO i Y l n)])∧rs= []):=by
 have bI:=aAE i hh aR;have ca:=asC i.D Y (by omega);have fc:=Ib.aAM l (by omega) n;unfold bZ.v at ca;refine hr func20 aaU (by simp[Eg,zA]) ?_;unfold er.F at *;simp only[go_sem,Eg,zA]
 (repeat (first| (refine s.U ?_;simp only[go_sem])|simp only[go_sem]))
 refine bH bI (by simp only[bP,bE,cw,Bool.and_self,Bool.and_true]) rfl ?_;unfold qO
 by_cases h1:qd i=0
 rotate_left
 ·have q1: (qd i != 0)=true:=by simp[h1]
  (repeat (first| (refine s.U ?_;simp only[go_sem,q1])|simp only[go_sem,q1]))
  exact s.bb rfl ⟨by rw[if_pos h1,if_neg h1],rfl⟩
 have q1: (qd i != 0)=false:=by simp[h1]
 rw[if_neg (show ¬qd i≠0 by omega)]
 (repeat (first| (refine s.U ?_;simp only[go_sem,q1])|simp only[go_sem,q1]))
 refine bH ca (by simp only[bP,bE,cw,Bool.and_self,Bool.and_true]) rfl ?_
 by_cases B:iN i.D Y=0
 rotate_left
 ·have eF: (iN i.D Y != 0)=true:=by simp[B]
  (repeat (first| (refine s.U ?_;simp only[go_sem,eF])|simp only[go_sem,eF]))
  exact s.bb rfl ⟨by rw[if_pos B,if_neg B],rfl⟩
 have eF: (iN i.D Y != 0)=false:=by simp[B]
 rw[if_neg (show ¬iN i.D Y≠0 by omega)]
 (repeat (first| (refine s.U ?_;simp only[go_sem,eF])|simp only[go_sem,eF]))
 refine oW [] [] (by simp) rfl (pN _ (by simp only[bP,bE,cw,Bool.and_self,Bool.and_true])) fc ?_;rintro v rs (⟨am,rfl,rfl⟩|⟨am,S,Me,aAN,rfl,rfl⟩)
 ·refine⟨.inl rfl,?_⟩;have ev: (Ib.cD l != 0)=true:=by simp[am]
  (repeat (first| (refine s.U ?_;simp only[go_sem,ev])|simp only[go_sem,ev]))
  exact s.bb rfl ⟨by rw[if_pos am,if_neg am],rfl⟩
 refine⟨.inl rfl,?_⟩;rw[if_neg (show ¬Ib.cD l≠0 by omega)];have afd:=aAH Me aAN;have yX:ac S=ac (kE l n):=by unfold kE;rw[aAJ,afd]
 have aAO:S.length=(kE l n).length:=by unfold kE;rw[List.length_map,afd]
 simp only[go_sem];rw[yX,aAO];have aID: (kE l n).length≤1000000:=by
  have bp: (Ib.BN (Ib.jS l n)).length≤(Ib.jS l n).length:=List.length_filterMap_le _ _;have cn:=Ib.afe l n;have dj:=Me.length_eq;omega
 unfold sV;generalize kE l n=aP at *;obtain⟨_,yT,aAP,_,_⟩:=Le h1;have aff: (1≤i.fm∧i.fm≤10080)∧(0≤i.ee∧i.ee≤1440)∧0≤i.ek∧i.ek≤1440:=by unfold qP at yT;omega
 have aAQ: ∀ r0:R,bU [r0,.aa 177 4 (ac aP)] [some 0] [1] (.own 1 aP.length 0 aP.length)= .pure 4 (ac aP):=fun r0=>pO rfl rfl rfl (by rw[bO]) cw;have QE:ew [R.aa 42 14 [i.F],R.aa 177 4 (ac aP)] [1] [some 0] [some 0]=some [.aa 42 14 [i.F]]:=by
  simp only[ew,ho,aAL i];rfl
 refine s.kc [some 0] [1] rfl rfl QE ?_;simp only[List.map_cons,List.map_nil,aAQ,sz (.pure 3 (ac Y)) (by simp only[bE,cw])];unfold er.F;simp only[go_sem];have hi:=Pr.aAR aP i.fm (by omega)
 (repeat (first| (refine s.U ?_;simp only[go_sem])|simp only[go_sem]))
 refine bH hi (by simp only[bP,bE,cw,Bool.and_self,Bool.and_true]) (by simp only[bP,bE,cw,Bool.and_self,Bool.and_true]) ?_
 by_cases bp:Pr.kF aP i.fm=0
 rotate_left
 ·have iE: (Pr.kF aP i.fm != 0)=true:=by simp[bp]
  (repeat (first| (refine s.U ?_;simp only[go_sem,iE])|simp only[go_sem,iE]))
  exact s.bb rfl ⟨by rw[if_pos bp,if_neg bp],rfl⟩
 have iE: (Pr.kF aP i.fm != 0)=false:=by simp[bp]
 rw[if_neg (show ¬Pr.kF aP i.fm≠0 by omega)];have G9:aP.length≤1024∧Pr.qe 0 aP=true:=by
  have:=bp;unfold Pr.kF at this;split at this
  ·omega
  split at this
  ·omega
  split at this
  ·exact⟨by omega,by assumption⟩
  ·omega
 obtain⟨_,GS,_,Dm⟩:=Pr.Zq (aU:=aP) (n:=i.fm) G9.2 G9.1 (by omega) (by omega);have jr:=aul i.D Y B (Pr.ng aP i.fm) GS i.ee i.ek aff.2.1 aff.2.2;unfold bZ.v at jr
 (repeat (first| (refine s.U ?_;simp only[go_sem,iE])|simp only[go_sem,iE]))
 refine bH jr (by simp only[bP,bE,cw,Bool.and_self,Bool.and_true]) (by simp only[bP,bE,cw,Bool.and_self,Bool.and_true]) ?_
 (repeat (first| (refine s.U ?_;simp only[go_sem,bO])|simp only[go_sem,bO]))
 obtain⟨Ko,_⟩:=GR (D:=i.D) (Y:=Y) (e:=i.ee) (l:=i.ek) (O:=Pr.ng aP i.fm) (c:=(Pr.ng aP i.fm).length) (Nat.le_refl _);have Rn:=auS (D:=i.D) (Y:=Y) (e:=i.ee) (l:=i.ek) GS;rw[List.take_length] at Ko;generalize Pr.sW aP i.fm=A at *;generalize mq i.D Y i.ee i.ek (Pr.ng aP i.fm)=ds at *;generalize (Pr.ng aP i.fm).length=aIE at *;refine gY (fun r d=> ∃ c:Nat,c≤ds.length∧zz i Y ds=zz i Y (ds.drop c)∧Pr.cV 0 120968640 (mw i Y (ds.take c)).2=true∧(mw i Y (ds.take c)).1.length≤c∧r= [(1,.pure 3 (ac Y)),(4,.aW 0 1 0 0),(16,.pure 2 (ac A)),(18,.own 1 (mw i Y (ds.take c)).1.length 0 (mw i Y (ds.take c)).1.length),(19,.own 2 (mw i Y (ds.take c)).2.length 0 (mw i Y (ds.take c)).2.length),(71,.pure 3 (ac ds)),(72,.int .i64 ds.length),(73,.int .i64 c)]∧d= [.aa 42 14 [i.F],.aa 62 2 (ac (mw i Y (ds.take c)).1),.aa 64 2 (ac (mw i Y (ds.take c)).2)])
  (fun r _=>match bn r 73 with| .int _ j=>(ds.length-j).toNat|_=>0) ?_ ?_
 ·(refine s.iI 18 62 2 rfl (s.eW [1,4,16,18,19,71,72,73] ?_);simp only[go_sem])
  (refine s.iI 19 64 2 rfl (s.eW [1,4,16,18,19,71,72,73] ?_);simp only[go_sem])
  exact s.U ⟨0,by omega,rfl,rfl,by simp[mw],rfl,rfl⟩
 rintro r d ⟨c,an,eD,gU,Lg,rfl,rfl⟩;have fC:=dr (c:=c) (by omega);unfold er.F
 by_cases aC:c < ds.length
 rotate_left
 ·have h1:decide ((c:Int) < ds.length)=false:=decide_eq_false (by omega);obtain rfl:c=ds.length:=by omega
  rw[List.take_length,List.drop_length,zz] at *;simp only[go_sem,Eg,zA]
  (repeat (first| (refine s.U ?_;simp only[go_sem,h1])|simp only[go_sem,h1]))
  simp only[if_pos eD];generalize (mw i Y ds).1=W at *;have mZ: ∀ r0 cO:R,bU [r0,.aa 62 2 (ac W),cO] [] [1] (.bg [.own 1 W.length 0 W.length,.pure 2 (ac A),.int .i64 0])= .bg [.pure 2 (ac W),.pure 2 (ac A),.int .i64 0]:=fun r0 cO=>by
   have:bU [r0,.aa 62 2 (ac W),cO] [] [1] (.own 1 W.length 0 W.length)= .pure 2 (ac W):=pO rfl rfl rfl (by rw[bO]) cw;rw[bU];simp only[dV,this,sz (.pure 2 (ac A)) (by simp only[bE,cw])];rfl
  refine s.kc [] [1] rfl rfl (by simp only[go_sem]<;>rfl) ?_;simp only[List.map_cons,List.map_nil,mZ];exact s.bb rfl ⟨rfl,rfl⟩
 have h1:decide ((c:Int) < ds.length)=true:=decide_eq_true (by omega);have sO: (0:Int)≤c:=by omega
 have sP: (c:Int) < ds.length:=by omega
 have na: (ac ds).getD c []=aG.F ds[c]:=cQ aC;obtain⟨dL,ck⟩:=Rn ds[c] (List.getElem_mem aC);have dQ:=Zo (i:=i) (Y:=Y) aC;rw[aAK aC] at eD;generalize ds[c]=o at *;have js:=atC i aAP Y B o ck dL;unfold er.F at js;have aAS:Pr.pV i.dB (qJ i.D Y o) o.O=zx i Y o:=rfl;have aAT:Pr.oh i.dB (qJ i.D Y o) o.O=zy i Y o:=rfl;rw[aAS,aAT] at js;have mi:zx i Y o=0→Pr.cV 0 120968640 (zy i Y o)=true∧(zy i Y o).length≤100000:=auU;simp only[go_sem,Eg,zA]
 (repeat (first| (refine s.U ?_;simp only[go_sem,h1,sO,sP,na,bO,Qh])|simp only[go_sem,h1,sO,sP,na,bO,Qh]))
 by_cases dj:zx i Y o=0
 ·rw[dj,if_pos rfl] at js;rw[if_pos dj] at eD;refine bH js (by simp only[bP,bE,cw,Bool.and_self,Bool.and_true]) (by simp only[bP,bE,cw,Bool.and_self,Bool.and_true]) ?_;obtain⟨RO,rP⟩:=mi dj;generalize ce:mw i Y (ds.take c)=bq at *;obtain⟨W,tk⟩:=bq;simp only at gU Lg;unfold Ld at dQ;simp only at dQ;obtain⟨az,bF,bJ,it⟩:=aaL (acc:= []) RO gU;rw[List.nil_append] at bF;have mX:=RG bJ (by omega);have aAU:=RG gU (by omega);have Mf:=axF (zy i Y o) tk (by omega) (by omega) (by rw[bF];omega);rw[bF] at Mf dQ;generalize zy i Y o=w at *
  (repeat (first| (refine s.U ?_;simp only[go_sem])|simp only[go_sem]))
  refine oW [2] [] (by decide) (by simp only[go_sem]<;>rfl) (by simp only[go_sem,cw]<;>rfl) Mf ?_;rintro _ _ ⟨rfl,rfl⟩;refine⟨.inl rfl,?_⟩;simp only[go_sem,cw]
  by_cases ua:az.length=0
  ·rw[if_pos ua] at dQ;have HC: ((az.length:Int)==0)=true:=by simp[ua]
   (repeat (first| (refine s.U ?_;show ey _ _ _ _ _ _;simp only[go_sem,bO,HC,fC])|simp only[go_sem,bO,HC,fC]))
   (refine s.bw [some 0,some 1,some 2] ?_;simp only[go_sem])
   refine s.U ⟨⟨c+1,by omega,eD,by rw[dQ];exact gU,by rw[dQ];exact Nat.le_trans Lg (by omega),by rw[dQ]<;>rfl,by rw[dQ]<;>rfl⟩,?_⟩;simp only[go_sem];omega
  ·rw[if_neg ua] at dQ;have HC: ((az.length:Int)==0)=false:=beq_eq_false_iff_ne.2 (by omega)
   (repeat (first| (refine s.U ?_;simp only[go_sem,bO,HC,fC])|simp only[go_sem,bO,HC,fC]))
   refine⟨by omega,?_⟩;have pT:ac W++ [[.int .i64 o.ab,.pure 2 (ac az)]]=ac (W++ [⟨o.ab,az⟩]):=kz (x:=vz.mk o.ab az);rw[pT]
   (refine s.bw [some 0,some 1,some 2,some 4] ?_;simp only[go_sem])
   (repeat (first| (refine s.U ?_;simp only[go_sem,bO,fC])|simp only[go_sem,bO,fC]))
   refine⟨by omega,?_⟩
   (repeat (first| (refine s.U ?_;simp only[go_sem])|simp only[go_sem]))
   have fd: (tk++az).length=tk.length+az.length:=List.length_append;have HD:=axz (tk++az) (by omega);rw[fd] at HD;refine oW [2] [] (by decide) (by simp only[go_sem]<;>rfl) (by simp only[go_sem,cw]<;>rfl) HD ?_;rintro _ _ ⟨rfl,bX,ae,ak,rfl⟩;refine⟨.inl rfl,?_⟩;obtain⟨qg,Ln⟩:=awE gU bJ it;obtain rfl:=Ln bX ae ak;have xW: (Ea tk az).length=tk.length+az.length:=by rw[(RA tk az).length_eq,fd]
   have afg: (W++ [(⟨o.ab,az⟩:vz)]).length=W.length+1:=by simp
   simp only[go_sem]
   (refine s.bw [some 0,some 1,some 2] ?_;simp only[go_sem])
   (repeat (first| (refine s.U ?_;show ey _ _ _ _ _ _;simp only[go_sem,fC])|simp only[go_sem,fC]))
   refine s.U ⟨⟨c+1,by omega,eD,by rw[dQ];exact qg,by rw[dQ];simp only[afg];omega,by rw[dQ];simp only[afg,xW],by rw[dQ]<;>rfl⟩,?_⟩;simp only[go_sem];omega
 ·rw[if_neg dj] at js;rw[if_neg dj] at eD;refine bH js (by simp only[bP,bE,cw,Bool.and_self,Bool.and_true]) rfl ?_;have jT: (zx i Y o != 0)=true:=by simp[dj]
  (repeat (first| (refine s.U ?_;simp only[go_sem,jT])|simp only[go_sem,jT]))
  exact s.bb rfl ⟨by rw[eD,if_neg dj],rfl⟩
def Q9 (v:Pr.bs):Ib.bs:=⟨v.J,v.T⟩
def Zb (w:vz):Ib.eP:=⟨w.ab,w.gp.map Q9⟩
theorem auY (l:List Pr.bs):ac (l.map Q9)=ac l:=by unfold ac;rw[List.map_map];rfl
theorem auZ (l:List vz):ac (l.map Zb)=ac l:=by
 unfold ac;rw[List.map_map];refine List.map_congr_left fun w _=> ?_;show [z.int .i64 w.ab,.pure 2 (ac (w.gp.map Q9))]= [.int .i64 w.ab,.pure 2 (ac w.gp)];rw[auY]
def sT (p:Ib.cx):Pm.cx:=⟨p.ab,p.J,p.T,p.ep⟩
theorem ava (l:List Ib.cx):ac (l.map sT)=ac l:=by unfold ac;rw[List.map_map];rfl
open Classical in
noncomputable def zf (af:List Ib.eP):List Ib.fS:=if h: ∃ S:List Ib.fS,S.Perm (Ib.gK af)∧Ib.rO S then Classical.choose h else []
theorem Zc {af:List Ib.eP}(cY:Ib.ej af=0){S:List Ib.fS}(h1:S.Perm (Ib.gK af))(B:Ib.rO S):S=zf af:=by
 have h: ∃ S:List Ib.fS,S.Perm (Ib.gK af)∧Ib.rO S:=⟨S,h1,B⟩;unfold zf;rw[dif_pos h];obtain⟨bI,ca⟩:=Classical.choose_spec h;refine (h1.trans bI.symm).eq_of_pairwise (fun a b aw Z am bp=> ?_) B ca;have ag:=(Ib.G7 (Ib.G8 cY).2.2.1 a (h1.mem_iff.1 aw)).1;have aR:=(Ib.G7 (Ib.G8 cY).2.2.1 b (bI.mem_iff.1 Z)).1;unfold Ib.ik at ag aR;omega
noncomputable def By (az:Ib.hJ)(af:List Ib.eP):List Ib.cx:=(Ib.run az (Ib.ki (zf af))).O
theorem avb (az:Ib.hJ)(cU:Ib.mu az=0)(af:List Ib.eP)(hl:af.length≤1000000):aK prog 41 [az.v,.pure 2 (ac af)] []
 (fun v rs=>(if Ib.ej af=0 then v= .bg [.pure 4 (ac (By az af)),.int .i64 0] else v= .bg [.bD,.int .i64 (Ib.ej af)])∧rs= []):=by
 refine aK.fU ((Ib.avc az af (by omega)).mono ?_);rintro v rs (⟨h,_⟩|⟨_,h,rfl,rfl⟩|⟨_,h,S,h1,B,rfl,rfl⟩)
 ·exact absurd cU h
 ·exact s.U ⟨by rw[if_neg h];rfl,rfl⟩
 ·have e:Ib.run az (Ib.ki S)=Ib.run az (Ib.ki (zf af)):=by rw[Zc h h1 B]
  have bJ: (Ib.run az (Ib.ki S)).O=By az af:=by rw[e];rfl
  rw[bJ];generalize By az af=q;have mZ:bU [.aa 221 4 (ac q)] [] [0] (.bg [.own 0 q.length 0 q.length,.int .i64 0])= .bg [.pure 4 (ac q),.int .i64 0]:=by
   have:bU [.aa 221 4 (ac q)] [] [0] (.own 0 q.length 0 q.length)= .pure 4 (ac q):=pO rfl rfl rfl (by rw[bO]) cw;rw[bU];simp only[dV,this];rfl
  refine s.kc [] [0] rfl rfl (by simp only[go_sem]<;>rfl) ?_;simp only[List.map_cons,List.map_nil,mZ];exact s.U ⟨by rw[if_pos h];rfl,rfl⟩
theorem avd (D:bZ)(h:List Pm.cP)(hl:h.length≤1000000)(af:List Pm.dF)(rP:af.length≤1000000)(O:List Pm.cx)(gm:O.length≤1000000):aK prog 42 [D.v,.pure 6 (ac h),.pure 7 (ac af),.pure 4 (ac O)] []
 (fun v rs=>(if Pm.ug D h af O=0 then v= .bg [.pure 3 (ac (Pm.sU D h af O)),.int .i64 0] else v= .bg [.bD,.int .i64 (Pm.ug D h af O)])∧rs= []):=by
 refine aK.fU ((Pm.ave D h (by omega) af rP O gm).mono ?_);intro v rs aQ
 by_cases cY:Pm.ug D h af O=0
 ·rw[if_pos cY] at aQ;obtain⟨rfl,rfl⟩:=aQ;generalize Pm.sU D h af O=q;have mZ:bU [.aa 136 3 (ac q)] [] [0] (.bg [.own 0 q.length 0 q.length,.int .i64 0])= .bg [.pure 3 (ac q),.int .i64 0]:=by
   have:bU [.aa 136 3 (ac q)] [] [0] (.own 0 q.length 0 q.length)= .pure 3 (ac q):=pO rfl rfl rfl (by rw[bO]) cw;rw[bU];simp only[dV,this];rfl
  refine s.kc [] [0] rfl rfl (by simp only[go_sem]<;>rfl) ?_;simp only[List.map_cons,List.map_nil,mZ];exact s.U ⟨by rw[if_pos cY];rfl,rfl⟩
 ·rw[if_neg cY] at aQ;obtain⟨rfl,rfl⟩:=aQ;exact s.U ⟨by rw[if_neg cY];rfl,rfl⟩
theorem Zd {b:ByteArray}{m:Int}: ∀ {acc:List Ib.iQ},(Ib.gi b m acc).length≤acc.length+1
 | []=>Nat.le_refl _
 |t::fa=>by
  have:=Zd (b:=b) (m:=m) (acc:=fa);unfold Ib.gi;split
  ·simp
  ·simpa using this
def pj (o:Int)(p:Ib.cx):Bool:=decide (p.ab=o)
theorem Ze (o:Int): ∀ (q:List Ib.cx) (acc:List Ib.iQ),(q.foldl (Ib.jk o) acc).length≤acc.length+(q.filter (pj o)).length
 | [],acc=>by simp
 |p::q,acc=>by
  rw[List.foldl_cons];have ih:=Ze o q (Ib.jk o acc p)
  by_cases ae:p.ab=o
  ·rw[List.filter_cons_of_pos (by simp[pj,ae]),List.length_cons];have: (Ib.jk o acc p).length≤acc.length+1:=by
    unfold Ib.jk;split
    ·exact Zd
    ·omega
   omega
  ·rw[List.filter_cons_of_neg (by simp[pj,ae])];have:Ib.jk o acc p=acc:=by
    unfold Ib.jk;rw[if_neg (fun h=>ae h.1)]
   rw[this] at ih ⊢;exact ih
theorem Zf (l:List Ib.cx)(o:Int): (Ib.pf l o).length≤(l.filter (pj o)).length:=by
 unfold Ib.pf;have h1:=Ze o (l.take 4096) [];have B:=((List.take_sublist 4096 l).filter (pj o)).length_le;simp only[List.length_nil,Nat.zero_add] at h1;omega
theorem Zg (o:Int): ∀ l:List Ib.cx,l.length=(l.filter (pj o)).length+(l.filter fun p=> !pj o p).length
 | []=>rfl
 |p::l=>by
  have ih:=Zg o l
  by_cases ae:pj o p=true
  ·rw[List.filter_cons_of_pos ae,List.filter_cons_of_neg (by simp[ae]),List.length_cons,List.length_cons];omega
  ·rw[List.filter_cons_of_neg ae,List.filter_cons_of_pos (by simpa using ae),List.length_cons,List.length_cons];omega
theorem Zh: ∀ {ax:List Int} {l:List Ib.cx},ax.Nodup→(ax.map fun o=>(l.filter (pj o)).length).sum≤l.length
 | [],l,_=>by simp
 |o::ax,l,h=>by
  rw[List.nodup_cons] at h;have ih:=Zh (ax:=ax) (l:=l.filter fun p=> !pj o p) h.2;have e: (ax.map fun e=>(l.filter (pj e)).length)=ax.map fun e=>((l.filter fun p=> !pj o p).filter (pj e)).length:=List.map_congr_left fun e he=>by
   rw[List.filter_filter];congr 1;refine List.filter_congr fun p _=> ?_;unfold pj
   by_cases ae:p.ab=e
   ·have: ¬e=o:=fun x=>h.1 (x▸he);simp[ae,this]
   ·simp[ae]
  have hl:=Zg o l;rw[List.map_cons,List.sum_cons,e];omega
theorem Zi {O:List Ib.cx}{ax:List Int}(h:ax.Nodup): (ji O ax).length≤O.length:=by
 refine Nat.le_trans ?_ (Zh (ax:=ax) (l:=O) h);unfold ji;rw[List.length_flatMap];clear h
 induction ax with
 |nil=>simp
 |cons o ax ih=>
  rw[List.map_cons,List.map_cons,List.sum_cons,List.sum_cons];have: (iP O o).length≤(O.filter (pj o)).length:=by unfold iP;rw[List.length_map];exact Zf O o
  omega
theorem Zj {D:bZ}{h:List Pm.cP}{af:List Pm.dF}{O:List Pm.cx}{o:Int}: ∀ {n:Nat},(Pm.nG D h af O o n).length≤n
 |0=>Nat.le_refl _
 |n+1=>by
  have:=Zj (D:=D) (h:=h) (af:=af) (O:=O) (o:=o) (n:=n);unfold Pm.nG;rw[List.length_append];split<;>simp<;>omega
theorem Zk {O:List Pm.cx}: ∀ {c:Nat},c≤O.length→(Pm.gj (O.take c)).length≤c
 |0,_=>by simp[Pm.gj]
 |c+1,h=>by
  have:=Zk (O:=O) (c:=c) (by omega);rw[Pm.Zl (by omega)];unfold Pm.ea;split
  ·omega
  ·simp;omega
theorem Zm {D:bZ}{h:List Pm.cP}{af:List Pm.dF}{O:List Pm.cx}(aR:af.length≤16): (Pm.sU D h af O).length≤16*O.length:=by
 unfold Pm.sU;have h1:=Zk (O:=O) (c:=O.length) (Nat.le_refl _);rw[List.take_length] at h1;have B: (fh (Pm.gj O)).length≤O.length:=by rw[yO];exact h1
 refine Nat.le_trans ?_ (Nat.mul_le_mul_left 16 B);rw[List.length_flatMap];generalize fh (Pm.gj O)=fb;clear h1 B
 induction fb with
 |nil=>simp
 |cons o fb ih=>
  rw[List.map_cons,List.sum_cons,List.length_cons];have:=Zj (D:=D) (h:=h) (af:=af) (O:=O) (o:=o) (n:=af.length);omega
theorem Zn {i:er}{Y:List cp}{ds:List eL}: ∀ {c:Nat},c≤ds.length→(mw i Y (ds.take c)).1.length≤c
 |0,_=>by simp[mw]
 |c+1,h=>by
  have:=Zn (i:=i) (Y:=Y) (ds:=ds) (c:=c) (by omega);rw[Zo (by omega)];unfold Ld;split
  ·omega
  ·rw[List.length_append,List.length_singleton];omega
theorem Zp {i:er}{Y:List cp}{l:List Ib.Ev}{n:Int}(h:qO i Y l n=0):qd i=0∧iN i.D Y=0∧Ib.cD l=0∧(mw i Y (sV i Y l n)).1.length≤1024∧(Pr.sW (kE l n) i.fm).length≤1024:=by
 unfold qO at h;split at h
 ·omega
 split at h
 ·omega
 split at h
 ·omega
 split at h
 ·omega
 rename_i h1 B am bp;obtain⟨_,yT,_,_,_⟩:=Le (show qd i=0 by omega);have ae:Pr.kF (kE l n) i.fm=0:=by omega
 have G9: (kE l n).length≤1024∧Pr.qe 0 (kE l n)=true:=by
  have:=ae;unfold Pr.kF at this;split at this
  ·omega
  split at this
  ·omega
  split at this
  ·exact⟨by omega,by assumption⟩
  ·omega
 obtain⟨_,GS,_,Dm⟩:=Pr.Zq (aU:=kE l n) (n:=i.fm) G9.2 G9.1 (by unfold qP at yT;omega) (by unfold qP at yT;omega);have aq:=(GR (D:=i.D) (Y:=Y) (e:=i.ee) (l:=i.ek) (O:=Pr.ng (kE l n) i.fm) (c:=(Pr.ng (kE l n) i.fm).length) (Nat.le_refl _)).1;rw[List.take_length] at aq;have rP:=Zn (i:=i) (Y:=Y) (ds:=sV i Y l n) (c:=(sV i Y l n).length) (Nat.le_refl _);rw[List.take_length] at rP;have he:sV i Y l n=mq i.D Y i.ee i.ek (Pr.ng (kE l n) i.fm):=rfl;rw[he] at rP ⊢;exact⟨by omega,by omega,by omega,by omega,by omega⟩
noncomputable def oo (i:er)(Y:List cp)(l:List Ib.Ev)(n:Int):List Ib.eP:=(mw i Y (sV i Y l n)).1.map Zb
noncomputable def fK (i:er)(Y:List cp)(l:List Ib.Ev)(n:Int):List Ib.cx:=By i.hI (oo i Y l n)
noncomputable def kX (i:er)(Y:List cp)(l:List Ib.Ev)(n:Int):List Pm.Pm:=Pm.sU i.D i.ak i.af ((fK i Y l n).map sT)
noncomputable def qQ (i:er)(Y:List cp)(l:List Ib.Ev)(n:Int):Int:=if qO i Y l n≠0 then qO i Y l n else if Ib.ej (oo i Y l n)≠0 then Ib.ej (oo i Y l n) else Pm.ug i.D i.ak i.af ((fK i Y l n).map sT)
noncomputable def pk (i:er)(Y:List cp)(l:List Ib.Ev)(ai:List eS)(n J T:Int)(ax:List Int)(K:List cm):List Int×(Int→Bool→List (List z)):=
 kC i.D J T (eJ J T ([],fun _ _=> []) (ji (fK i Y l n) ax++jR (kX i Y l n)++qR (dS Y n ai) K)) (Pr.sW (kE l n) i.fm)
theorem Zr {J T:Int}: ∀ (aU:List (Int×List z)) (bq:List Int×(Int→Bool→List (List z))),(eJ J T bq aU).1.length≤bq.1.length+aU.length
 | [],bq=>Nat.le_refl _
 |x::aU,bq=>by
  have h:=Zr (J:=J) (T:=T) aU (nb J T bq x);have e:eJ J T bq (x::aU)=eJ J T (nb J T bq x) aU:=rfl;have B: (nb J T bq x).1.length≤bq.1.length+1:=by
   unfold nb;split
   ·simp only;unfold ea;split<;>simp
   ·omega
  rw[e,List.length_cons];omega
theorem Zs {D:bZ}{J T:Int}: ∀ (aU:List Pr.jQ) (bq:List Int×(Int→Bool→List (List z))),(kC D J T bq aU).1.length≤bq.1.length+aU.length
 | [],bq=>Nat.le_refl _
 |x::aU,bq=>by
  have h:=Zs (D:=D) (J:=J) (T:=T) aU (pX D J T bq x);have e:kC D J T bq (x::aU)=kC D J T (pX D J T bq x) aU:=rfl;have B: (pX D J T bq x).1.length≤bq.1.length+1:=by
   unfold pX;split
   ·simp only;unfold ea;split<;>simp
   ·omega
  rw[e,List.length_cons];omega
theorem avg {af:List Ib.eP}(cY:Ib.ej af=0): (zf af).Perm (Ib.gK af)∧Ib.rO (zf af):=by
 obtain⟨_,_,mx,avh,_⟩:=Ib.G8 cY;have pW:=Ib.G7 mx;have ae: ((Ib.gK af).mergeSort fun x y=>decide (x.J≤y.J)).Perm (Ib.gK af):=List.mergeSort_perm _ _;have ak:=List.pairwise_mergeSort (le:=fun x y:Ib.fS=>decide (x.J≤y.J)) (fun a b F h1 B=>by simp only[decide_eq_true_eq] at *;omega) (fun a b=>by simp only[Bool.or_eq_true,decide_eq_true_eq];omega) (Ib.gK af);generalize (Ib.gK af).mergeSort (fun x y=>decide (x.J≤y.J))=S at *;have aq:S.Pairwise Ib.oq:=(ae.pairwise_iff (fun h=>Or.symm h)).2 avh;have aw:Ib.rO S:=(ak.and aq).imp_of_mem fun {x y} ad bl h=>by
  have a:=(pW x (ae.mem_iff.1 ad)).1;have b:=(pW y (ae.mem_iff.1 bl)).1;have h1:=h.1;have B:=h.2;simp only[decide_eq_true_eq] at h1;unfold Ib.oq at B;unfold Ib.ik at a b;omega
 rw[←Zc cY ae aw];exact⟨ae,aw⟩
theorem Ha {a b:List Ib.fS}(h:a.Perm b):Ib.hg a=Ib.hg b:=by
 induction h with
 |nil=>rfl
 |cons x _ ih=>rw[Ib.hg,Ib.hg,ih]
 |swap x y l=>simp only[Ib.hg];omega
 |trans _ _ Fs Cs=>rw[Fs,Cs]
theorem avi {az:Ib.hJ}{af:List Ib.eP}(cY:Ib.ej af=0): (By az af).length≤100000:=by
 obtain⟨h1,B⟩:=avg cY;obtain⟨_,_,mx,_,aIl⟩:=Ib.G8 cY;have am:=(Ib.Zt az (Ib.ki (zf af))).2.2;have bp:=Ib.Ra (S:=zf af) fun E ak=>(Ib.G7 mx E (h1.mem_iff.1 ak)).1;rw[Ha h1] at bp;unfold By;omega
set_option maxHeartbeats 4000000 in
theorem avj (i:er)(hh:i.ak.length≤1000000)(aR:i.af.length≤1000000)(Y:List cp)(gm:Y.length≤1000000)(l:List Ib.Ev)(hl:l.length≤1000000)(ai:List eS)
 (hV: ∀ a∈ai,aK prog 40 [.agg (aG.F a)] [] (fun v rs=>v= .bool true∧rs= [])) (ar: ∀ a∈ai,Be a) (je: ∀ a∈ai,(Lit.int .i64 a.ab).wf=true∧a.name.size≤maxLen) (n J T:Int) (cY:D1 ai J T=0):
 aK prog 11 [.agg i.F,.pure 3 (ac Y),.pure 7 (ac l),.pure 4 (ac ai),.int .i64 n,.int .i64 J,.int .i64 T] []
  (fun v rs=>(if qQ i Y l n=0 then ∃ (ax:List Int) (K:List cm),ax.Perm (iB (fK i Y l n))∧K.Perm (gy n ai)∧K.Pairwise pb∧v= .bg [.pure 3 ((fh (pk i Y l ai n J T ax K).1).map (pl (pk i Y l ai n J T ax K).2)),.int .i64 0] else v= .bg [.bD,.int .i64 (qQ i Y l n)])∧rs= []):=by
 have Lf:=avk i hh aR Y gm l hl n;have wn:ai.length≤1024∧(0≤J∧J≤84005)∧(0≤T∧T≤84005)∧J≤T:=by
  unfold D1 at cY;split at cY
  ·omega
  split at cY
  ·omega
  split at cY
  ·omega
  ·omega
 refine cr func11 Zu (by simp[qf,ot]) ?_;unfold er.F at *;simp only[go_sem,qf,ot,bO];unfold qQ
 by_cases h1:qO i Y l n=0
 rotate_left
 ·simp only[if_neg h1] at Lf;refine bH Lf (by simp only[bP,bE,cw,Bool.and_self,Bool.and_true]) rfl ?_;have q1: (qO i Y l n != 0)=true:=by simp[h1]
  simp only[go_sem,qf,ot,q1];exact s.bb rfl ⟨by rw[if_pos h1,if_neg h1],rfl⟩
 simp only[if_pos h1] at Lf;obtain⟨mR,gd,DP,rP,KF⟩:=Zp h1;obtain⟨_,_,_,Kr,iC⟩:=Le mR;refine bH Lf (by simp only[bP,bE,cw,Bool.and_self,Bool.and_true]) (by simp only[bP,bE,cw,Bool.and_self,Bool.and_true]) ?_;rw[if_neg (show ¬qO i Y l n≠0 by omega)];have c1:decide ((1024:Int) < ai.length)=false:=decide_eq_false (by omega);simp only[go_sem,c1,bO,qf,ot];generalize hA:Pr.sW (kE l n) i.fm=A at *;have avl:ac (mw i Y (sV i Y l n)).1=ac (oo i Y l n):=by unfold oo;rw[auZ]
 have Lg: (oo i Y l n).length≤1024:=by unfold oo;rw[List.length_map];exact rP
 rw[avl];have D2:=avb i.hI Kr (oo i Y l n) (by omega);have avm:By i.hI (oo i Y l n)=fK i Y l n:=rfl;rw[avm] at D2;unfold Ib.hJ.v at D2;refine dR (fun r d=> ∃ c:Nat,c≤ai.length∧r= [(1,.pure 3 (ac Y)),(3,.pure 4 (ac ai)),(4,.int .i64 n),(5,.int .i64 J),(6,.int .i64 T),(7,.aW 0 1 0 0),(16,.pure 2 (ac (oo i Y l n))),(17,.pure 2 (ac A)),(42,.pure 4 (ac ai)),(43,.int .i64 ai.length),(44,.int .i64 c)]∧d= [.aa 42 14 [[.int .i64 i.D.off,.pure 2 (ac i.D.cK),.int .i64 i.fm,.int .i64 i.ee,.int .i64 i.ek,.int .i64 i.dB.ez,.int .i64 i.dB.kU,.int .i64 i.dB.ll,.pure 2 (ac i.dB.ij),.str i.hI.dX,.pure 2 (ac i.hI.eC),.pure 2 (ac i.hI.gA),.pure 7 (ac i.af),.pure 6 (ac i.ak)]]])
  (fun r _=>match bn r 44 with| .int _ j=>(ai.length-j).toNat|_=>0) ?_ ?_
 ·exact s.U ⟨0,by omega,rfl,rfl⟩
 rintro r d ⟨c,an,rfl,rfl⟩;have fC:=dr (c:=c) (by omega)
 by_cases aC:c < ai.length
 ·have h1:decide ((c:Int) < ai.length)=true:=decide_eq_true (by omega);have sO: (0:Int)≤c:=by omega
  have sP: (c:Int) < ai.length:=by omega
  have na: (ac ai).getD c []=aG.F ai[c]:=cQ aC;simp only[go_sem,qf,ot,h1,sO,sP,na,bO,PX];refine bH (hV ai[c] (List.getElem_mem aC)) rfl rfl ?_;simp only[go_sem,fC];refine s.drop (d:= [.aa 42 14 [[.int .i64 i.D.off,.pure 2 (ac i.D.cK),.int .i64 i.fm,.int .i64 i.ee,.int .i64 i.ek,.int .i64 i.dB.ez,.int .i64 i.dB.kU,.int .i64 i.dB.ll,.pure 2 (ac i.dB.ij),.str i.hI.dX,.pure 2 (ac i.hI.eC),.pure 2 (ac i.hI.gA),.pure 7 (ac i.af),.pure 6 (ac i.ak)]]]) (t:= [_]) (by simp) (by
   intro q bz G
   match q,G with
   |0,G=>cases G;exact kf (by simp only[eg,bP,bE,cw,Bool.and_self,Bool.and_true])
   |q+1,G=>simp at G) (by simp[Dj,di]) ?_
  refine s.U ⟨⟨c+1,by omega,rfl,rfl⟩,?_⟩;simp only[go_sem];omega
 have hP:decide ((c:Int) < ai.length)=false:=decide_eq_false (by omega);simp only[go_sem,qf,ot,hP];clear aC hP fC an;have Zv:decide (J < 0)=false:=decide_eq_false (by omega);have Zw:decide ((84005:Int) < J)=false:=decide_eq_false (by omega);have Zx:decide (T < 0)=false:=decide_eq_false (by omega);have Zy:decide ((84005:Int) < T)=false:=decide_eq_false (by omega);have Zz:decide (T < J)=false:=decide_eq_false (by omega);simp only[go_sem,Zv,Zw,Zx,Zy,Zz,qf,ot];clear Zv Zw Zx Zy Zz
 by_cases B:Ib.ej (oo i Y l n)=0
 rotate_left
 ·simp only[if_neg B] at D2;refine bH D2 (by simp only[bP,bE,cw,Bool.and_self,Bool.and_true]) rfl ?_;have eF: (Ib.ej (oo i Y l n) != 0)=true:=by simp[B]
  simp only[go_sem,qf,ot,eF];exact s.bb rfl ⟨by rw[if_pos B,if_neg B],rfl⟩
 simp only[if_pos B] at D2;rw[if_neg (show ¬Ib.ej (oo i Y l n)≠0 by omega)];refine bH D2 (by simp only[bP,bE,cw,Bool.and_self,Bool.and_true]) (by simp only[bP,bE,cw,Bool.and_self,Bool.and_true]) ?_;simp only[go_sem,qf,ot];have aIm: (fK i Y l n).length≤100000:=avi B;have Bz:=avd i.D i.ak hh i.af aR ((fK i Y l n).map sT) (by rw[List.length_map];omega);rw[ava] at Bz;unfold bZ.v at Bz;have Lh:Pm.sU i.D i.ak i.af ((fK i Y l n).map sT)=kX i Y l n:=rfl;rw[Lh] at Bz
 by_cases am:Pm.ug i.D i.ak i.af ((fK i Y l n).map sT)=0
 rotate_left
 ·simp only[if_neg am] at Bz;refine bH Bz (by simp only[bP,bE,cw,Bool.and_self,Bool.and_true]) rfl ?_;have ev: (Pm.ug i.D i.ak i.af ((fK i Y l n).map sT) != 0)=true:=by simp[am]
  simp only[go_sem,qf,ot,ev];exact s.bb rfl ⟨by rw[if_neg am],rfl⟩
 simp only[if_pos am] at Bz;have avn: (fK i Y l n).length≤4096∧(kX i Y l n).length≤65536:=by
  have bp:=am;unfold Pm.ug at bp;rw[if_pos iC] at bp;have cn: ((fK i Y l n).map sT).length≤4096:=by
   unfold Pm.uh at bp;split at bp
   ·cases bp
   ·omega
  obtain⟨_,_,Rb,_⟩:=Pm.Rc iC;have dj:=Zm (D:=i.D) (h:=i.ak) (O:=(fK i Y l n).map sT) Rb;rw[Lh] at dj;rw[List.length_map] at cn dj;omega
 refine bH Bz (by simp only[bP,bE,cw,Bool.and_self,Bool.and_true]) (by simp only[bP,bE,cw,Bool.and_self,Bool.and_true]) ?_;simp only[if_pos am];simp only[go_sem,qf,ot];have tB:hy [.aa 42 14 [[.int .i64 i.D.off,.pure 2 (ac i.D.cK),.int .i64 i.fm,.int .i64 i.ee,.int .i64 i.ek,.int .i64 i.dB.ez,.int .i64 i.dB.kU,.int .i64 i.dB.ll,.pure 2 (ac i.dB.ij),.str i.hI.dX,.pure 2 (ac i.hI.eC),.pure 2 (ac i.hI.gA),.pure 7 (ac i.af),.pure 6 (ac i.ak)]],R.aY (xS.map false [cN.int .i64] []),.aa 118 3 [[.int .i64 J,.int .i64 T,.bu 1]]] 2 1 J T [] (fun _ _=> []):=by
  refine⟨fun _ _=>0,⟨?_,rfl,rfl,List.nodup_nil,fun _ _ h=>absurd rfl h,fun _ _=>rfl,fun _ _ h=>absurd rfl h,fun _ _ _ _ h=>absurd rfl h⟩⟩;intro q bz G
  match q,G with
  |0,G=>cases G;exact kf (by simp only[eg,bP,bE,cw,Bool.and_self,Bool.and_true])
  |1,G=>cases G;rfl
  |2,G=>cases G;rfl
  |q+3,G=>simp at G
 have Hb:=GY (O:=fK i Y l n) (c:=(fK i Y l n).length) (Nat.le_refl _);rw[List.take_length] at Hb;refine tV tB.choose_spec.all (by simp only[gl,di,Bool.and_true];rfl) (auu tB (fun _ _=>by simp) (fK i Y l n) (by omega) (fun ax QO _=>by have:=Zi (O:=fK i Y l n) QO;omega)) ?_;rintro _ ha ⟨rfl,Br,ax,fr,yZ⟩;refine⟨by have:=Br.1;simpa using this,?_⟩;simp only[go_sem];have aIn:=Zi (O:=fK i Y l n) (fr.nodup_iff.2 Hb.1);have jv:=Bt (J:=J) (T:=T) (ji (fK i Y l n) ax) ([],fun _ _=> []) 0 (fun _ _=>Nat.le_refl _);have ZA:2 < ha.length:=by have:=Br.1;simp at this;omega
 refine tV yZ.choose_spec.all (by simp only[gl,di,Bool.and_true];simpa using ZA) (avo yZ (fun o k=>Nat.le_trans (jv o k) (by omega)) (kX i Y l n) (by omega)) ?_;rintro _ fZ ⟨rfl,pc,jg⟩;refine⟨pc.1,?_⟩;simp only[go_sem];rw[←QK] at jg;have ZB: (jR (kX i Y l n)).length=(kX i Y l n).length:=by unfold jR;rw[List.length_map]
 have kO:=Bt (J:=J) (T:=T) (ji (fK i Y l n) ax++jR (kX i Y l n)) ([],fun _ _=> []) 0 (fun _ _=>Nat.le_refl _);rw[List.length_append,ZB] at kO;have ZC:2 < fZ.length:=Nat.lt_of_lt_of_le ZA pc.1;refine tV jg.choose_spec.all (by simp only[gl,di,Bool.and_true];simpa using ZC) (atr jg (fun o k=>Nat.le_trans (kO o k) (by omega)) Y gm ai (by omega) (fun a aw=>⟨ar a aw,je a aw⟩) n) ?_;rintro _ sK ⟨rfl,za,K,rJ,qL,Bu⟩;refine⟨za.1,?_⟩;rw[ZD] at Bu;have ZE:hy sK 2 1 J T (eJ J T ([],fun _ _=> []) (ji (fK i Y l n) ax++jR (kX i Y l n)++qR (dS Y n ai) K)).1 (eJ J T ([],fun _ _=> []) (ji (fK i Y l n) ax++jR (kX i Y l n)++qR (dS Y n ai) K)).2:=by
  rw[QK];exact Bu
 simp only[go_sem];have avp:=Br.trans (pc.trans za);have DW:sK[0]? =some (.aa 42 14 [[.int .i64 i.D.off,.pure 2 (ac i.D.cK),.int .i64 i.fm,.int .i64 i.ee,.int .i64 i.ek,.int .i64 i.dB.ez,.int .i64 i.dB.kU,.int .i64 i.dB.ll,.pure 2 (ac i.dB.ij),.str i.hI.dX,.pure 2 (ac i.hI.eC),.pure 2 (ac i.hI.gA),.pure 7 (ac i.af),.pure 6 (ac i.ak)]]):=avp.2 0 _ rfl (by decide) (fun k ah e=>by cases k<;>simp[sH] at e);simp only[go_sem,DW];have aIo: (qR (dS Y n ai) K).length≤1024:=by
  unfold qR;rw[List.length_map];have h1:=List.length_filter_le (fun k=>decide (0 < dS Y n ai k)) K;have B:=rJ.length_eq;have am:=P2 n ai;omega
 have rz:=Bt (J:=J) (T:=T) (ji (fK i Y l n) ax++jR (kX i Y l n)++qR (dS Y n ai) K) ([],fun _ _=> []) 0 (fun _ _=>Nat.le_refl _);have aIp: (ji (fK i Y l n) ax++jR (kX i Y l n)++qR (dS Y n ai) K).length≤80000:=by
  rw[List.length_append,List.length_append,ZB];omega
 have avq:2 < sK.length:=Nat.lt_of_lt_of_le ZC za.1;have ZF:=atF ZE (fun o k=>Nat.le_trans (rz o k) (by omega)) i.D A (by omega);unfold bZ.v at ZF;have ce:pk i Y l ai n J T ax K=kC i.D J T (eJ J T ([],fun _ _=> []) (ji (fK i Y l n) ax++jR (kX i Y l n)++qR (dS Y n ai) K)) A:=by unfold pk;rw[hA]
 have ga: ∀ o∈(pk i Y l ai n J T ax K).1,0≤o∧o≤84005:=fun o aq=>by
  rw[ce,(zg A _).2.2,(zh _ _).2.2] at aq;rcases aq with (h|h)|h
  ·cases h
  ·omega
  ·omega
 have fP: (pk i Y l ai n J T ax K).1.length≤1000000:=by
  rw[ce];have g1:=Zs (D:=i.D) (J:=J) (T:=T) A (eJ J T ([],fun _ _=> []) (ji (fK i Y l n) ax++jR (kX i Y l n)++qR (dS Y n ai) K));have bM:=Zr (J:=J) (T:=T) (ji (fK i Y l n) ax++jR (kX i Y l n)++qR (dS Y n ai) K) ([],fun _ _=> []);simp only[List.length_nil] at bM;omega
 refine tV ZE.choose_spec.all (by simp only[gl,di,J3 (.pure 2 (ac i.D.cK)) (by simp only[bE,cw]),J3 (.pure 2 (ac A)) (by simp only[bE,cw]),Bool.and_true];simpa using avq) ZF ?_;rintro _ W ⟨rfl,avr,Rd⟩;refine⟨avr.1,?_⟩;rw[←ce] at Rd;obtain⟨bq,ZG⟩: ∃ bq,bq=pk i Y l ai n J T ax K:=⟨_,rfl⟩;rw[←ZG] at Rd ga fP;obtain⟨X,eD⟩:=Rd;have Re:=eD.all;have JK:=eD.E;have avs:=eD.m;have Lg:2 < W.length:=jP JK;simp only[go_sem,JK];refine tV Re (by simp only[gl,di,Bool.and_true];simp;omega) ZH ?_;rintro _ rs ⟨rfl,wG⟩;rw[wG];refine⟨by simp,?_⟩;clear wG rs;simp only[go_sem];have KI: ∀ x∈bq.1,(Lit.int .i64 x).wf=true:=fun x ad=>by
  have:=ga x ad;have bF:IntKind.i64.min= -9223372036854775808:=rfl;have bJ:IntKind.i64.max=9223372036854775807:=rfl;simp only[Lit.wf,bF,bJ];simp;omega
 obtain⟨M,ba⟩:=bq;simp only at eD fP KI ga;have xc:jA (W++ [.aa 116 1 [[.bu 1]]]):=Gw Re (by simp[iM,lG,gl,di];omega);refine tV xc (by simp[gl,di]) (ZI (a:=1) (b:=W.length) (ents:=cX (mW X ba) M) (M:=M) (bL avs) (by rw[dz];rfl) (by simp[cX]) eD.GB KI fP) ?_;rintro _ rs ⟨rfl,wG⟩;rw[wG];refine⟨by simp,?_⟩;clear wG rs;simp only[go_sem,mm];have ZJ: (fh M).Perm M:=by unfold fh;exact List.mergeSort_perm M _
 have avt: (fh M).length≤1000000:=by rw[ZJ.length_eq];exact fP
 have Rf: ∀ o∈fh M,o∈M:=fun o aq=>ZJ.mem_iff.1 aq;generalize avu:fh M=fb at *;refine dR (fun r d=> ∃ c:Nat,c≤fb.length∧r= [(23,.aW 0 1 0 0),(24,.own 2 c 0 c),(112,.pure 1 (cC .i64 fb)),(113,.int .i64 fb.length),(114,.int .i64 c)]∧d= [.aa 118 3 [[.int .i64 J,.int .i64 T,.bu 1]],.aY (.map false [.int .i64] (cX (zi ba) M)),.aa 76 3 ((fb.take c).map (pl ba))])
  (fun r _=>match bn r 114 with| .int _ j=>(fb.length-j).toNat|_=>0) ?_ ?_
 ·refine s.drop (by omega) Re (by simp[Dj,di];omega) ?_;refine s.kc [some 2,some 1] (List.range W.length) rfl rfl (avv eD) ?_;have avw:bU W [some 2,some 1] (List.range W.length) (.aW 2 1 0 0)= .aW 0 1 0 0:=by simp[bU,hR]
  simp only[List.map_cons,List.map_nil,avw,sz _ (show bE z.bD=true from rfl),sz _ (show bE (.pure 1 (cC .i64 fb))=true by simp only[bE,CL]),sz _ (show bE (.int .i64 fb.length)=true from rfl),sz _ (show bE (.int .i64 0)=true from rfl)]
  (refine s.iI 24 76 3 rfl (s.eW [23,24,112,113,114] ?_);simp only[go_sem])
  exact s.U ⟨0,by omega,rfl,rfl⟩
 rintro r d ⟨c,an,rfl,rfl⟩;have aR:=dr (c:=c) (by omega)
 by_cases aC:c < fb.length
 ·have h1:decide ((c:Int) < fb.length)=true:=decide_eq_true (by omega);have sO: (0:Int)≤c:=by omega
  have sP: (c:Int) < fb.length:=by omega
  have na: (cC .i64 fb).getD c []= [.int .i64 fb[c]]:=by rw[sA aC,List.getD_eq_getElem?_getD,List.getElem?_eq_getElem aC,Option.getD_some]
  have gZ:dd (.int .i64 fb[c]) (cX (zi ba) M)=some (.agg [.int .i64 fb[c],ou ba fb[c] false,ou ba fb[c] true]):=by rw[DJ,if_pos (Rf _ (List.getElem_mem aC))];rfl
  have As:Abs.cM (ou ba fb[c] false)=true:=ZK;have hn:Abs.cM (ou ba fb[c] true)=true:=ZK;have pT: (fb.take c).map (pl ba)++ [[.int .i64 fb[c],ou ba fb[c] false,ou ba fb[c] true]]=(fb.take (c+1)).map (pl ba):=by
   rw[List.take_succ_eq_append_getElem aC,List.map_append];rfl
  simp only[go_sem,qf,ot,h1,sO,sP,na,mm,gZ,aR,As,hn];refine⟨by simp;omega,by omega,?_⟩;rw[pT];have avx:jA [.aa 118 3 [[.int .i64 J,.int .i64 T,.bu 1]],.aY (.map false [.int .i64] (cX (zi ba) M)),.aa 76 3 ((fb.take (c+1)).map (pl ba))]:=by
   intro i bz G
   match i,G with
   |0,G=>cases G;rfl
   |1,G=>cases G;exact KA fun o _=>J3 _ (by unfold zi;simp only[bE,bP,ZL eD.fU,Bool.and_self])
   |2,G=>cases G;exact kf (Rh eD.fU)
   |i+3,G=>simp at G
  refine s.drop (d:= [_,_,_]) (t:= [_]) (by simp) avx (by simp[Dj,di]) ?_;refine s.U ⟨⟨c+1,by omega,rfl,rfl⟩,?_⟩;simp only[go_sem];omega
 have h1:decide ((c:Int) < fb.length)=false:=decide_eq_false (by omega);simp only[go_sem,qf,ot,h1];obtain rfl:c=fb.length:=by omega
 rw[List.take_length];have ZM:eg (fb.map (pl ba))=true:=Rh eD.fU;have mZ: ∀ r0 r1:R,bU [r0,r1,.aa 76 3 (fb.map (pl ba))] [] [2] (.own 2 fb.length 0 fb.length)= .pure 3 (fb.map (pl ba)):=fun r0 r1=>pO rfl rfl rfl (by simp) ZM;have xr: ∀ r0 r1:R,bU [r0,r1,.aa 76 3 (fb.map (pl ba))] [] [2] (.bg [.own 2 fb.length 0 fb.length,.int .i64 0])= .bg [.pure 3 (fb.map (pl ba)),.int .i64 0]:=fun r0 r1=>by
  rw[bU];simp only[dV,mZ];rfl
 refine s.kc [] [2] rfl rfl (by simp only[go_sem]<;>rfl) ?_;have mT:List.take fb.length (fb.map (pl ba))=fb.map (pl ba):=List.take_of_length_le (by simp);simp only[go_sem,xr,List.length_map,ZM,mT];exact s.U ⟨⟨ax,K,fr,rJ,qL,by rw[←ZG];show _=z.bg [.pure 3 ((fh M).map (pl ba)),.int .i64 0];rw[avu];rfl⟩,rfl⟩
end Go.Proofs.YtpincjkjoeopkaaGreatDoor
