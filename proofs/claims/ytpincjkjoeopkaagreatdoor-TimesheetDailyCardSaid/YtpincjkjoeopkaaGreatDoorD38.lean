/- Time evaluation. -/
import Derived.Test.YtpincjkjoeopkaaGreatDoorD37
import Derived.Test.YtpincjkjoeopkaaGreatDoorD28
import Derived.Test.YtpincjkjoeopkaaGreatDoorD29
set_option linter.all false
namespace Go.Proofs.YtpincjkjoeopkaaGreatDoor
open Go Go.Abs Go.Proofs.Tryz
theorem aaF {z:eD}{ae:List cw}{ds:List eX}: ∀ {c:Nat},c≤ds.length→(nc z ae (ds.take c)).1.length≤c
 |0,_=>by simp[nc]
 |c+1,h=>by
  have:=aaF (z:=z) (ae:=ae) (ds:=ds) (c:=c) (by omega);rw[aaG (by omega)];unfold Mq;split
  ·omega
  ·rw[List.length_append,List.length_singleton];omega
theorem aaH {z:eD}{ae:List cw}{l:List Ib.Ev}{n:Int}(h:rE z ae l n=0):qL z=0∧jd z.M ae=0∧Ib.cL l=0∧(nc z ae (tX z ae l n)).1.length≤1024∧(Pr.tY (kZ l n) z.fz).length≤1024:=by
 unfold rE at h;split at h
 ·omega
 split at h
 ·omega
 split at h
 ·omega
 split at h
 ·omega
 rename_i h1 G au bv;obtain⟨_,Ad,_,_,_⟩:=Mr (show qL z=0 by omega);have ak:Pr.lb (kZ l n) z.fz=0:=by omega
 have Ik: (kZ l n).length≤1024∧Pr.qM 0 (kZ l n)=true:=by
  have:=ak;unfold Pr.lb at this;split at this
  ·omega
  split at this
  ·omega
  split at this
  ·exact⟨by omega,by assumption⟩
  ·omega
 obtain⟨_,H1,_,EC⟩:=Pr.aaI (aY:=kZ l n) (n:=z.fz) Ik.2 Ik.1 (by unfold rF at Ad;omega) (by unfold rF at Ad;omega);have ay:=(H0 (M:=z.M) (ae:=ae) (e:=z.er) (l:=z.ex) (aa:=Pr.nQ (kZ l n) z.fz) (c:=(Pr.nQ (kZ l n) z.fz).length) (Nat.le_refl _)).1;rw[List.take_length] at ay;have sF:=aaF (z:=z) (ae:=ae) (ds:=tX z ae l n) (c:=(tX z ae l n).length) (Nat.le_refl _);rw[List.take_length] at sF;have he:tX z ae l n=mY z.M ae z.er z.ex (Pr.nQ (kZ l n) z.fz):=rfl;rw[he] at sF ⊢;exact⟨by omega,by omega,by omega,by omega,by omega⟩
noncomputable def pf (z:eD)(ae:List cw)(l:List Ib.Ev)(n:Int):List Ib.fv:=(nc z ae (tX z ae l n)).1.map aat
noncomputable def fT (z:eD)(ae:List cw)(l:List Ib.Ev)(n:Int):List Ib.cF:=CH z.ia (pf z ae l n)
noncomputable def lB (z:eD)(ae:List cw)(l:List Ib.Ev)(n:Int):List Pm.Pm:=Pm.tW z.M z.ao z.al ((fT z ae l n).map tV)
noncomputable def rG (z:eD)(ae:List cw)(l:List Ib.Ev)(n:Int):Int:=if rE z ae l n≠0 then rE z ae l n else if Ib.ew (pf z ae l n)≠0 then Ib.ew (pf z ae l n) else Pm.vh z.M z.ao z.al ((fT z ae l n).map tV)
noncomputable def pT (z:eD)(ae:List cw)(l:List Ib.Ev)(aq:List eH)(n R ab:Int)(aD:List Int)(K:List cv):List Int×(Int→Bool→List (List F)):=
 kY z.M R ab (eS R ab ([],fun _ _=> []) (jv (fT z ae l n) aD++ko (lB z ae l n)++rH (eb ae n aq) K)) (Pr.tY (kZ l n) z.fz)
theorem aaJ {R ab:Int}: ∀ (aY:List (Int×List F)) (bw:List Int×(Int→Bool→List (List F))),(eS R ab bw aY).1.length≤bw.1.length+aY.length
 | [],bw=>Nat.le_refl _
 |x::aY,bw=>by
  have h:=aaJ (R:=R) (ab:=ab) aY (nN R ab bw x);have e:eS R ab bw (x::aY)=eS R ab (nN R ab bw x) aY:=rfl;have G: (nN R ab bw x).1.length≤bw.1.length+1:=by
   unfold nN;split
   ·simp only;unfold ek;split<;>simp
   ·omega
  rw[e,List.length_cons];omega
theorem aaK {M:cc}{R ab:Int}: ∀ (aY:List Pr.kn) (bw:List Int×(Int→Bool→List (List F))),(kY M R ab bw aY).1.length≤bw.1.length+aY.length
 | [],bw=>Nat.le_refl _
 |x::aY,bw=>by
  have h:=aaK (M:=M) (R:=R) (ab:=ab) aY (qF M R ab bw x);have e:kY M R ab bw (x::aY)=kY M R ab (qF M R ab bw x) aY:=rfl;have G: (qF M R ab bw x).1.length≤bw.1.length+1:=by
   unfold qF;split
   ·simp only;unfold ek;split<;>simp
   ·omega
  rw[e,List.length_cons];omega
theorem awO {al:List Ib.fv}(dp:Ib.ew al=0): (Ao al).Perm (Ib.gU al)∧Ib.sE (Ao al):=by
 obtain⟨_,_,nd,awP,_⟩:=Ib.Ij dp;have qE:=Ib.Ii nd;have ak: ((Ib.gU al).mergeSort fun x y=>decide (x.R≤y.R)).Perm (Ib.gU al):=List.mergeSort_perm _ _;have ao:=List.pairwise_mergeSort (le:=fun x y:Ib.ga=>decide (x.R≤y.R)) (fun a b J h1 G=>by simp only[decide_eq_true_eq] at *;omega) (fun a b=>by simp only[Bool.or_eq_true,decide_eq_true_eq];omega) (Ib.gU al);generalize (Ib.gU al).mergeSort (fun x y=>decide (x.R≤y.R))=S at *;have ay:S.Pairwise Ib.pg:=(ak.pairwise_iff (fun h=>Or.symm h)).2 awP;have aC:Ib.sE S:=(ao.and ay).imp_of_mem fun {x y} aj bt h=>by
  have a:=(qE x (ak.mem_iff.1 aj)).1;have b:=(qE y (ak.mem_iff.1 bt)).1;have h1:=h.1;have G:=h.2;simp only[decide_eq_true_eq] at h1;unfold Ib.pg at G;unfold Ib.iB at a b;omega
 rw[←aau dp ak aC];exact⟨ak,aC⟩
theorem Il {a b:List Ib.ga}(h:a.Perm b):Ib.hz a=Ib.hz b:=by
 induction h with
 |nil=>rfl
 |cons x _ ih=>rw[Ib.hz,Ib.hz,ih]
 |swap x y l=>simp only[Ib.hz];omega
 |trans _ _ GD DC=>rw[GD,DC]
theorem awQ {aF:Ib.ib}{al:List Ib.fv}(dp:Ib.ew al=0): (CH aF al).length≤100000:=by
 obtain⟨h1,G⟩:=awO dp;obtain⟨_,_,nd,_,aJQ⟩:=Ib.Ij dp;have au:=(Ib.aaL aF (Ib.kE (Ao al))).2.2;have bv:=Ib.Sj (S:=Ao al) fun I ao=>(Ib.Ii nd I (h1.mem_iff.1 ao)).1;rw[Il h1] at bv;unfold CH;omega
set_option maxHeartbeats 4000000 in
theorem awR (z:eD)(hh:z.ao.length≤1000000)(aP:z.al.length≤1000000)(ae:List cw)(gy:ae.length≤1000000)(l:List Ib.Ev)(hl:l.length≤1000000)(aq:List eH)
 (hV: ∀ a∈aq,aO prog 40 [.agg (aJ.J a)] [] (fun v rs=>v= .bool true∧rs= [])) (aA: ∀ a∈aq,Cl a) (ki: ∀ a∈aq,(Lit.int .i64 a.ah).wf=true∧a.name.size≤maxLen) (n R ab:Int) (dp:E9 aq R ab=0):
 aO prog 11 [.agg z.J,.pure 3 (ai ae),.pure 7 (ai l),.pure 4 (ai aq),.int .i64 n,.int .i64 R,.int .i64 ab] []
  (fun v rs=>(if rG z ae l n=0 then ∃ (aD:List Int) (K:List cv),aD.Perm (iO (fT z ae l n))∧K.Perm (gJ n aq)∧K.Pairwise pN∧v= .bo [.pure 3 ((fq (pT z ae l aq n R ab aD K).1).map (pU (pT z ae l aq n R ab aD K).2)),.int .i64 0] else v= .bo [.bH,.int .i64 (rG z ae l n)])∧rs= []):=by
 have Ms:=awS z hh aP ae gy l hl n;have zk:aq.length≤1024∧(0≤R∧R≤84005)∧(0≤ab∧ab≤84005)∧R≤ab:=by
  unfold E9 at dp;split at dp
  ·omega
  split at dp
  ·omega
  split at dp
  ·omega
  ·omega
 refine cu func11 aaM (by simp[qN,pj]) ?_;unfold eD.J at *;simp only[go_sem,qN,pj,bT];unfold rG
 by_cases h1:rE z ae l n=0
 rotate_left
 ·simp only[if_neg h1] at Ms;refine bM Ms (by simp only[bU,bJ,ck,Bool.and_self,Bool.and_true]) rfl ?_;have q1: (rE z ae l n != 0)=true:=by simp[h1]
  simp only[go_sem,qN,pj,q1];exact E.bg rfl ⟨by rw[if_pos h1,if_neg h1],rfl⟩
 simp only[if_pos h1] at Ms;obtain⟨nD,gl,E1,sF,LW⟩:=aaH h1;obtain⟨_,_,_,LI,kD⟩:=Mr nD;refine bM Ms (by simp only[bU,bJ,ck,Bool.and_self,Bool.and_true]) (by simp only[bU,bJ,ck,Bool.and_self,Bool.and_true]) ?_;rw[if_neg (show ¬rE z ae l n≠0 by omega)];have c1:decide ((1024:Int) < aq.length)=false:=decide_eq_false (by omega);simp only[go_sem,c1,bT,qN,pj];generalize hA:Pr.tY (kZ l n) z.fz=A at *;have awT:ai (nc z ae (tX z ae l n)).1=ai (pf z ae l n):=by unfold pf;rw[awH]
 have Mt: (pf z ae l n).length≤1024:=by unfold pf;rw[List.length_map];exact sF
 rw[awT];have Fa:=awJ z.ia LI (pf z ae l n) (by omega);have awU:CH z.ia (pf z ae l n)=fT z ae l n:=rfl;rw[awU] at Fa;unfold Ib.ib.v at Fa;refine dN (fun D r=> ∃ c:Nat,c≤aq.length∧D= [(1,.pure 3 (ai ae)),(3,.pure 4 (ai aq)),(4,.int .i64 n),(5,.int .i64 R),(6,.int .i64 ab),(7,.bd 0 1 0 0),(16,.pure 2 (ai (pf z ae l n))),(17,.pure 2 (ai A)),(42,.pure 4 (ai aq)),(43,.int .i64 aq.length),(44,.int .i64 c)]∧r= [.ag 42 14 [[.int .i64 z.M.off,.pure 2 (ai z.M.cS),.int .i64 z.fz,.int .i64 z.er,.int .i64 z.ex,.int .i64 z.dK.eI,.int .i64 z.dK.lw,.int .i64 z.dK.lP,.pure 2 (ai z.dK.iA),.str z.ia.ef,.pure 2 (ai z.ia.eN),.pure 2 (ai z.ia.gL),.pure 7 (ai z.al),.pure 6 (ai z.ao)]]])
  (fun D _=>match bs D 44 with| .int _ j=>(aq.length-j).toNat|_=>0) ?_ ?_
 ·exact E.ac ⟨0,by omega,rfl,rfl⟩
 rintro D r ⟨c,av,rfl,rfl⟩;have fK:=dB (c:=c) (by omega)
 by_cases aI:c < aq.length
 ·have h1:decide ((c:Int) < aq.length)=true:=decide_eq_true (by omega);have tM: (0:Int)≤c:=by omega
  have tN: (c:Int) < aq.length:=by omega
  have nM: (ai aq).getD c []=aJ.J aq[c]:=cT aI;simp only[go_sem,qN,pj,h1,tM,tN,nM,bT,QV];refine bM (hV aq[c] (List.getElem_mem aI)) rfl rfl ?_;simp only[go_sem,fK];refine E.drop (r:= [.ag 42 14 [[.int .i64 z.M.off,.pure 2 (ai z.M.cS),.int .i64 z.fz,.int .i64 z.er,.int .i64 z.ex,.int .i64 z.dK.eI,.int .i64 z.dK.lw,.int .i64 z.dK.lP,.pure 2 (ai z.dK.iA),.str z.ia.ef,.pure 2 (ai z.ia.eN),.pure 2 (ai z.ia.gL),.pure 7 (ai z.al),.pure 6 (ai z.ao)]]]) (t:= [_]) (by simp) (by
   intro q bG N
   match q,N with
   |0,N=>cases N;exact kA (by simp only[dY,bU,bJ,ck,Bool.and_self,Bool.and_true])
   |q+1,N=>simp at N) (by simp[Ez,dt]) ?_
  refine E.ac ⟨⟨c+1,by omega,rfl,rfl⟩,?_⟩;simp only[go_sem];omega
 have ii:decide ((c:Int) < aq.length)=false:=decide_eq_false (by omega);simp only[go_sem,qN,pj,ii];clear aI ii fK av;have aaN:decide (R < 0)=false:=decide_eq_false (by omega);have aaO:decide ((84005:Int) < R)=false:=decide_eq_false (by omega);have aaP:decide (ab < 0)=false:=decide_eq_false (by omega);have aaQ:decide ((84005:Int) < ab)=false:=decide_eq_false (by omega);have aaR:decide (ab < R)=false:=decide_eq_false (by omega);simp only[go_sem,aaN,aaO,aaP,aaQ,aaR,qN,pj];clear aaN aaO aaP aaQ aaR
 by_cases G:Ib.ew (pf z ae l n)=0
 rotate_left
 ·simp only[if_neg G] at Fa;refine bM Fa (by simp only[bU,bJ,ck,Bool.and_self,Bool.and_true]) rfl ?_;have eQ: (Ib.ew (pf z ae l n) != 0)=true:=by simp[G]
  simp only[go_sem,qN,pj,eQ];exact E.bg rfl ⟨by rw[if_pos G,if_neg G],rfl⟩
 simp only[if_pos G] at Fa;rw[if_neg (show ¬Ib.ew (pf z ae l n)≠0 by omega)];refine bM Fa (by simp only[bU,bJ,ck,Bool.and_self,Bool.and_true]) (by simp only[bU,bJ,ck,Bool.and_self,Bool.and_true]) ?_;simp only[go_sem,qN,pj];have aJR: (fT z ae l n).length≤100000:=awQ G;have CI:=awL z.M z.ao hh z.al aP ((fT z ae l n).map tV) (by rw[List.length_map];omega);rw[awI] at CI;unfold cc.v at CI;have Mu:Pm.tW z.M z.ao z.al ((fT z ae l n).map tV)=lB z ae l n:=rfl;rw[Mu] at CI
 by_cases au:Pm.vh z.M z.ao z.al ((fT z ae l n).map tV)=0
 rotate_left
 ·simp only[if_neg au] at CI;refine bM CI (by simp only[bU,bJ,ck,Bool.and_self,Bool.and_true]) rfl ?_;have eF: (Pm.vh z.M z.ao z.al ((fT z ae l n).map tV) != 0)=true:=by simp[au]
  simp only[go_sem,qN,pj,eF];exact E.bg rfl ⟨by rw[if_neg au],rfl⟩
 simp only[if_pos au] at CI;have awV: (fT z ae l n).length≤4096∧(lB z ae l n).length≤65536:=by
  have bv:=au;unfold Pm.vh at bv;rw[if_pos kD] at bv;have cx: ((fT z ae l n).map tV).length≤4096:=by
   unfold Pm.vi at bv;split at bv
   ·cases bv
   ·omega
  obtain⟨_,_,Sk,_⟩:=Pm.Sl kD;have dx:=aaE (M:=z.M) (h:=z.ao) (aa:=(fT z ae l n).map tV) Sk;rw[Mu] at dx;rw[List.length_map] at cx dx;omega
 refine bM CI (by simp only[bU,bJ,ck,Bool.and_self,Bool.and_true]) (by simp only[bU,bJ,ck,Bool.and_self,Bool.and_true]) ?_;simp only[if_pos au];simp only[go_sem,qN,pj];have uB:hQ [.ag 42 14 [[.int .i64 z.M.off,.pure 2 (ai z.M.cS),.int .i64 z.fz,.int .i64 z.er,.int .i64 z.ex,.int .i64 z.dK.eI,.int .i64 z.dK.lw,.int .i64 z.dK.lP,.pure 2 (ai z.dK.iA),.str z.ia.ef,.pure 2 (ai z.ia.eN),.pure 2 (ai z.ia.gL),.pure 7 (ai z.al),.pure 6 (ai z.ao)]],Z.be (zd.map false [cW.int .i64] []),.ag 118 3 [[.int .i64 R,.int .i64 ab,.bE 1]]] 2 1 R ab [] (fun _ _=> []):=by
  refine⟨fun _ _=>0,⟨?_,rfl,rfl,List.nodup_nil,fun _ _ h=>absurd rfl h,fun _ _=>rfl,fun _ _ h=>absurd rfl h,fun _ _ _ _ h=>absurd rfl h⟩⟩;intro q bG N
  match q,N with
  |0,N=>cases N;exact kA (by simp only[dY,bU,bJ,ck,Bool.and_self,Bool.and_true])
  |1,N=>cases N;rfl
  |2,N=>cases N;rfl
  |q+3,N=>simp at N
 have Im:=H6 (aa:=fT z ae l n) (c:=(fT z ae l n).length) (Nat.le_refl _);rw[List.take_length] at Im;refine uV uB.choose_spec.all (by simp only[gx,dt,Bool.and_true];rfl) (awf uB (fun _ _=>by simp) (fT z ae l n) (by omega) (fun aD RR _=>by have:=aaA (aa:=fT z ae l n) RR;omega)) ?_;rintro _ hx ⟨rfl,Cw,aD,fC,Ai⟩;refine⟨by have:=Cw.1;simpa using this,?_⟩;simp only[go_sem];have aJS:=aaA (aa:=fT z ae l n) (fC.nodup_iff.2 Im.1);have jK:=Cx (R:=R) (ab:=ab) (jv (fT z ae l n) aD) ([],fun _ _=> []) 0 (fun _ _=>Nat.le_refl _);have aaS:2 < hx.length:=by have:=Cw.1;simp at this;omega
 refine uV Ai.choose_spec.all (by simp only[gx,dt,Bool.and_true];simpa using aaS) (awW Ai (fun B k=>Nat.le_trans (jK B k) (by omega)) (lB z ae l n) (by omega)) ?_;rintro _ gg ⟨rfl,pO,jt⟩;refine⟨pO.1,?_⟩;simp only[go_sem];rw[←RN] at jt;have aaT: (ko (lB z ae l n)).length=(lB z ae l n).length:=by unfold ko;rw[List.length_map]
 have lp:=Cx (R:=R) (ab:=ab) (jv (fT z ae l n) aD++ko (lB z ae l n)) ([],fun _ _=> []) 0 (fun _ _=>Nat.le_refl _);rw[List.length_append,aaT] at lp;have aaU:2 < gg.length:=Nat.lt_of_lt_of_le aaS pO.1;refine uV jt.choose_spec.all (by simp only[gx,dt,Bool.and_true];simpa using aaU) (avc jt (fun B k=>Nat.le_trans (lp B k) (by omega)) ae gy aq (by omega) (fun a aC=>⟨aA a aC,ki a aC⟩) n) ?_;rintro _ tH ⟨rfl,Aj,K,sz,rC,Cy⟩;refine⟨Aj.1,?_⟩;rw[aaV] at Cy;have aaW:hQ tH 2 1 R ab (eS R ab ([],fun _ _=> []) (jv (fT z ae l n) aD++ko (lB z ae l n)++rH (eb ae n aq) K)).1 (eS R ab ([],fun _ _=> []) (jv (fT z ae l n) aD++ko (lB z ae l n)++rH (eb ae n aq) K)).2:=by
  rw[RN];exact Cy
 simp only[go_sem];have awX:=Cw.trans (pO.trans Aj);have E6:tH[0]? =some (.ag 42 14 [[.int .i64 z.M.off,.pure 2 (ai z.M.cS),.int .i64 z.fz,.int .i64 z.er,.int .i64 z.ex,.int .i64 z.dK.eI,.int .i64 z.dK.lw,.int .i64 z.dK.lP,.pure 2 (ai z.dK.iA),.str z.ia.ef,.pure 2 (ai z.ia.eN),.pure 2 (ai z.ia.gL),.pure 7 (ai z.al),.pure 6 (ai z.ao)]]):=awX.2 0 _ rfl (by decide) (fun k am e=>by cases k<;>simp[tE] at e);simp only[go_sem,E6];have aJT: (rH (eb ae n aq) K).length≤1024:=by
  unfold rH;rw[List.length_map];have h1:=List.length_filter_le (fun k=>decide (0 < eb ae n aq k)) K;have G:=sz.length_eq;have au:=Q0 n aq;omega
 have sm:=Cx (R:=R) (ab:=ab) (jv (fT z ae l n) aD++ko (lB z ae l n)++rH (eb ae n aq) K) ([],fun _ _=> []) 0 (fun _ _=>Nat.le_refl _);have aJU: (jv (fT z ae l n) aD++ko (lB z ae l n)++rH (eb ae n aq) K).length≤80000:=by
  rw[List.length_append,List.length_append,aaT];omega
 have awY:2 < tH.length:=Nat.lt_of_lt_of_le aaU Aj.1;have aaX:=avq aaW (fun B k=>Nat.le_trans (sm B k) (by omega)) z.M A (by omega);unfold cc.v at aaX;have cn:pT z ae l aq n R ab aD K=kY z.M R ab (eS R ab ([],fun _ _=> []) (jv (fT z ae l n) aD++ko (lB z ae l n)++rH (eb ae n aq) K)) A:=by unfold pT;rw[hA]
 have gh: ∀ B∈(pT z ae l aq n R ab aD K).1,0≤B∧B≤84005:=fun B ay=>by
  rw[cn,(Ap A _).2.2,(Aq _ _).2.2] at ay;rcases ay with (h|h)|h
  ·cases h
  ·omega
  ·omega
 have gO: (pT z ae l aq n R ab aD K).1.length≤1000000:=by
  rw[cn];have g1:=aaK (M:=z.M) (R:=R) (ab:=ab) A (eS R ab ([],fun _ _=> []) (jv (fT z ae l n) aD++ko (lB z ae l n)++rH (eb ae n aq) K));have bR:=aaJ (R:=R) (ab:=ab) (jv (fT z ae l n) aD++ko (lB z ae l n)++rH (eb ae n aq) K) ([],fun _ _=> []);simp only[List.length_nil] at bR;omega
 refine uV aaW.choose_spec.all (by simp only[gx,dt,Lk (.pure 2 (ai z.M.cS)) (by simp only[bJ,ck]),Lk (.pure 2 (ai A)) (by simp only[bJ,ck]),Bool.and_true];simpa using awY) aaX ?_;rintro _ W ⟨rfl,awZ,Sm⟩;refine⟨awZ.1,?_⟩;rw[←cn] at Sm;obtain⟨bw,aaY⟩: ∃ bw,bw=pT z ae l aq n R ab aD K:=⟨_,rfl⟩;rw[←aaY] at Sm gh gO;obtain⟨X,eZ⟩:=Sm;have Sn:=eZ.all;have K2:=eZ.I;have axa:=eZ.m;have Mt:2 < W.length:=km K2;simp only[go_sem,K2];refine uV Sn (by simp only[gx,dt,Bool.and_true];simp;omega) aaZ ?_;rintro _ rs ⟨rfl,xN⟩;rw[xN];refine⟨by simp,?_⟩;clear xN rs;simp only[go_sem];have LZ: ∀ x∈bw.1,(Lit.int .i64 x).wf=true:=fun x aj=>by
  have:=gh x aj;have bF:IntKind.i64.min= -9223372036854775808:=rfl;have bK:IntKind.i64.max=9223372036854775807:=rfl;simp only[Lit.wf,bF,bK];simp;omega
 obtain⟨Y,bf⟩:=bw;simp only at eZ gO LZ gh;have yj:jP (W++ [.ag 116 1 [[.bE 1]]]):=HF Sn (by simp[jc,mj,gx,dt];omega);refine uV yj (by simp[gx,dt]) (aba (a:=1) (b:=W.length) (ents:=de (nI X bf) Y) (Y:=Y) (bQ axa) (by rw[dH];rfl) (by simp[de]) eZ.HK LZ gO) ?_;rintro _ rs ⟨rfl,xN⟩;rw[xN];refine⟨by simp,?_⟩;clear xN rs;simp only[go_sem,mV];have abb: (fq Y).Perm Y:=by unfold fq;exact List.mergeSort_perm Y _
 have axb: (fq Y).length≤1000000:=by rw[abb.length_eq];exact gO
 have So: ∀ B∈fq Y,B∈Y:=fun B ay=>abb.mem_iff.1 ay;generalize axc:fq Y=fj at *;refine dN (fun D r=> ∃ c:Nat,c≤fj.length∧D= [(23,.bd 0 1 0 0),(24,.own 2 c 0 c),(112,.pure 1 (cJ .i64 fj)),(113,.int .i64 fj.length),(114,.int .i64 c)]∧r= [.ag 118 3 [[.int .i64 R,.int .i64 ab,.bE 1]],.be (.map false [.int .i64] (de (Ar bf) Y)),.ag 76 3 ((fj.take c).map (pU bf))])
  (fun D _=>match bs D 114 with| .int _ j=>(fj.length-j).toNat|_=>0) ?_ ?_
 ·refine E.drop (by omega) Sn (by simp[Ez,dt];omega) ?_;refine E.jN [some 2,some 1] (List.range W.length) rfl rfl (axd eZ) ?_;have axe:bW W [some 2,some 1] (List.range W.length) (.bd 2 1 0 0)= .bd 0 1 0 0:=by simp[bW,hE]
  simp only[List.map_cons,List.map_nil,axe,tv _ (show bJ F.bH=true from rfl),tv _ (show bJ (.pure 1 (cJ .i64 fj))=true by simp only[bJ,DZ]),tv _ (show bJ (.int .i64 fj.length)=true from rfl),tv _ (show bJ (.int .i64 0)=true from rfl)]
  (refine E.iv 24 76 3 rfl (E.eW [23,24,112,113,114] ?_);simp only[go_sem])
  exact E.ac ⟨0,by omega,rfl,rfl⟩
 rintro D r ⟨c,av,rfl,rfl⟩;have aP:=dB (c:=c) (by omega)
 by_cases aI:c < fj.length
 ·have h1:decide ((c:Int) < fj.length)=true:=decide_eq_true (by omega);have tM: (0:Int)≤c:=by omega
  have tN: (c:Int) < fj.length:=by omega
  have nM: (cJ .i64 fj).getD c []= [.int .i64 fj[c]]:=by rw[tw aI,List.getD_eq_getElem?_getD,List.getElem?_eq_getElem aI,Option.getD_some]
  have hw:dm (.int .i64 fj[c]) (de (Ar bf) Y)=some (.agg [.int .i64 fj[c],pk bf fj[c] false,pk bf fj[c] true]):=by rw[EW,if_pos (So _ (List.getElem_mem aI))];rfl
  have Bx:Abs.cV (pk bf fj[c] false)=true:=abc;have iK:Abs.cV (pk bf fj[c] true)=true:=abc;have qC: (fj.take c).map (pU bf)++ [[.int .i64 fj[c],pk bf fj[c] false,pk bf fj[c] true]]=(fj.take (c+1)).map (pU bf):=by
   rw[List.take_succ_eq_append_getElem aI,List.map_append];rfl
  simp only[go_sem,qN,pj,h1,tM,tN,nM,mV,hw,aP,Bx,iK];refine⟨by simp;omega,by omega,?_⟩;rw[qC];have axf:jP [.ag 118 3 [[.int .i64 R,.int .i64 ab,.bE 1]],.be (.map false [.int .i64] (de (Ar bf) Y)),.ag 76 3 ((fj.take (c+1)).map (pU bf))]:=by
   intro z bG N
   match z,N with
   |0,N=>cases N;rfl
   |1,N=>cases N;exact LQ fun B _=>Lk _ (by unfold Ar;simp only[bJ,bU,abd eZ.fX,Bool.and_self])
   |2,N=>cases N;exact kA (Sp eZ.fX)
   |z+3,N=>simp at N
  refine E.drop (r:= [_,_,_]) (t:= [_]) (by simp) axf (by simp[Ez,dt]) ?_;refine E.ac ⟨⟨c+1,by omega,rfl,rfl⟩,?_⟩;simp only[go_sem];omega
 have h1:decide ((c:Int) < fj.length)=false:=decide_eq_false (by omega);simp only[go_sem,qN,pj,h1];obtain rfl:c=fj.length:=by omega
 rw[List.take_length];have abe:dY (fj.map (pU bf))=true:=Sp eZ.fX;have nL: ∀ r0 r1:Z,bW [r0,r1,.ag 76 3 (fj.map (pU bf))] [] [2] (.own 2 fj.length 0 fj.length)= .pure 3 (fj.map (pU bf)):=fun r0 r1=>qx rfl rfl rfl (by simp) abe;have yx: ∀ r0 r1:Z,bW [r0,r1,.ag 76 3 (fj.map (pU bf))] [] [2] (.bo [.own 2 fj.length 0 fj.length,.int .i64 0])= .bo [.pure 3 (fj.map (pU bf)),.int .i64 0]:=fun r0 r1=>by
  rw[bW];simp only[dT,nL];rfl
 refine E.jN [] [2] rfl rfl (by simp only[go_sem]<;>rfl) ?_;have nF:List.take fj.length (fj.map (pU bf))=fj.map (pU bf):=List.take_of_length_le (by simp);simp only[go_sem,yx,List.length_map,abe,nF];exact E.ac ⟨⟨aD,K,fC,sz,rC,by rw[←aaY];show _=F.bo [.pure 3 ((fq Y).map (pU bf)),.int .i64 0];rw[axc];rfl⟩,rfl⟩
noncomputable def ne (z:eD)(ae:List cw)(l:List Ib.Ev)(aq:List eH)(n B:Int):List nb:=
 (if decide (B∈iO (fT z ae l n)) then (Ib.pQ (fT z ae l n) B).map fun t=>⟨t.name,t.min⟩ else [])++((lB z ae l n).filter fun p=>decide (p.ah=B)).map (fun p=>⟨p.name,p.min⟩)++An (nP ae n B aq)
noncomputable def sG (z:eD)(l:List Ib.Ev)(n B:Int):List kn:=((Pr.tY (kZ l n) z.fz).filter (Fb z.M B)).map fun a=>⟨a.cB,a.time⟩
noncomputable def pl (z:eD)(ae:List cw)(l:List Ib.Ev)(aq:List eH)(n B:Int):Option CK:=
 if (ne z ae l aq n B).length+(sG z l n B).length=0 then none else some ⟨B,ne z ae l aq n B,sG z l n B⟩
noncomputable def jp (z:eD)(ae:List cw)(l:List Ib.Ev)(aq:List eH)(n R ab:Int):List CK:=((List.range (ab-R+1).toNat).map fun (j:Nat)=>R+(j:Int)).filterMap (pl z ae l aq n)
theorem abl {aa:List Ib.cF}{B:Int}: ∀ {aD:List Int},aD.Nodup→((jv aa aD).filter fun x=>decide (x.1=B)).map (·.2)=if decide (B∈aD) then (Ib.pQ aa B).map fun t=> [F.str t.name,.int .i64 t.min] else []
 | [],_=>by simp[jv]
 |e::aD,h=>by
  rw[List.nodup_cons] at h;have ih:=abl (aa:=aa) (B:=B) h.2;have bF:jv aa (e::aD)=jf aa e++jv aa aD:=rfl;rw[bF,List.filter_append,List.map_append,ih]
  by_cases he:e=B
  ·subst he;have es: (jf aa e).filter (fun x=>decide (x.1=e))=jf aa e:=List.filter_eq_self.2 fun x aj=>by
    unfold jf at aj;obtain⟨t,_,rfl⟩:=List.mem_map.1 aj;simp
   rw[es,if_neg (by simpa using h.1),if_pos (by simp),List.append_nil];unfold jf;rw[List.map_map];rfl
  ·have es: (jf aa e).filter (fun x=>decide (x.1=B))= []:=List.filter_eq_nil_iff.2 fun x aj=>by
    unfold jf at aj;obtain⟨t,_,rfl⟩:=List.mem_map.1 aj;simpa using he
   rw[es,List.map_nil,List.nil_append];have: (B∈e::aD)↔B∈aD:=by
    rw[List.mem_cons];exact⟨fun h=>h.resolve_left fun x=>he x.symm,.inr⟩
   simp only[this]
theorem abi {z:eD}{ae:List cw}{l:List Ib.Ev}{aq:List eH}{n R ab:Int}{aD:List Int}{K:List cv}(fC:aD.Perm (iO (fT z ae l n)))(sz:K.Perm (gJ n aq))(rC:K.Pairwise pN){B:Int}(ay:R≤B∧B≤ab):
 (pT z ae l aq n R ab aD K).2 B false=ai (ne z ae l aq n B):=by
 have Im:=H6 (aa:=fT z ae l n) (c:=(fT z ae l n).length) (Nat.le_refl _);rw[List.take_length] at Im;unfold pT ne;rw[(Ap _ _).2.1,(Aq _ _).1,if_pos ay,List.nil_append,List.filter_append,List.filter_append,List.map_append,List.map_append,abl (fC.nodup_iff.2 Im.1)];have iI: (B∈aD)↔B∈iO (fT z ae l n):=fC.mem_iff;simp only[iI];have bF: ((ko (lB z ae l n)).filter fun x=>decide (x.1=B)).map (·.2)=ai (((lB z ae l n).filter fun p=>decide (p.ah=B)).map fun p=>(⟨p.name,p.min⟩:nb)):=by
  unfold ko ai;rw[List.filter_map,List.map_map,List.map_map];rfl
 have bK: ((rH (eb ae n aq) K).filter fun x=>decide (x.1=B)).map (·.2)=ai (An (nP ae n B aq)):=by
  rw[awE (B:=B) sz rC];unfold rH CF ai;rw[List.filter_map,List.map_map,List.map_map,List.filter_filter];have gX: (K.filter fun k=>((fun x:Int×List F=>decide (x.1=B))∘fun k:cv=>(k.B,[F.str k.n,.int .i64 (eb ae n aq k)])) k&&decide (0 < eb ae n aq k))=K.filter fun k=>decide (k.B=B∧0 < eb ae n aq k):=List.filter_congr fun k _=>by simp[Function.comp]
  rw[gX];rfl
 rw[bF,bK];unfold ai;rw[List.map_append,List.map_append];congr 2;split
 ·rw[List.map_map];rfl
 ·rfl
theorem abj {z:eD}{ae:List cw}{l:List Ib.Ev}{aq:List eH}{n R ab:Int}{aD:List Int}{K:List cv}{B:Int}(ay:R≤B∧B≤ab):
 (pT z ae l aq n R ab aD K).2 B true=ai (sG z l n B):=by
 unfold pT sG ai;rw[(Ap _ _).1,(Aq _ _).2.1,if_pos ay,List.nil_append,List.map_map];rfl
theorem abf {R ab:Int}: ∀ (aY:List (Int×List F)) (bw:List Int×(Int→Bool→List (List F))),bw.1.Nodup→(eS R ab bw aY).1.Nodup
 | [],bw,h=>h
 |x::aY,bw,h=>by
  have e:eS R ab bw (x::aY)=eS R ab (nN R ab bw x) aY:=rfl;rw[e];refine abf aY _ ?_;unfold nN;split
  ·exact E4 h
  ·exact h
theorem abg {M:cc}{R ab:Int}: ∀ (aY:List Pr.kn) (bw:List Int×(Int→Bool→List (List F))),bw.1.Nodup→(kY M R ab bw aY).1.Nodup
 | [],bw,h=>h
 |x::aY,bw,h=>by
  have e:kY M R ab bw (x::aY)=kY M R ab (qF M R ab bw x) aY:=rfl;rw[e];refine abg aY _ ?_;unfold qF;split
  ·exact E4 h
  ·exact h
def CJ (R ab:Int):List Int:=(List.range (ab-R+1).toNat).map fun (j:Nat)=>R+(j:Int)
theorem abh {R ab B:Int}:B∈CJ R ab↔R≤B∧B≤ab:=by
 unfold CJ;rw[List.mem_map];constructor
 ·rintro⟨j,aX,rfl⟩;rw[List.mem_range] at aX;omega
 ·rintro⟨h1,G⟩;exact⟨(B-R).toNat,by rw[List.mem_range];omega,by omega⟩
theorem axg (R ab:Int): (CJ R ab).Pairwise (·< ·):=by
 unfold CJ;rw[List.pairwise_map];exact List.pairwise_lt_range.imp fun h=>by omega
theorem axh {z:eD}{ae:List cw}{l:List Ib.Ev}{aq:List eH}{n R ab:Int}{aD:List Int}{K:List cv}(fC:aD.Perm (iO (fT z ae l n)))(sz:K.Perm (gJ n aq))(rC:K.Pairwise pN){B:Int}:
 B∈(pT z ae l aq n R ab aD K).1↔(R≤B∧B≤ab)∧(pl z ae l aq n B).isSome=true:=by
 have se: (pl z ae l aq n B).isSome=true↔0 < (ne z ae l aq n B).length∨0 < (sG z l n B).length:=by
  unfold pl;split
  ·exact⟨fun h=>(by cases h),fun h=>by omega⟩
  ·exact⟨fun _=>by omega,fun _=>rfl⟩
 rw[se]
 by_cases ay:R≤B∧B≤ab
 ·have h1:=congrArg List.length (abi (R:=R) (ab:=ab) fC sz rC ay);have G:=congrArg List.length (abj (z:=z) (ae:=ae) (l:=l) (aq:=aq) (n:=n) (R:=R) (ab:=ab) (aD:=aD) (K:=K) ay);rw[bT] at h1 G;unfold pT at h1 G ⊢;rw[(Ap _ _).2.1,(Aq _ _).1,if_pos ay,List.nil_append,List.length_map] at h1;rw[(Ap _ _).1,(Aq _ _).2.1,if_pos ay,List.nil_append,List.length_map] at G;rw[(Ap _ _).2.2,(Aq _ _).2.2,←h1,←G];simp only[List.not_mem_nil,false_or,ay,true_and,and_self,List.length_pos_iff_exists_mem,List.mem_filter,decide_eq_true_eq]
 ·unfold pT;rw[(Ap _ _).2.2,(Aq _ _).2.2];constructor
  ·rintro ((h|⟨a,b,_⟩)|⟨a,b,_⟩)
   ·cases h
   ·exact absurd ⟨a,b⟩ ay
   ·exact absurd ⟨a,b⟩ ay
  ·rintro⟨h,_⟩;exact absurd h ay
theorem axi {z:eD}{ae:List cw}{l:List Ib.Ev}{aq:List eH}{n R ab:Int}{aD:List Int}{K:List cv}(fC:aD.Perm (iO (fT z ae l n)))(sz:K.Perm (gJ n aq))(rC:K.Pairwise pN):
 fq (pT z ae l aq n R ab aD K).1=(CJ R ab).filter fun B=>(pl z ae l aq n B).isSome:=by
 have p:=(axg R ab).filter fun B=>(pl z ae l aq n B).isSome;refine abk ((List.perm_ext_iff_of_nodup (p.imp fun h=>by omega) ?_).2 fun B=> ?_) (p.imp fun h=>by omega)
 ·unfold pT;exact abg _ _ (abf _ _ List.nodup_nil)
 ·rw[List.mem_filter,abh,axh fC sz rC]
theorem axj (z:eD)(hh:z.ao.length≤1000000)(aP:z.al.length≤1000000)(ae:List cw)(gy:ae.length≤1000000)(l:List Ib.Ev)(hl:l.length≤1000000)(aq:List eH)
 (hV: ∀ a∈aq,aO prog 40 [.agg (aJ.J a)] [] (fun v rs=>v= .bool true∧rs= [])) (aA: ∀ a∈aq,Cl a) (ki: ∀ a∈aq,(Lit.int .i64 a.ah).wf=true∧a.name.size≤maxLen) (n R ab:Int) (dp:E9 aq R ab=0):
 aO prog 11 [.agg z.J,.pure 3 (ai ae),.pure 7 (ai l),.pure 4 (ai aq),.int .i64 n,.int .i64 R,.int .i64 ab] []
  (fun v rs=>(if rG z ae l n=0 then v= .bo [.pure 3 (ai (jp z ae l aq n R ab)),.int .i64 0] else v= .bo [.bH,.int .i64 (rG z ae l n)])∧rs= []):=by
 refine aO.awN (awR z hh aP ae gy l hl aq hV aA ki n R ab dp) ?_;rintro v rs ⟨h,rfl⟩
 by_cases h0:rG z ae l n=0
 rotate_left
 ·rw[if_neg h0] at h;exact⟨v,⟨by rw[if_neg h0];exact h,rfl⟩,fun _ _ h=>h⟩
 rw[if_pos h0] at h;obtain⟨aD,K,fC,sz,rC,rfl⟩:=h;refine⟨_,⟨by rw[if_pos h0],rfl⟩,fun C x aj=> ?_⟩;rw[Rep] at aj ⊢;obtain⟨vs,rfl,aj⟩:=aj;refine⟨vs,rfl,?_⟩;rw[aE] at aj ⊢;obtain⟨a,bS,e,h1,G⟩:=aj;refine⟨a,bS,e,?_,G⟩;rw[axi fC sz rC] at h1;have bF:ai (jp z ae l aq n R ab)=((CJ R ab).filter fun B=>(pl z ae l aq n B).isSome).map fun B=> [F.int .i64 B,.pure 2 (ai (ne z ae l aq n B)),.pure 2 (ai (sG z l n B))]:=by
  have key: ∀ ds:List Int,ai (ds.filterMap (pl z ae l aq n))=(ds.filter fun B=>(pl z ae l aq n B).isSome).map fun B=> [F.int .i64 B,.pure 2 (ai (ne z ae l aq n B)),.pure 2 (ai (sG z l n B))]:=by
   intro ds
   induction ds with
   |nil=>rfl
   |cons B ds ih=>
    rw[List.filterMap_cons,List.filter_cons];cases h:pl z ae l aq n B with
    |none=>simpa using ih
    |some y=>
     have bt:y=⟨B,ne z ae l aq n B,sG z l n B⟩:=by
      unfold pl at h;split at h
      ·cases h
      ·cases h;rfl
     simp only[Option.isSome_some,if_true,List.map_cons,ai] at ih ⊢;rw[ih,bt];rfl
  exact key (CJ R ab)
 rw[bF];refine awF (fun B ay=> ?_) h1;have N:=abh.1 (List.mem_filter.1 ay).1;unfold pU pk;rw[abi fC sz rC N,abj N,bT,bT];refine⟨rfl,?_,?_,trivial⟩
 ·split
  ·rename_i h;rw[List.length_eq_zero_iff.1 h];simp[le,ai]
  ·exact le_refl _ (fun q h=>by cases h) (fun q h=>by cases h)
 ·split
  ·rename_i h;rw[List.length_eq_zero_iff.1 h];simp[le,ai]
  ·exact le_refl _ (fun q h=>by cases h) (fun q h=>by cases h)
def LK (a:eH):Prop:=1≤a.bk∧a.bk≤2147483647∧0≤a.ah∧a.ah≤84005∧ -1≤a.min∧a.min≤1440
theorem auV (a:eH)(h:LK a)(aH:aO prog 108 [.str a.name] [] (fun v rs=>v= .bool true∧rs= [])):aO prog 40 [.agg (aJ.J a)] [] (fun v rs=>v= .bool true∧rs= []):=by
 obtain⟨h1,G,au,bv,cx,dx⟩:=h;have d1:decide (1≤a.bk)=true:=decide_eq_true h1;have ky:decide (a.bk≤2147483647)=true:=decide_eq_true G;have vZ:decide (0≤a.ah)=true:=decide_eq_true au;have zC:decide (a.ah≤84005)=true:=decide_eq_true bv;have Hw:decide (-1≤a.min)=true:=decide_eq_true cx;have Hx:decide (a.min≤1440)=true:=decide_eq_true dx;refine cu func40 Y1 (by simp[LL,QX]) ?_;simp only[go_sem,LL,QX,QV,d1,ky,vZ,zC,Hw,Hx,QY];refine bM aH rfl rfl ?_;simp only[go_sem,Hw,Hx,QY];exact E.bg rfl ⟨rfl,rfl⟩
end Go.Proofs.YtpincjkjoeopkaaGreatDoor
