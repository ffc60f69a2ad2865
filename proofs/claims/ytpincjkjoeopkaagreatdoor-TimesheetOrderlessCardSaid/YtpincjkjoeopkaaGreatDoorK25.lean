/- Time evaluation. -/
import Derived.Test.YtpincjkjoeopkaaGreatDoorK24
import Derived.Test.YtpincjkjoeopkaaGreatDoorK15
import Derived.Test.YtpincjkjoeopkaaGreatDoorK5
import Derived.Test.YtpincjkjoeopkaaGreatDoorK8
set_option linter.unusedSimpArgs false
set_option linter.unusedVariables false
set_option linter.unusedSectionVars false
namespace Go.Proofs.YtpincjkjoeopkaaGreatDoor
open Go Go.Abs Go.Proofs.Tryz
def pX (D:bZ)(J T:Int)(bq:List Int×(Int→Bool→List (List z)))(a:Pr.jQ):List Int×(Int→Bool→List (List z)):=
 if nC D a.time=0∧J≤lI D a.time∧lI D a.time≤T then (ea (lI D a.time) bq.1,gH bq.2 (lI D a.time) true [.int .i64 a.cH,.int .i64 a.time]) else bq
def kC (D:bZ)(J T:Int)(bq:List Int×(Int→Bool→List (List z)))(aU:List Pr.jQ):List Int×(Int→Bool→List (List z)):=aU.foldl (pX D J T) bq
theorem atE {D:bZ}{J T:Int}{bq:List Int×(Int→Bool→List (List z))}{aU:List Pr.jQ}{c:Nat}(an:c < aU.length):kC D J T bq (aU.take (c+1))=pX D J T (kC D J T bq (aU.take c)) aU[c]:=by
 unfold kC;rw[List.take_succ_eq_append_getElem an,List.foldl_append];rfl
theorem Yd {D:bZ}{J T:Int}: ∀ (aU:List Pr.jQ) (bq:List Int×(Int→Bool→List (List z))) (n:Nat),(∀ o k,(bq.2 o k).length≤n)→ ∀ o k,((kC D J T bq aU).2 o k).length≤n+aU.length
 | [],bq,n,h,o,k=>h o k
 |x::aU,bq,n,h,o,k=>by
  unfold kC;rw[List.foldl_cons];refine Nat.le_trans (Yd aU (pX D J T bq x) (n+1) (fun o k=> ?_) o k) (by rw[List.length_cons];omega);unfold pX;split
  ·show (gH bq.2 _ true _ o k).length≤n+1;unfold gH;split
   ·have:=h (lI D x.time) true;rw[List.length_append];simp;omega
   ·have:=h o k;omega
  ·have:=h o k;omega
set_option maxHeartbeats 4000000 in
theorem atF {d:List R}{E m:Nat}{J T:Int}{M:List Int}{ba:Int→Bool→List (List z)}(h0:hy d E m J T M ba)(cL: ∀ o k,(ba o k).length≤100000)(D:bZ)(jC:List Pr.jQ)(hl:jC.length≤100000):
 aK prog 46 [.aW E 1 0 0,D.v,.pure 2 (ac jC)] d
  (fun v W=>v= .bg []∧fY d W m∧hy W E m J T (kC D J T (M,ba) jC).1 (kC D J T (M,ba) jC).2):=by
 have fd:=jP h0.choose_spec.E;unfold bZ.v;refine hr func46 Ye (by simp[a46,GH]) ?_;simp only[go_sem,a46,GH]
 (repeat (first| (refine s.U ?_;simp only[go_sem,bO])|simp only[go_sem,bO]))
 obtain⟨xh,wg⟩: ∃ xh:R,xh= .aa 32 2 [[.int .i64 D.off,.pure 2 (ac D.cK)]]:=⟨_,rfl⟩;have atG: ∀ n,iM n xh=true:=fun n=>by rw[wg];exact kf (by simp only[eg,bP,bE,cw,Bool.and_self,Bool.and_true])
 have P8:fY d (d++ [xh]) m:=fY.lC;have ua:hy (d++ [xh]) E m J T M ba:=by
  obtain⟨xd,xe⟩:=h0;exact⟨xd,xe.ext (by intro bz hrow;rw[List.mem_singleton] at hrow;subst hrow;exact atG _)⟩
 have jq: (d++ [xh])[d.length]? =some xh:=by rw[dz];rfl
 refine gY (fun r W=> ∃ c:Nat,c≤jC.length∧r= [(0,.aW E 1 0 0),(4,.aW d.length 1 0 0),(11,.pure 2 (ac jC)),(12,.int .i64 jC.length),(13,.int .i64 c)]∧fY (d++ [xh]) W m∧hy W E m J T (kC D J T (M,ba) (jC.take c)).1 (kC D J T (M,ba) (jC.take c)).2)
  (fun r _=>match bn r 13 with| .int _ j=>(jC.length-j).toNat|_=>0) ?_ ?_
 ·rw[←wg];exact s.U ⟨0,by omega,rfl,fY.refl,ua⟩
 rintro r W ⟨c,an,rfl,hF,cU⟩;have aR:=dr (c:=c) (by omega);have Qi:W[d.length]? =some xh:=hF.2 _ _ jq (by have:=jP h0.choose_spec.m;omega) (fun k ah e=>by rw[wg] at e;simp at e;cases k<;>simp[sH] at e)
 by_cases aC:c < jC.length
 rotate_left
 ·have h1:decide ((c:Int) < jC.length)=false:=decide_eq_false (by omega);obtain rfl:c=jC.length:=by omega
  rw[List.take_length] at cU;simp only[go_sem,a46,GH]
  (repeat (first| (refine s.U ?_;simp only[go_sem,h1])|simp only[go_sem,h1]))
  exact s.U ⟨rfl,P8.trans hF,cU⟩
 have h1:decide ((c:Int) < jC.length)=true:=decide_eq_true (by omega);have z0: (0:Int)≤c:=by omega
 have lj: (c:Int) < jC.length:=by omega
 have ao: (ac jC).getD c []=aG.F jC[c]:=cQ aC;have dQ:=atE (D:=D) (J:=J) (T:=T) (bq:=(M,ba)) aC;have cB:=Yd (D:=D) (J:=J) (T:=T) (jC.take c) (M,ba) 100000 cL;have yQ: (jC.take c).length≤100000:=by simp;omega
 generalize jC[c]=a at *;generalize (kC D J T (M,ba) (jC.take c))=bq at *;obtain⟨qK,hU⟩:=bq;simp only at cB cU;obtain⟨X,h⟩:=cU;have ak:=h.E;have hm:=h.m;have fr:=Xl D a.time;unfold bZ.v at fr;rw[wg] at Qi;simp only[go_sem,a46,GH]
 (repeat (first| (refine s.U ?_;simp only[go_sem,h1,z0,lj,ao,bO,Pr.Yf,List.append_assoc,dE,dz,dW,dT,List.length_append,bL Qi])|simp only[go_sem,h1,z0,lj,ao,bO,Pr.Yf,List.append_assoc,dE,dz,dW,dT,List.length_append,bL Qi]))
 refine bH fr (by simp only[bP,bE,cw,Bool.and_self,Bool.and_true]) rfl ?_
 by_cases cY:nC D a.time=0
 rotate_left
 ·have q1: (nC D a.time != 0)=true:=by simp[cY]
  unfold pX at dQ;rw[if_neg (fun h=>cY h.1)] at dQ
  (repeat (first| (refine s.U ?_;simp only[go_sem,q1,aR])|simp only[go_sem,q1,aR]))
  exact⟨⟨c+1,by omega,rfl,hF.trans fY.lC,by rw[dQ];exact⟨X,h.ext (by intro bz hrow;rw[List.mem_singleton] at hrow;subst hrow;exact kf rfl)⟩⟩,by omega⟩
 rw[cY,if_pos rfl];unfold pX at dQ;simp only[cY,true_and] at dQ;generalize lI D a.time=ab at *
 by_cases aq:J≤ab∧ab≤T
 rotate_left
 ·rw[if_neg aq] at dQ
  by_cases d1:ab < J
  ·have q1:decide (ab < J)=true:=decide_eq_true d1
   (repeat (first| (refine s.U ?_;simp only[go_sem,q1,aR,List.append_assoc,dE,dz,dW,dT,List.length_append,bL ak])|simp only[go_sem,q1,aR,List.append_assoc,dE,dz,dW,dT,List.length_append,bL ak]))
   exact⟨⟨c+1,by omega,rfl,hF.trans fY.lC,by rw[dQ];exact⟨X,h.ext (by intro bz hrow;rw[List.mem_singleton] at hrow;subst hrow;exact kf rfl)⟩⟩,by omega⟩
  ·have q1:decide (ab < J)=false:=decide_eq_false d1;have eF:decide (T < ab)=true:=decide_eq_true (by omega)
   (repeat (first| (refine s.U ?_;simp only[go_sem,q1,eF,aR,List.append_assoc,dE,dz,dW,dT,List.length_append,bL ak])|simp only[go_sem,q1,eF,aR,List.append_assoc,dE,dz,dW,dT,List.length_append,bL ak]))
   exact⟨⟨c+1,by omega,rfl,hF.trans fY.lC,by rw[dQ];exact⟨X,h.ext (by intro bz hrow;rw[List.mem_singleton] at hrow;subst hrow;exact kf rfl)⟩⟩,by omega⟩
 rw[if_pos aq] at dQ;have q1:decide (ab < J)=false:=decide_eq_false (by omega);have eF:decide (T < ab)=false:=decide_eq_false (by omega);obtain⟨hT,ub⟩:=X2 (X:=X) (ab:=ab) h.dP;have aty:=cB ab true;have kI:Abs.cM (hc X hU ab false)=true:=X1;have uO: ∀ n,W.length≤n→di n (hc X hU ab false)=true:=fun n aB=>F1 aB _ (Qc h.lt ab false)
 by_cases ag:hU ab true= []
 ·have iT:hc X hU ab true= .bD:=by unfold hc;rw[ag];rfl
  rw[iT] at ub
  (repeat (first| (refine s.U ?_;simp only[go_sem,q1,eF,aR,List.append_assoc,dE,dz,dW,dT,List.length_append,bL ak,bL hm,ub,kI])|simp only[go_sem,q1,eF,aR,List.append_assoc,dE,dz,dW,dT,List.length_append,bL ak,bL hm,ub,kI]))
  obtain⟨pc,jg⟩:=X5 (aP:= [.aa 132 2 [[.int .i64 a.cH,.int .i64 a.time]],.aa 76 3 [[.int .i64 ab,hc X hU ab false,.own (W.length+3) 1 0 1]],.aa 132 2 [[.int .i64 a.cH,.int .i64 a.time]],.aa 132 2 [[.int .i64 a.cH,.int .i64 a.time]]]) h ab true [.int .i64 a.cH,.int .i64 a.time] rfl 3 _ ag rfl rfl (by
   simp only[List.mem_cons,List.not_mem_nil,or_false,forall_eq_or_imp,forall_eq,iM,lG,gl,di,uO _ (Nat.le_add_right _ _),List.length_cons,List.length_nil,Bool.and_true,Bool.true_and,decide_eq_true_eq,true_and,and_true];omega)
  exact⟨⟨c+1,by omega,rfl,hF.trans pc,by rw[dQ];exact jg⟩,by omega⟩
 ·have ad:=h.x ab true ag;have ae:0 < (hU ab true).length:=List.length_pos_iff.2 ag;have iT:hc X hU ab true= .own (X ab true) (hU ab true).length 0 (hU ab true).length:=by unfold hc;rw[if_neg (by omega)]
  rw[iT] at ub
  (repeat (first| (refine s.U ?_;simp only[go_sem,q1,eF,aR,List.append_assoc,dE,dz,dW,dT,List.length_append,bL ak,bL hm,bL ad,ub,kI])|simp only[go_sem,q1,eF,aR,List.append_assoc,dE,dz,dW,dT,List.length_append,bL ak,bL hm,bL ad,ub,kI]))
  refine⟨rfl,by omega,?_⟩;have sw:X ab true≠E:=fun e=>(by rw[e,ak] at ad;simp only[Option.some.injEq,R.aa.injEq] at ad;omega);have Fb:X ab true≠m:=fun e=>(by rw[e,hm] at ad;cases ad);have KB: (W.set (X ab true) (.aa 132 2 (hU ab true++ [[.int .i64 a.cH,.int .i64 a.time]])))[E]? =some (.aa 118 3 [[.int .i64 J,.int .i64 T,.bu m]]):=by rw[List.getElem?_set,if_neg sw];exact ak
  have nE: (W.set (X ab true) (.aa 132 2 (hU ab true++ [[.int .i64 a.cH,.int .i64 a.time]])))[m]? =some (.aY (.map false [.int .i64] (cX (mW X hU) qK))):=by rw[List.getElem?_set,if_neg Fb];exact hm
  have mX: (W.set (X ab true) (.aa 132 2 (hU ab true++ [[.int .i64 a.cH,.int .i64 a.time]]))).length=W.length:=List.length_set;have mo:=fun (aP:List R) hv=>X6 (aP:=aP) h ab true [.int .i64 a.cH,.int .i64 a.time] rfl _ ag rfl hv;simp only[sI ad];have GC: ∀ n,W.length≤n→di n (.own (X ab true) ((hU ab true).length+1) 0 ((hU ab true).length+1))=true:=fun n aB=>by
   have:=h.lt ab true ag;simp only[di,decide_eq_true_eq];omega
  simp only[show sH true=132 from rfl,if_true] at mo;generalize ua:W.set (X ab true) (.aa 132 2 (hU ab true++ [[.int .i64 a.cH,.int .i64 a.time]]))=az at *;simp only[←mX] at uO GC mo ⊢
  (repeat (first| (refine s.U ?_;simp only[go_sem,aR,List.append_assoc,bL KB,bL nE,dE,dz,dW,dT,List.length_append,kI])|simp only[go_sem,aR,List.append_assoc,bL KB,bL nE,dE,dz,dW,dT,List.length_append,kI]))
  obtain⟨pc,jg⟩:=mo [.aa 132 2 [[.int .i64 a.cH,.int .i64 a.time]],.aa 76 3 [[.int .i64 ab,hc X hU ab false,.own (X ab true) ((hU ab true).length+1) 0 ((hU ab true).length+1)]],.aa 132 2 [[.int .i64 a.cH,.int .i64 a.time]]] (by
   simp only[List.mem_cons,List.not_mem_nil,or_false,forall_eq_or_imp,forall_eq,iM,lG,gl,di,uO _ (Nat.le_add_right _ _),GC _ (Nat.le_add_right _ _),List.length_cons,List.length_nil,Bool.and_true,Bool.true_and,decide_eq_true_eq,true_and,and_true]
   all_goals (have:=h.lt ab true ag;omega))
  exact⟨⟨c+1,by omega,rfl,hF.trans pc,by rw[dQ];exact jg⟩,by omega⟩
end Go.Proofs.YtpincjkjoeopkaaGreatDoor
namespace Go.Proofs.YtpincjkjoeopkaaGreatDoor.Ib
open Go Go.Abs Go.Proofs.Tryz
def fx (l:List Int)(a:Int):R:=dK 143 l a
theorem Dn (v n:Int)(aB:0 < n)(FH:n≤9223372036854775807):aK prog 10 [.int .i64 v,.int .i64 n] [] (fun i d=>i= .int .i64 (mod v n)∧d= []):=by
 refine cr func10 Kb (by simp[tW,rC]) ?_;simp only[go_sem,tW,rC];refine⟨by omega,?_⟩;have h1:=Int.tmod_lt_of_pos v aB;refine cg ?_ ?_<;>intro ao<;>simp only[go_sem,tW,rC]<;>refine s.bb rfl ⟨?_,rfl⟩<;>simp only[decide_eq_true_eq,decide_eq_false_iff_not] at ao
 ·have B: -n < v.tmod n:=by
   have:=Int.lt_tmod_of_pos v aB;omega
  rw[bf (by omega) (by omega),mod,if_pos ao]
 ·rw[mod,if_neg ao]
theorem fB (l:List Int)(hl:kx l)(n:Int)(aB:n≤9223372036854775807):vd prog 143 64 [.int .i64 n] l (ON n):=by
 intro aD h0 h1;refine cr func64 Kd (by simp[tX,vn]) ?_;simp only[go_sem,tX,vn,dK];have cB:=hl.len
 repeat' ((first|refine gF ?_ ?_|refine gP ?_ ?_|refine cg ?_ ?_|refine dg ?_ ?_)<;>intro ao<;>(have ae:=ao;try simp only[bA] at ae)<;>(first|omega| (simp only[go_sem,ao,tX,vn];clear ao)))
 ·exact s.tape rfl h0 h1 ⟨0,rfl,by omega,by omega⟩
 ·exact s.tape rfl h0 h1 ⟨0,rfl,by omega,by omega⟩
 ·simp (disch:=omega) only[bf,sA,Int.add_sub_cancel];refine⟨by omega,by omega,by simp,?_⟩;simp only[go_sem];refine jd (Dn _ _ (by omega) aB) rfl rfl ?_;simp only[go_sem];have Z:=OO (v:=l.getD aD.toNat 0) (n:=n) (by omega);exact s.tape rfl (by omega) (by omega) ⟨_,rfl,by omega,by omega⟩
theorem gG (l:List Int)(hl:kx l)(ai:List Int)(ad:0 < ai.length)(rj:ai.length≤1000):AO prog 143 3 59 l ai (fun v=> ∃ x,x∈ai∧v= .int .i64 x):=by
 intro aD h0 h1;refine cr func59 Ke (by simp[yF,A9]) ?_;simp only[go_sem,yF,A9];refine wL (fB l hl _ (by omega)) rfl (by simp) h0 h1 ?_;rintro v a B am ⟨x,rfl,bp,cn⟩;simp only[go_sem];refine⟨by omega,by omega,?_⟩;rw[sA (by omega)];simp only[go_sem];refine s.U ⟨a,rfl,B,am,rfl,_,?_,rfl⟩;rw[List.getD_eq_getElem?_getD,List.getElem?_eq_getElem (by omega)];simp
theorem afI (l:List Int)(hl:kx l):vd prog 143 175 [] l (fun v=> ∃ t E:Int,v= .agg [.int .i64 t,.int .i64 E]∧0≤t∧t≤1∧0≤E∧E≤8):=by
 intro aD h0 h1;refine cr func175 adb (by simp[L1,R9]) ?_;simp only[go_sem,L1,R9]
 (refine ie (fB l hl 2 (by omega)) ?_;rintro _ aD _ _ ⟨x,rfl,_,_⟩;simp only[go_sem])
 (refine ie (fB l hl 9 (by omega)) ?_;rintro _ aD _ _ ⟨y,rfl,_,_⟩;simp only[go_sem])
 exact s.tape rfl (by omega) (by omega) ⟨x,y,rfl,by omega,by omega,by omega,by omega⟩
theorem Mq (l:List Int)(hl:kx l):vd prog 143 176 [] l (fun v=> ∃ t:Int,v= .int .i64 t∧29453760≤t∧t≤29470000):=by
 intro aD h0 h1;refine cr func176 ade (by simp[L2,Sa]) ?_;simp only[go_sem,L2,Sa]
 (refine ie (fB l hl 10 (by omega)) ?_;rintro _ aD _ _ ⟨x,rfl,_,_⟩;simp only[go_sem])
 (refine ie (fB l hl 97 (by omega)) ?_;rintro _ aD _ _ ⟨y,rfl,_,_⟩;simp only[go_sem])
 (refine ie (fB l hl 8 (by omega)) ?_;rintro _ aD _ _ ⟨D,rfl,_,_⟩;simp only[go_sem])
 have aS:D.tdiv 6=0∨D.tdiv 6=1:=by
  rw[Int.tdiv_eq_ediv_of_nonneg (by omega)];omega
 have Kk:IntKind.i64.wrap (D.tdiv 6)=D.tdiv 6:=bf (by omega) (by omega);refine⟨by decide,?_⟩;rw[Kk,bf (x:=x*1440) (by omega) (by omega),bf (x:=29453760+x*1440) (by omega) (by omega),bf (x:=y*15) (by omega) (by omega),bf (x:=29453760+x*1440+y*15) (by omega) (by omega),bf (by omega) (by omega)];exact s.tape rfl (by omega) (by omega) ⟨_,rfl,by omega,by omega⟩
structure bs where
 J:Int
 T:Int
def bs.cells (e:bs):List z:= [.int .i64 e.J,.int .i64 e.T]
instance:aG bs:=⟨bs.cells,2,fun _=>rfl,fun _=>rfl,fun _=>rfl⟩
theorem eM (e:bs):aG.F e= [.int .i64 e.J,.int .i64 e.T]:=rfl
theorem Sb:aG.N bs=2:=rfl
theorem Sc (e:bs):List.take 2 (aG.F e)=aG.F e:=rfl
attribute [go_sem] Sb Sc
structure Stamp where
 time:Int
 cH:Int
 da:Int
 M:Int
def Stamp.cells (e:Stamp):List z:= [.int .i64 e.time,.int .i64 e.cH,.int .i64 e.da,.int .i64 e.M]
instance:aG Stamp:=⟨Stamp.cells,4,fun _=>rfl,fun _=>rfl,fun _=>rfl⟩
theorem Mh (e:Stamp):aG.F e= [.int .i64 e.time,.int .i64 e.cH,.int .i64 e.da,.int .i64 e.M]:=rfl
theorem Sd:aG.N Stamp=4:=rfl
theorem Se (e:Stamp):List.take 4 (aG.F e)=aG.F e:=rfl
attribute [go_sem] Sd Se
structure Ev where
 da:Int
 M:Int
 bh:Int
 time:Int
 cH:Int
 ln:Int
 fa:Int
def Ev.cells (e:Ev):List z:= [.int .i64 e.da,.int .i64 e.M,.int .i64 e.bh,.int .i64 e.time,.int .i64 e.cH,.int .i64 e.ln,.int .i64 e.fa]
instance:aG Ev:=⟨Ev.cells,7,fun _=>rfl,fun _=>rfl,fun _=>rfl⟩
theorem us (e:Ev):aG.F e= [.int .i64 e.da,.int .i64 e.M,.int .i64 e.bh,.int .i64 e.time,.int .i64 e.cH,.int .i64 e.ln,.int .i64 e.fa]:=rfl
theorem aBH:aG.N Ev=7:=rfl
theorem aBI (e:Ev):List.take 7 (aG.F e)=aG.F e:=rfl
attribute [go_sem] aBH aBI
theorem Ev.ext' {a b:Ev}(h0:a.da=b.da)(h1:a.M=b.M)(B:a.bh=b.bh)(am:a.time=b.time)(bp:a.cH=b.cH)(cn:a.ln=b.ln)(dj:a.fa=b.fa):a=b:=by
 cases a;cases b;simp_all
structure Ky where
 t:Int
 E:Int
def Ky.cells (e:Ky):List z:= [.int .i64 e.t,.int .i64 e.E]
instance:aG Ky:=⟨Ky.cells,2,fun _=>rfl,fun _=>rfl,fun _=>rfl⟩
theorem aBg (e:Ky):aG.F e= [.int .i64 e.t,.int .i64 e.E]:=rfl
theorem aBJ:aG.N Ky=2:=rfl
theorem aBK (e:Ky):List.take 2 (aG.F e)=aG.F e:=rfl
attribute [go_sem] aBJ aBK
theorem Ky.ext' {a b:Ky}(h0:a.t=b.t)(h1:a.E=b.E):a=b:=by
 cases a;cases b;simp_all
structure fS where
 ab:Int
 J:Int
 T:Int
def fS.cells (e:fS):List z:= [.int .i64 e.ab,.int .i64 e.J,.int .i64 e.T]
instance:aG fS:=⟨fS.cells,3,fun _=>rfl,fun _=>rfl,fun _=>rfl⟩
theorem Mi (e:fS):aG.F e= [.int .i64 e.ab,.int .i64 e.J,.int .i64 e.T]:=rfl
theorem aBL:aG.N fS=3:=rfl
theorem aBM (e:fS):List.take 3 (aG.F e)=aG.F e:=rfl
attribute [go_sem] aBL aBM
theorem afB {l:List Stamp}{a b F o:Int}:ac l++ [[.int .i64 a,.int .i64 b,.int .i64 F,.int .i64 o]]=ac (l++ [⟨a,b,F,o⟩]):=kz (x:=Stamp.mk a b F o)
theorem aBN {l:List fS}{a b F:Int}:ac l++ [[.int .i64 a,.int .i64 b,.int .i64 F]]=ac (l++ [⟨a,b,F⟩]):=kz (x:=fS.mk a b F)
theorem R3 {l:List Ev}{a b F o e f g:Int}:ac l++ [[.int .i64 a,.int .i64 b,.int .i64 F,.int .i64 o,.int .i64 e,.int .i64 f,.int .i64 g]]=ac (l++ [⟨a,b,F,o,e,f,g⟩]):=kz (x:=Ev.mk a b F o e f g)
structure eP where
 ab:Int
 gp:List bs
def eP.cells (w:eP):List z:= [.int .i64 w.ab,.pure 2 (ac w.gp)]
theorem aBO (w:eP):w.cells.all Abs.cM=true:=by simp[eP.cells,Abs.cM]
theorem aBP (w:eP):bP w.cells=true:=by simp[eP.cells,bP,bE]
instance:aG eP:=⟨eP.cells,2,fun _=>rfl,aBP,aBO⟩
theorem afJ (w:eP):aG.F w= [.int .i64 w.ab,.pure 2 (ac w.gp)]:=rfl
theorem Sf:aG.N eP=2:=rfl
theorem Sg (w:eP):List.take 2 (aG.F w)=aG.F w:=rfl
attribute [go_sem] Sf Sg
structure jU where
 name:ByteArray
 after:Int
def jU.cells (w:jU):List z:= [.str w.name,.int .i64 w.after]
instance:aG jU:=⟨jU.cells,2,fun _=>rfl,fun _=>rfl,fun _=>rfl⟩
theorem Mr (w:jU):aG.F w= [.str w.name,.int .i64 w.after]:=rfl
theorem aBQ:aG.N jU=2:=rfl
theorem aBR (w:jU):List.take 2 (aG.F w)=aG.F w:=rfl
attribute [go_sem] aBQ aBR
theorem afi {l:List jU}{a:ByteArray}{b:Int}:ac l++ [[.str a,.int .i64 b]]=ac (l++ [⟨a,b⟩]):=kz (x:=jU.mk a b)
structure iQ where
 name:ByteArray
 min:Int
def iQ.cells (w:iQ):List z:= [.str w.name,.int .i64 w.min]
instance:aG iQ:=⟨iQ.cells,2,fun _=>rfl,fun _=>rfl,fun _=>rfl⟩
theorem QR (w:iQ):aG.F w= [.str w.name,.int .i64 w.min]:=rfl
theorem aBS:aG.N iQ=2:=rfl
theorem aBT (w:iQ):List.take 2 (aG.F w)=aG.F w:=rfl
attribute [go_sem] aBS aBT
theorem aBU {l:List iQ}{a:ByteArray}{b:Int}:ac l++ [[.str a,.int .i64 b]]=ac (l++ [⟨a,b⟩]):=kz (x:=iQ.mk a b)
structure cx where
 ab:Int
 J:Int
 T:Int
 ep:ByteArray
def cx.cells (w:cx):List z:= [.int .i64 w.ab,.int .i64 w.J,.int .i64 w.T,.str w.ep]
instance:aG cx:=⟨cx.cells,4,fun _=>rfl,fun _=>rfl,fun _=>rfl⟩
theorem yY (w:cx):aG.F w= [.int .i64 w.ab,.int .i64 w.J,.int .i64 w.T,.str w.ep]:=rfl
theorem Si:aG.N cx=4:=rfl
theorem aBV (w:cx):List.take 4 (aG.F w)=aG.F w:=rfl
attribute [go_sem] Si aBV
theorem Ms {l:List cx}{a b F:Int}{o:ByteArray}:ac l++ [[.int .i64 a,.int .i64 b,.int .i64 F,.str o]]=ac (l++ [⟨a,b,F,o⟩]):=kz (x:=cx.mk a b F o)
def aBW:Go.Shelf.Ren:=
 {f:=fun x=>match x with|6=>146|15=>158|14=>221|28=>241|29=>242|20=>276|21=>277|22=>278|23=>279|24=>280|25=>281|26=>282|27=>283|46=>339|47=>290|48=>291|49=>340|50=>341|57=>362|n=>n,
  t:=fun x=>match x with|22=>80|24=>177|25=>271|3=>3|39=>284|0=>0|53=>347|55=>349|4=>4|46=>341|45=>340|50=>206|5=>5|9=>9|66=>376|70=>380|76=>412|77=>308|n=>n,
  g:=fun n=>n}
set_option maxRecDepth 100000 in
theorem aA4:SlLaysF0.n6 prog aBW where
 mixed:=by kernel_rfl
 f6:=⟨"slices.SortFunc[[]payroll/api.Stamp,payroll/api.Stamp]",by decide,Eq.trans func146 (congrArg some (by kernel_rfl))⟩
 f14:=⟨"slices.pdqsortCmpFunc[payroll/api.Stamp]",by decide,Eq.trans func221 (congrArg some (by kernel_rfl))⟩
 f15:=Eq.trans func158 (congrArg some (by kernel_rfl))
 f20:=⟨"slices.insertionSortCmpFunc[payroll/api.Stamp]",by decide,Eq.trans func276 (congrArg some (by kernel_rfl))⟩
 f21:=⟨"slices.heapSortCmpFunc[payroll/api.Stamp]",by decide,Eq.trans func277 (congrArg some (by kernel_rfl))⟩
 f22:=⟨"slices.breakPatternsCmpFunc[payroll/api.Stamp]",by decide,Eq.trans func278 (congrArg some (by kernel_rfl))⟩
 f23:=⟨"slices.choosePivotCmpFunc[payroll/api.Stamp]",by decide,Eq.trans func279 (congrArg some (by kernel_rfl))⟩
 f24:=⟨"slices.reverseRangeCmpFunc[payroll/api.Stamp]",by decide,Eq.trans func280 (congrArg some (by kernel_rfl))⟩
 f25:=⟨"slices.partialInsertionSortCmpFunc[payroll/api.Stamp]",by decide,Eq.trans func281 (congrArg some (by kernel_rfl))⟩
 f26:=⟨"slices.partitionEqualCmpFunc[payroll/api.Stamp]",by decide,Eq.trans func282 (congrArg some (by kernel_rfl))⟩
 f27:=⟨"slices.partitionCmpFunc[payroll/api.Stamp]",by decide,Eq.trans func283 (congrArg some (by kernel_rfl))⟩
 f28:=Eq.trans func241 (congrArg some (by kernel_rfl))
 f29:=Eq.trans func242 (congrArg some (by kernel_rfl))
 f46:=⟨"slices.siftDownCmpFunc[payroll/api.Stamp]",by decide,Eq.trans func339 (congrArg some (by kernel_rfl))⟩
 f47:=Eq.trans func290 (congrArg some (by kernel_rfl))
 f48:=Eq.trans func291 (congrArg some (by kernel_rfl))
 f49:=⟨"slices.medianAdjacentCmpFunc[payroll/api.Stamp]",by decide,Eq.trans func340 (congrArg some (by kernel_rfl))⟩
 f50:=⟨"slices.medianCmpFunc[payroll/api.Stamp]",by decide,Eq.trans func341 (congrArg some (by kernel_rfl))⟩
 f57:=⟨"slices.order2CmpFunc[payroll/api.Stamp]",by decide,Eq.trans func362 (congrArg some (by kernel_rfl))⟩
 t0:=underlying0
 a0:=isAgg0
 z0:=sizeOf0
 v0:=zeroValue0
 t3:=underlying3
 a3:=isAgg3
 z3:=sizeOf3
 v3:=zeroValue3
 t4:=underlying4
 a4:=isAgg4
 z4:=sizeOf4
 v4:=zeroValue4
 t5:=underlying5
 a5:=isAgg5
 z5:=sizeOf5
 v5:=zeroValue5
 t9:=underlying9
 a9:=isAgg9
 z9:=sizeOf9
 v9:=zeroValue9
 t22:=underlying80
 a22:=isAgg80
 z22:=sizeOf80
 v22:=zeroValue80
 t25:=underlying271
 a25:=isAgg271
 z25:=sizeOf271
 v25:=zeroValue271
 t39:=underlying284
 a39:=isAgg284
 z39:=sizeOf284
 v39:=zeroValue284
 t45:=underlying340
 a45:=isAgg340
 z45:=sizeOf340
 v45:=zeroValue340
 t46:=underlying341
 a46:=isAgg341
 z46:=sizeOf341
 v46:=zeroValue341
 t50:=underlying206
 a50:=isAgg206
 z50:=sizeOf206
 v50:=zeroValue206
 t53:=underlying347
 a53:=isAgg347
 z53:=sizeOf347
 v53:=zeroValue347
 t55:=underlying349
 a55:=isAgg349
 z55:=sizeOf349
 v55:=zeroValue349
 t66:=underlying376
 a66:=isAgg376
 z66:=sizeOf376
 v66:=zeroValue376
 t70:=underlying380
 a70:=isAgg380
 z70:=sizeOf380
 v70:=zeroValue380
 t76:=underlying412
 a76:=isAgg412
 z76:=sizeOf412
 v76:=zeroValue412
 t77:=underlying308
 a77:=isAgg308
 z77:=sizeOf308
 v77:=zeroValue308
def aBX:Go.Shelf.Ren:=
 {f:=fun x=>match x with|6=>195|15=>158|14=>256|28=>241|29=>242|20=>314|21=>315|22=>316|23=>317|24=>318|25=>319|26=>320|27=>321|46=>349|47=>290|48=>291|49=>350|50=>351|57=>365|n=>n,
  t:=fun x=>match x with|22=>210|24=>216|25=>306|3=>3|39=>284|0=>0|53=>347|55=>349|4=>4|46=>341|45=>340|50=>206|5=>5|9=>9|66=>376|70=>380|76=>412|77=>308|n=>n,
  g:=fun n=>n}
set_option maxRecDepth 100000 in
theorem aA6:SlLaysF0.n6 prog aBX where
 mixed:=by kernel_rfl
 f6:=⟨"slices.SortFunc[[]payroll/overtime.span,payroll/overtime.span]",by decide,Eq.trans func195 (congrArg some (by kernel_rfl))⟩
 f14:=⟨"slices.pdqsortCmpFunc[payroll/overtime.span]",by decide,Eq.trans func256 (congrArg some (by kernel_rfl))⟩
 f15:=Eq.trans func158 (congrArg some (by kernel_rfl))
 f20:=⟨"slices.insertionSortCmpFunc[payroll/overtime.span]",by decide,Eq.trans func314 (congrArg some (by kernel_rfl))⟩
 f21:=⟨"slices.heapSortCmpFunc[payroll/overtime.span]",by decide,Eq.trans func315 (congrArg some (by kernel_rfl))⟩
 f22:=⟨"slices.breakPatternsCmpFunc[payroll/overtime.span]",by decide,Eq.trans func316 (congrArg some (by kernel_rfl))⟩
 f23:=⟨"slices.choosePivotCmpFunc[payroll/overtime.span]",by decide,Eq.trans func317 (congrArg some (by kernel_rfl))⟩
 f24:=⟨"slices.reverseRangeCmpFunc[payroll/overtime.span]",by decide,Eq.trans func318 (congrArg some (by kernel_rfl))⟩
 f25:=⟨"slices.partialInsertionSortCmpFunc[payroll/overtime.span]",by decide,Eq.trans func319 (congrArg some (by kernel_rfl))⟩
 f26:=⟨"slices.partitionEqualCmpFunc[payroll/overtime.span]",by decide,Eq.trans func320 (congrArg some (by kernel_rfl))⟩
 f27:=⟨"slices.partitionCmpFunc[payroll/overtime.span]",by decide,Eq.trans func321 (congrArg some (by kernel_rfl))⟩
 f28:=Eq.trans func241 (congrArg some (by kernel_rfl))
 f29:=Eq.trans func242 (congrArg some (by kernel_rfl))
 f46:=⟨"slices.siftDownCmpFunc[payroll/overtime.span]",by decide,Eq.trans func349 (congrArg some (by kernel_rfl))⟩
 f47:=Eq.trans func290 (congrArg some (by kernel_rfl))
 f48:=Eq.trans func291 (congrArg some (by kernel_rfl))
 f49:=⟨"slices.medianAdjacentCmpFunc[payroll/overtime.span]",by decide,Eq.trans func350 (congrArg some (by kernel_rfl))⟩
 f50:=⟨"slices.medianCmpFunc[payroll/overtime.span]",by decide,Eq.trans func351 (congrArg some (by kernel_rfl))⟩
 f57:=⟨"slices.order2CmpFunc[payroll/overtime.span]",by decide,Eq.trans func365 (congrArg some (by kernel_rfl))⟩
 t0:=underlying0
 a0:=isAgg0
 z0:=sizeOf0
 v0:=zeroValue0
 t3:=underlying3
 a3:=isAgg3
 z3:=sizeOf3
 v3:=zeroValue3
 t4:=underlying4
 a4:=isAgg4
 z4:=sizeOf4
 v4:=zeroValue4
 t5:=underlying5
 a5:=isAgg5
 z5:=sizeOf5
 v5:=zeroValue5
 t9:=underlying9
 a9:=isAgg9
 z9:=sizeOf9
 v9:=zeroValue9
 t22:=underlying210
 a22:=isAgg210
 z22:=sizeOf210
 v22:=zeroValue210
 t25:=underlying306
 a25:=isAgg306
 z25:=sizeOf306
 v25:=zeroValue306
 t39:=underlying284
 a39:=isAgg284
 z39:=sizeOf284
 v39:=zeroValue284
 t45:=underlying340
 a45:=isAgg340
 z45:=sizeOf340
 v45:=zeroValue340
 t46:=underlying341
 a46:=isAgg341
 z46:=sizeOf341
 v46:=zeroValue341
 t50:=underlying206
 a50:=isAgg206
 z50:=sizeOf206
 v50:=zeroValue206
 t53:=underlying347
 a53:=isAgg347
 z53:=sizeOf347
 v53:=zeroValue347
 t55:=underlying349
 a55:=isAgg349
 z55:=sizeOf349
 v55:=zeroValue349
 t66:=underlying376
 a66:=isAgg376
 z66:=sizeOf376
 v66:=zeroValue376
 t70:=underlying380
 a70:=isAgg380
 z70:=sizeOf380
 v70:=zeroValue380
 t76:=underlying412
 a76:=isAgg412
 z76:=sizeOf412
 v76:=zeroValue412
 t77:=underlying308
 a77:=isAgg308
 z77:=sizeOf308
 v77:=zeroValue308
def aBY:Go.Shelf.Ren:=
 {f:=fun x=>match x with|6=>178|15=>158|14=>248|28=>241|29=>242|20=>295|21=>296|22=>297|23=>298|24=>299|25=>300|26=>301|27=>302|46=>343|47=>290|48=>291|49=>344|50=>345|57=>363|n=>n,
  t:=fun x=>match x with|22=>53|24=>71|25=>294|3=>3|39=>284|0=>0|53=>347|55=>349|4=>4|46=>341|45=>340|50=>206|5=>5|9=>9|66=>376|70=>380|76=>412|77=>308|n=>n,
  g:=fun n=>n}
set_option maxRecDepth 100000 in
theorem aA2:SlLaysF0.n6 prog aBY where
 mixed:=by kernel_rfl
 f6:=⟨"slices.SortFunc[[]payroll/api.Event,payroll/api.Event]",by decide,Eq.trans func178 (congrArg some (by kernel_rfl))⟩
 f14:=⟨"slices.pdqsortCmpFunc[payroll/api.Event]",by decide,Eq.trans func248 (congrArg some (by kernel_rfl))⟩
 f15:=Eq.trans func158 (congrArg some (by kernel_rfl))
 f20:=⟨"slices.insertionSortCmpFunc[payroll/api.Event]",by decide,Eq.trans func295 (congrArg some (by kernel_rfl))⟩
 f21:=⟨"slices.heapSortCmpFunc[payroll/api.Event]",by decide,Eq.trans func296 (congrArg some (by kernel_rfl))⟩
 f22:=⟨"slices.breakPatternsCmpFunc[payroll/api.Event]",by decide,Eq.trans func297 (congrArg some (by kernel_rfl))⟩
 f23:=⟨"slices.choosePivotCmpFunc[payroll/api.Event]",by decide,Eq.trans func298 (congrArg some (by kernel_rfl))⟩
 f24:=⟨"slices.reverseRangeCmpFunc[payroll/api.Event]",by decide,Eq.trans func299 (congrArg some (by kernel_rfl))⟩
 f25:=⟨"slices.partialInsertionSortCmpFunc[payroll/api.Event]",by decide,Eq.trans func300 (congrArg some (by kernel_rfl))⟩
 f26:=⟨"slices.partitionEqualCmpFunc[payroll/api.Event]",by decide,Eq.trans func301 (congrArg some (by kernel_rfl))⟩
 f27:=⟨"slices.partitionCmpFunc[payroll/api.Event]",by decide,Eq.trans func302 (congrArg some (by kernel_rfl))⟩
 f28:=Eq.trans func241 (congrArg some (by kernel_rfl))
 f29:=Eq.trans func242 (congrArg some (by kernel_rfl))
 f46:=⟨"slices.siftDownCmpFunc[payroll/api.Event]",by decide,Eq.trans func343 (congrArg some (by kernel_rfl))⟩
 f47:=Eq.trans func290 (congrArg some (by kernel_rfl))
 f48:=Eq.trans func291 (congrArg some (by kernel_rfl))
 f49:=⟨"slices.medianAdjacentCmpFunc[payroll/api.Event]",by decide,Eq.trans func344 (congrArg some (by kernel_rfl))⟩
 f50:=⟨"slices.medianCmpFunc[payroll/api.Event]",by decide,Eq.trans func345 (congrArg some (by kernel_rfl))⟩
 f57:=⟨"slices.order2CmpFunc[payroll/api.Event]",by decide,Eq.trans func363 (congrArg some (by kernel_rfl))⟩
 t0:=underlying0
 a0:=isAgg0
 z0:=sizeOf0
 v0:=zeroValue0
 t3:=underlying3
 a3:=isAgg3
 z3:=sizeOf3
 v3:=zeroValue3
 t4:=underlying4
 a4:=isAgg4
 z4:=sizeOf4
 v4:=zeroValue4
 t5:=underlying5
 a5:=isAgg5
 z5:=sizeOf5
 v5:=zeroValue5
 t9:=underlying9
 a9:=isAgg9
 z9:=sizeOf9
 v9:=zeroValue9
 t22:=underlying53
 a22:=isAgg53
 z22:=sizeOf53
 v22:=zeroValue53
 t25:=underlying294
 a25:=isAgg294
 z25:=sizeOf294
 v25:=zeroValue294
 t39:=underlying284
 a39:=isAgg284
 z39:=sizeOf284
 v39:=zeroValue284
 t45:=underlying340
 a45:=isAgg340
 z45:=sizeOf340
 v45:=zeroValue340
 t46:=underlying341
 a46:=isAgg341
 z46:=sizeOf341
 v46:=zeroValue341
 t50:=underlying206
 a50:=isAgg206
 z50:=sizeOf206
 v50:=zeroValue206
 t53:=underlying347
 a53:=isAgg347
 z53:=sizeOf347
 v53:=zeroValue347
 t55:=underlying349
 a55:=isAgg349
 z55:=sizeOf349
 v55:=zeroValue349
 t66:=underlying376
 a66:=isAgg376
 z66:=sizeOf376
 v66:=zeroValue376
 t70:=underlying380
 a70:=isAgg380
 z70:=sizeOf380
 v70:=zeroValue380
 t76:=underlying412
 a76:=isAgg412
 z76:=sizeOf412
 v76:=zeroValue412
 t77:=underlying308
 a77:=isAgg308
 z77:=sizeOf308
 v77:=zeroValue308
end Go.Proofs.YtpincjkjoeopkaaGreatDoor.Ib
namespace Go.Proofs.YtpincjkjoeopkaaGreatDoor.Ib
open Go Go.Abs Go.Proofs.Tryz
open Go.Sort (SWO)
section
variable [iK:dw]
def uq (a b:Ky):Int:=nF [gJ a.t b.t,gJ a.E b.E]
def HE (a b:Ev):Int:=nF [uq ⟨a.da,a.M⟩ ⟨b.da,b.M⟩,gJ a.bh b.bh,gJ a.time b.time,gJ a.cH b.cH,uq ⟨a.ln,a.fa⟩ ⟨b.ln,b.fa⟩]
def HF (a b:Stamp):Int:=nF [gJ a.time b.time,uq ⟨a.da,a.M⟩ ⟨b.da,b.M⟩]
theorem RR (a b:Ky):aK prog 148 [.agg [.int .i64 a.t,.int .i64 a.E],.agg [.int .i64 b.t,.int .i64 b.E]] [] (fun v rs=>v= .int .i64 (uq a b)∧rs= []):=by
 refine cr func148 acG (by simp[LY,RS]) ?_;simp only[go_sem,LY,RS];refine jd (xq _ _) rfl rfl ?_;simp only[go_sem];refine jd (xq _ _) rfl rfl ?_;simp only[go_sem]
 (refine CP [2] (La [gJ a.t b.t,gJ a.E b.E] (by simp)) ?_;rintro _ _ ⟨rfl,rfl⟩;simp only[go_sem])
 exact s.bb rfl ⟨rfl,rfl⟩
theorem aAV (a b:Ev):aK prog 179 [.agg (aG.F a),.agg (aG.F b)] [] (fun v rs=>v= .int .i64 (HE a b)∧rs= []):=by
 refine cr func179 adh (by simp[L3,RU]) ?_;simp only[go_sem,L3,RU,us];refine jd (RR ⟨a.da,a.M⟩ ⟨b.da,b.M⟩) rfl rfl ?_;simp only[go_sem];refine jd (xq _ _) rfl rfl ?_;simp only[go_sem];refine jd (xq _ _) rfl rfl ?_;simp only[go_sem];refine jd (xq _ _) rfl rfl ?_;simp only[go_sem];refine jd (RR ⟨a.ln,a.fa⟩ ⟨b.ln,b.fa⟩) rfl rfl ?_;simp only[go_sem]
 (refine CP [2] (La [uq ⟨a.da,a.M⟩ ⟨b.da,b.M⟩,gJ a.bh b.bh,gJ a.time b.time,gJ a.cH b.cH,uq ⟨a.ln,a.fa⟩ ⟨b.ln,b.fa⟩] (by simp)) ?_;rintro _ _ ⟨rfl,rfl⟩;simp only[go_sem])
 exact s.bb rfl ⟨rfl,rfl⟩
theorem aAW (a b:Stamp):aK prog 147 [.agg (aG.F a),.agg (aG.F b)] [] (fun v rs=>v= .int .i64 (HF a b)∧rs= []):=by
 refine cr func147 acF (by simp[LX,RV]) ?_;simp only[go_sem,LX,RV,Mh];refine jd (xq _ _) rfl rfl ?_;simp only[go_sem];refine jd (RR ⟨a.da,a.M⟩ ⟨b.da,b.M⟩) rfl rfl ?_;simp only[go_sem]
 (refine CP [2] (La [gJ a.time b.time,uq ⟨a.da,a.M⟩ ⟨b.da,b.M⟩] (by simp)) ?_;rintro _ _ ⟨rfl,rfl⟩;simp only[go_sem])
 exact s.bb rfl ⟨rfl,rfl⟩
theorem aAX (a b:fS):aK prog 196 [.agg (aG.F a),.agg (aG.F b)] [] (fun v rs=>v= .int .i64 (gJ a.J b.J)∧rs= []):=by
 refine cr func196 adv (by simp[L4,RX]) ?_;simp only[go_sem,L4,RX,Mi];refine bH (xq _ _) rfl rfl ?_;simp only[go_sem];exact s.bb rfl ⟨rfl,rfl⟩
end
theorem zd {a b:Int}:gJ a b < 0↔a < b:=by
 unfold gJ;split
 ·simp_all
 ·split<;>simp_all
theorem sQ {a b:Int}:gJ a b=0↔a=b:=by
 unfold gJ;split
 ·simp;omega
 ·split
  ·simp;omega
  ·simp;omega
theorem afj {a b:Ky}:uq a b < 0↔a.t < b.t∨(a.t=b.t∧a.E < b.E):=by
 unfold uq;simp only[nF]
 by_cases h:gJ a.t b.t=0
 ·rw[if_pos h];have:=sQ.1 h
  by_cases B:gJ a.E b.E=0
  ·rw[if_pos B];have:=sQ.1 B;omega
  ·rw[if_neg B,zd];omega
 ·rw[if_neg h,zd];have: ¬a.t=b.t:=fun e=>h (sQ.2 e);omega
theorem afk {a b:Ky}:uq a b=0↔a.t=b.t∧a.E=b.E:=by
 unfold uq;simp only[nF]
 by_cases h:gJ a.t b.t=0
 ·rw[if_pos h];have:=sQ.1 h
  by_cases B:gJ a.E b.E=0
  ·rw[if_pos B];have:=sQ.1 B;simp;omega
  ·rw[if_neg B];have: ¬a.E=b.E:=fun e=>B (sQ.2 e);simp only[B,false_iff];omega
 ·rw[if_neg h];have: ¬a.t=b.t:=fun e=>h (sQ.2 e);simp only[h,false_iff];omega
def pq (a b:Ky):Prop:=a.t < b.t∨(a.t=b.t∧a.E < b.E)
def jl (a b:Ev):Prop:=a.da < b.da∨(a.da=b.da∧(a.M < b.M∨(a.M=b.M∧(a.bh < b.bh∨(a.bh=b.bh∧(a.time < b.time∨(a.time=b.time∧(a.cH < b.cH∨(a.cH=b.cH∧(a.ln < b.ln∨(a.ln=b.ln∧a.fa < b.fa)))))))))))
def mB (a b:Stamp):Prop:=a.time < b.time∨(a.time=b.time∧(a.da < b.da∨(a.da=b.da∧a.M < b.M)))
theorem afl:nF []=0:=rfl
theorem afm {x:Int}{ai:List Int}:nF (x::ai) < 0↔x < 0∨(x=0∧nF ai < 0):=by
 rw[nF];split<;>omega
theorem afn {a b:Ev}:HE a b < 0↔jl a b:=by
 unfold HE;simp only[afm,afj,afk,zd,sQ,afl,jl];omega
theorem afo {a b:Stamp}:HF a b < 0↔mB a b:=by
 unfold HF;simp only[afm,afj,afk,zd,sQ,afl,mB];omega
theorem Hp {bd:Type}{sB:bd→bd→Int}{az:bd→bd→Prop}(h: ∀ a b,sB a b < 0↔az a b)(h1: ∀ a,¬az a a)(B: ∀ a b F,az a b→az b F→az a F)(am: ∀ a b F,¬az a b→ ¬az b F→ ¬az a F):SWO (ltOf sB):=by
 refine⟨fun a=> ?_,fun a b F=> ?_,fun a b F=> ?_⟩
 ·simp only[ltOf,decide_eq_false_iff_not,h];exact h1 a
 ·simp only[ltOf,decide_eq_true_eq,h];exact B a b F
 ·simp only[ltOf,decide_eq_false_iff_not,h];exact am a b F
theorem aAY:SWO (ltOf HE):=Hp (fun a b=>afn) (fun a=>by unfold jl;omega) (fun a b F=>by unfold jl;omega) (fun a b F=>by unfold jl;omega)
theorem aAZ:SWO (ltOf HF):=Hp (fun a b=>afo) (fun a=>by unfold mB;omega) (fun a b F=>by unfold mB;omega) (fun a b F=>by unfold mB;omega)
theorem aA0:SWO (ltOf fun a b:fS=>gJ a.J b.J):=Hp (az:=fun a b=>a.J < b.J) (fun a b=>zd) (fun a=>by omega) (fun a b F=>by omega) (fun a b F=>by omega)
instance:tR Ev:=⟨fun _=>rfl⟩
instance:tR Stamp:=⟨fun _=>rfl⟩
instance:tR fS:=⟨fun _=>rfl⟩
instance:Inhabited Ev:=⟨⟨0,0,0,0,0,0,0⟩⟩
instance:Inhabited Stamp:=⟨⟨0,0,0,0⟩⟩
instance:Inhabited fS:=⟨⟨0,0,0⟩⟩
theorem aA1 (l:List Ev)(hl:l.length < 4611686018427387904):aK prog 178 [.own 0 l.length 0 l.length,.fn 179 []] [.aa 71 7 (ac l)]
 (fun v rs=>v= .bg []∧ ∃ bX:List Ev,bX.Perm l∧bX.Pairwise (fun x y=> ¬jl y x)∧rs= [.aa 71 7 (ac bX)]):=by
 refine aK.F6 inferInstance ?_;refine @aK.mono (dw.ax inferInstance) _ _ _ _ _ _ (@aK.FV (dw.ax inferInstance) trivial Ev _ _ _ _ _ _ _ 71 aA2 rfl isAgg71 sizeOf71 HE aAY (@aAV (dw.ax inferInstance)) (enters_of func179 (by kernel_rfl) rfl) l hl) ?_;rintro v rs ⟨rfl,bX,h1,B,rfl⟩;exact⟨rfl,bX,h1,B.imp fun {x y} h e=>h (afn.2 e),rfl⟩
theorem aA3 (l:List Stamp)(hl:l.length < 4611686018427387904):aK prog 146 [.own 0 l.length 0 l.length,.fn 147 []] [.aa 177 4 (ac l)]
 (fun v rs=>v= .bg []∧ ∃ bX:List Stamp,bX.Perm l∧bX.Pairwise (fun x y=> ¬mB y x)∧rs= [.aa 177 4 (ac bX)]):=by
 refine aK.F6 inferInstance ?_;refine @aK.mono (dw.ax inferInstance) _ _ _ _ _ _ (@aK.FV (dw.ax inferInstance) trivial Stamp _ _ _ _ _ _ _ 177 aA4 rfl isAgg177 sizeOf177 HF aAZ (@aAW (dw.ax inferInstance)) (enters_of func147 (by kernel_rfl) rfl) l hl) ?_;rintro v rs ⟨rfl,bX,h1,B,rfl⟩;exact⟨rfl,bX,h1,B.imp fun {x y} h e=>h (afo.2 e),rfl⟩
theorem aA5 (l:List fS)(hl:l.length < 4611686018427387904):aK prog 195 [.own 0 l.length 0 l.length,.fn 196 []] [.aa 216 3 (ac l)]
 (fun v rs=>v= .bg []∧ ∃ bX:List fS,bX.Perm l∧bX.Pairwise (fun x y=>x.J≤y.J)∧rs= [.aa 216 3 (ac bX)]):=by
 refine aK.F6 inferInstance ?_;refine @aK.mono (dw.ax inferInstance) _ _ _ _ _ _ (@aK.FV (dw.ax inferInstance) trivial fS _ _ _ _ _ _ _ 216 aA6 rfl isAgg216 sizeOf216 (fun a b=>gJ a.J b.J) aA0 (@aAX (dw.ax inferInstance)) (enters_of func196 (by kernel_rfl) rfl) l hl) ?_;rintro v rs ⟨rfl,bX,h1,B,rfl⟩;exact⟨rfl,bX,h1,B.imp fun {x y} h=>by rw[zd] at h;omega,rfl⟩
end Go.Proofs.YtpincjkjoeopkaaGreatDoor.Ib
