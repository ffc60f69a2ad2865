/- Events and bands. -/
import Derived.Test.YtpincjkjoeopkaaGreatDoorD36
import Derived.Test.YtpincjkjoeopkaaGreatDoorD41
import Derived.Test.YtpincjkjoeopkaaGreatDoorD42
set_option linter.all false
namespace Go.Proofs.YtpincjkjoeopkaaGreatDoor.Ib
open Go Go.Abs Go.Proofs.Tryz
def wQ (t:Int):Prop:=29453760≤t∧t≤29470000
def ne (e:Ev):Prop:=IV e∧wQ e.time
theorem agR {bj:Type}{P:bj→Prop}{l:List bj}{c:Nat}{x:bj}(h: ∀ y∈l,P y)(aj:P x): ∀ y∈l.set c x,P y:=by
 intro y bt;rcases List.mem_or_eq_of_mem_set bt with h1|h1
 ·exact h y h1
 ·subst h1;exact aj
theorem aCC (l:List Int)(hl:mW l)(n:Int)(LD:0≤n)(aH:n≤10)(az:Int)(h0:0≤az)(h1:az≤l.length):aO prog 23 [.bd 0 1 0 0,.int .i64 n] [gp l az]
 (fun v rs=> ∃ (a:Int) (ar:List Ev),v= .own 1 ar.length 0 ar.length∧rs= [gp l a,.ag 71 7 (ai ar)]∧0≤a∧a≤l.length∧ar.length≤5*n∧ ∀ e∈ar,ne e):=by
 refine hJ func23 acs (by simp[a23,sI]) ?_;unfold gp;simp only[go_sem,a23,sI]
 repeat (refine E.ac ?_;simp only[go_sem])
 refine hv (fun D r=> ∃ (a:Int) (B:Nat) (ar:List Ev),0≤a∧a≤l.length∧B≤n∧ar.length≤5*B∧(∀ e∈ar,ne e)∧D= [(0,.bd 0 1 0 0),(1,.int .i64 n),(5,.own 1 ar.length 0 ar.length),(6,.int .i64 (20+4*B)),(7,.int .i64 B)]∧r= [dX 143 l a,.ag 71 7 (ai ar)])
  (fun D _=>match bs D 7 with| .int _ j=>(n-j).toNat|_=>0) ?_ ?_
 ·(refine E.iv 5 71 7 rfl (E.eW [0,1,5,6,7] ?_);simp only[go_sem])
  exact E.ac ⟨az,0,[],by omega,by omega,by omega,by simp,by simp,rfl,rfl⟩
 clear h0 h1;rintro D r ⟨az,B,ar,h0,h1,ay,jI,kM,rfl,rfl⟩;have dn:=dB (c:=B) (by omega);simp only[go_sem,a23,sI]
 repeat (refine E.ac ?_;simp only[go_sem])
 refine dj ?_ ?_<;>intro aw<;>simp only[bC] at aw<;>simp only[go_sem,a23,sI]
 ·repeat (refine E.ac ?_;simp only[go_sem])
  rw[bl (x:=(B:Int)*1440) (by omega) (by omega),bl (x:=29453760+(B:Int)*1440) (by omega) (by omega)]
  (refine ja [480,465,1320,360,477] (hj l hl _ (by simp) (by simp)) ?_;rintro _ az _ _ ⟨p,cg,rfl⟩;simp only[fR] at cg;simp only[go_sem])
  have ak:0≤p∧p≤1320:=by omega
  clear cg;rw[bl (x:=29453760+(B:Int)*1440+p) (by omega) (by omega)]
  (refine lN (hi l hl 7 (by omega)) ?_;rintro _ az _ _ ⟨q,rfl,_,_⟩;simp only[go_sem])
  rw[bl (by omega) (by omega)];have agS:wQ (29453760+(B:Int)*1440+p+q)∧29453760+(B:Int)*1440+p+q≤29468100:=by unfold wQ;omega
  generalize 29453760+(B:Int)*1440+p+q=R at agS;unfold wQ at agS
  repeat (refine E.ac ?_;simp only[go_sem])
  (refine ja [480,510,540,660,300,75] (hj l hl _ (by simp) (by simp)) ?_;rintro _ az _ _ ⟨y,cg,rfl⟩;simp only[fR] at cg;simp only[go_sem])
  have bt:0≤y∧y≤660:=by omega
  clear cg;rw[bl (by omega) (by omega)]
  (refine E.bB [some 0,some 1] ?_;simp only[go_sem])
  (refine E.ac ?_;simp only[go_sem])
  (refine E.ac ?_;simp only[go_sem])
  refine E.ac (W6 (fun D r=> ∃ (a:Int) (aW K:List Int) (bS:List Z),0≤a∧a≤l.length∧K.length=aW.length∧aW.length≤4∧(∀ t∈aW,wQ t)∧(∀ k∈K,1≤k∧k≤4)∧eW [0,1,5,6,7,8,10,11] D= [(0,.bd 0 1 0 0),(1,.int .i64 n),(5,.own 1 ar.length 0 ar.length),(6,.int .i64 (20+4*B)),(7,.int .i64 B),(8,.int .i64 R),(10,.own 2 aW.length 0 aW.length),(11,.own 3 aW.length 0 aW.length)]∧r=dX 143 l a:: .ag 71 7 (ai ar):: .ag 3 1 (cJ .i64 aW):: .ag 3 1 (cJ .i64 K)::bS) ?_ ?_)
  ·simp only[go_sem]
   (refine lN (hi l hl 2 (by omega)) ?_;rintro _ az _ _ ⟨b,rfl,_,_⟩;simp only[go_sem])
   repeat (refine E.ac ?_;simp only[go_sem])
   refine dj ?_ ?_<;>intro ct<;>simp only[bC] at ct<;>simp only[go_sem,a23,sI]
   ·repeat (refine E.ac ?_;simp only[go_sem])
    (refine ja [120,240,60] (hj l hl _ (by simp) (by simp)) ?_;rintro _ az _ _ ⟨u,cg,rfl⟩;simp only[fR] at cg;simp only[go_sem])
    have bc:0≤u∧u≤240:=by omega
    clear cg;rw[bl (by omega) (by omega)]
    repeat (refine E.ac ?_;simp only[go_sem])
    (refine ja [30,15,45] (hj l hl _ (by simp) (by simp)) ?_;rintro _ az _ _ ⟨w,cg,rfl⟩;simp only[fR] at cg;simp only[go_sem])
    have aP:0≤w∧w≤45:=by omega
    clear cg;rw[bl (by omega) (by omega)]
    repeat (refine E.ac ?_;simp only[go_sem])
    refine⟨az,[R,R+y,R+u,R+u+w],[1,2,3,4],_,by omega,by omega,rfl,by simp,?_,?_,rfl,rfl⟩
    ·intro t ht;unfold wQ;simp only[fR] at ht;omega
    ·intro t ht;simp only[fR] at ht;omega
   ·refine⟨az,[R,R+y],[1,2],[],by omega,by omega,rfl,by simp,?_,?_,rfl,rfl⟩
    ·intro t ht;unfold wQ;simp only[fR] at ht;omega
    ·intro t ht;simp only[fR] at ht;omega
  clear h0 h1;rintro D r ⟨az,aW,K,bS,h0,h1,aCD,aKd,hN,cA,ql,rfl⟩;refine E.eW [0,1,5,6,7,8,10,11] ?_;rw[ql];clear ql;refine E.jN [some 0,some 1] [2,3] rfl rfl (by simp only[go_sem]<;>rfl) ?_;simp only[go_sem,aCD];have nF:K.take aW.length=K:=List.take_of_length_le (by omega);rw[nF]
  repeat (refine E.ac ?_;simp only[go_sem])
  refine hv (fun D r=> ∃ (a:Int) (j:Nat) (oC:List Ev),0≤a∧a≤l.length∧j≤aW.length∧oC.length≤5*B+j∧(∀ e∈oC,ne e)∧D= [(0,.bd 0 1 0 0),(1,.int .i64 n),(5,.own 1 oC.length 0 oC.length),(6,.int .i64 (20+4*B)),(7,.int .i64 B),(8,.int .i64 R),(10,.pure 1 (cJ .i64 aW)),(11,.pure 1 (cJ .i64 K)),(13,.int .i64 j)]∧r= [dX 143 l a,.ag 71 7 (ai oC)])
   (fun D _=>match bs D 13 with| .int _ j=>(aW.length-j).toNat|_=>0) ?_ ?_
  ·exact E.ac ⟨az,0,ar,by omega,by omega,by omega,by omega,kM,rfl,rfl⟩
  clear h0 h1 kM jI ar;rintro D r ⟨az,j,ar,h0,h1,aX,jI,kM,rfl,rfl⟩;have nf:=dB (c:=j) (by omega);simp only[go_sem,a23,sI]
  repeat (refine E.ac ?_;simp only[go_sem])
  refine dj ?_ ?_<;>intro ct<;>simp only[bC] at ct<;>simp only[go_sem,a23,sI]
  ·(refine E.ac ?_;simp only[go_sem])
   (refine lN (hi l hl 14 (by omega)) ?_;rintro _ az _ _ ⟨b,rfl,_,_⟩;simp only[go_sem])
   (refine E.ac ?_;simp only[go_sem])
   refine dj ?_ ?_<;>intro fH<;>simp only[bC] at fH<;>simp only[go_sem,a23,sI]
   ·repeat (refine E.ac ?_;simp only[go_sem])
    simp only[go_sem,nf];exact⟨⟨az,j+1,ar,by omega,by omega,by omega,by omega,kM,rfl,rfl⟩,by omega⟩
   ·have aI:j < aW.length:=by omega
    have hw:j < K.length:=by omega
    have z0: (0:Int)≤j:=by omega
    have mn: (j:Int) < aW.length:=by omega
    have Tf: (j:Int) < K.length:=by omega
    have aCE: (cJ .i64 aW).getD j []= [.int .i64 aW[j]]:=by rw[tw aI,List.getD_eq_getElem?_getD,List.getElem?_eq_getElem aI,Option.getD_some]
    have tn: (cJ .i64 K).getD j []= [.int .i64 K[j]]:=by rw[tw hw,List.getD_eq_getElem?_getD,List.getElem?_eq_getElem hw,Option.getD_some]
    have aCF:=hN _ (List.getElem_mem aI);have aKe:=cA _ (List.getElem_mem hw);generalize aW[j]=iq at *;generalize K[j]=JR at *;unfold wQ at aCF
    (refine E.ac ?_;simp only[go_sem])
    simp only[go_sem,z0,mn,Tf,aCE,tn];rw[bl (x:=20+4*(B:Int)+j) (by omega) (by omega)];refine⟨by omega,?_⟩;rw[Tc]
    (refine E.bB [some 0,some 1] ?_;simp only[go_sem])
    repeat (refine E.ac ?_;simp only[go_sem])
    simp only[go_sem,nf];refine⟨⟨az,j+1,ar++ [⟨2,20+4*B+j,1,iq,JR,0,0⟩],by omega,by omega,by omega,by simp;omega,?_,by simp,rfl⟩,by omega⟩;intro e he;simp only[List.mem_append,List.mem_singleton] at he;rcases he with he|rfl
    ·exact kM e he
    ·simp only[ne,IV,wQ,iD,mC,and_true];omega
  ·refine E.ac (W6 (fun D r=> ∃ (a:Int) (oC:List Ev) (bS:List Z),0≤a∧a≤l.length∧oC.length≤5*B+5∧(∀ e∈oC,ne e)∧eW [0,1,5,6,7] D= [(0,.bd 0 1 0 0),(1,.int .i64 n),(5,.own 1 oC.length 0 oC.length),(6,.int .i64 (20+4*B)),(7,.int .i64 B)]∧r=dX 143 l a:: .ag 71 7 (ai oC)::bS) ?_ ?_)
   ·simp only[go_sem]
    (refine lN (hi l hl 6 (by omega)) ?_;rintro _ az _ _ ⟨b,rfl,_,_⟩;simp only[go_sem])
    repeat (refine E.ac ?_;simp only[go_sem])
    refine dj ?_ ?_<;>intro fH<;>simp only[bC] at fH<;>simp only[go_sem,a23,sI]
    ·repeat (refine E.ac ?_;simp only[go_sem])
     rw[bl (by omega) (by omega)]
     (refine ja [6,5] (hj l hl _ (by simp) (by simp)) ?_;rintro _ az _ _ ⟨u,cg,rfl⟩;simp only[fR] at cg;simp only[go_sem])
     refine⟨by omega,?_⟩;rw[Tc]
     repeat (refine E.ac ?_;simp only[go_sem])
     refine⟨az,ar++ [⟨3,20+4*B,1,R+10,u,2,20+4*B⟩],_,by omega,by omega,by simp;omega,?_,by simp,rfl⟩;intro e he;simp only[List.mem_append,List.mem_singleton] at he;rcases he with he|rfl
     ·exact kM e he
     ·simp only[ne,IV,wQ,iD,mC,and_true];omega
    ·exact⟨az,ar,[],by omega,by omega,by omega,kM,rfl,rfl⟩
   clear h0 h1 kM jI ar;rintro D r ⟨az,ar,bS,h0,h1,jI,kM,ql,rfl⟩;refine E.eW [0,1,5,6,7] ?_;rw[ql];clear ql;refine E.ll [some 0,some 1] [] rfl rfl (by simp only[go_sem]<;>rfl) ?_;simp only[go_sem]
   repeat (refine E.ac ?_;simp only[go_sem])
   rw[bl (x:=20+4*(B:Int)+4) (by omega) (by omega)];simp only[go_sem,dn];refine⟨⟨az,B+1,ar,by omega,by omega,by omega,by omega,kM,?_,rfl⟩,by omega⟩;simp;omega
 ·repeat (refine E.ac ?_;simp only[go_sem])
  refine hv (fun D r=> ∃ (a:Int) (j:Int) (oC:List Ev),0≤a∧a≤l.length∧ -1≤j∧j < oC.length∧oC.length≤5*n∧(∀ e∈oC,ne e)∧D= [(0,.bd 0 1 0 0),(5,.own 1 oC.length 0 oC.length),(14,.int .i64 j)]∧r= [dX 143 l a,.ag 71 7 (ai oC)])
   (fun D _=>match bs D 14 with| .int _ j=>j.toNat|_=>0) ?_ ?_
  ·rw[bl (by omega) (by omega)];exact E.ac ⟨az,ar.length-1,ar,by omega,by omega,by omega,by omega,by omega,kM,rfl,rfl⟩
  clear h0 h1 kM jI ar;rintro D r ⟨az,j,ar,h0,h1,ud,aX,jI,kM,rfl,rfl⟩;simp only[go_sem,a23,sI]
  repeat (refine E.ac ?_;simp only[go_sem])
  refine dj ?_ ?_<;>intro ct<;>simp only[bC] at ct<;>simp only[go_sem,a23,sI]
  ·repeat (refine E.ac ?_;simp only[go_sem])
   (refine lN (hi l hl 3 (by omega)) ?_;rintro _ az _ _ ⟨b,rfl,_,_⟩;simp only[go_sem])
   repeat (refine E.ac ?_;simp only[go_sem])
   refine dj ?_ ?_<;>intro fH<;>simp only[bC] at fH<;>simp only[go_sem,a23,sI]
   ·repeat (refine E.ac ?_;simp only[go_sem])
    rw[bl (by omega) (by omega)]
    (refine lN (hi l hl (j+1) (by omega)) ?_;rintro _ az _ _ ⟨k,rfl,_,_⟩;simp only[go_sem])
    obtain⟨j,rfl⟩: ∃ q:Nat,j=q:=⟨j.toNat,by omega⟩;obtain⟨k,rfl⟩: ∃ q:Nat,k=q:=⟨k.toNat,by omega⟩;have nC:j < ar.length:=by omega
    have gO:k < ar.length:=by omega
    have z0: (0:Int)≤j:=by omega
    have mn: (j:Int) < ar.length:=by omega
    have Tf: (0:Int)≤k:=by omega
    have z3: (k:Int) < ar.length:=by omega
    have Sx: (ai ar).getD j []=aJ.J ar[j]:=cT nC;have gk: (ai ar).getD k []=aJ.J ar[k]:=cT gO;have zI: ∀ x:Ev,List.drop 7 (aJ.J x)= []:=fun _=>rfl;have hw:k < (ar.set j ar[k]).length:=by rw[List.length_set];omega
    (refine E.ac ?_;simp only[go_sem])
    simp only[go_sem,z0,mn,Tf,z3,Sx,gk];rw[zI,List.append_nil,xS,cT hw,zI,List.append_nil,xS]
    repeat (refine E.ac ?_;simp only[go_sem])
    rw[bl (by omega) (by omega)];refine⟨⟨az,j-1,(ar.set j ar[k]).set k ar[j],by omega,by omega,by omega,by simp only[List.length_set];omega,by simp only[List.length_set];omega,agR (agR kM (kM _ (List.getElem_mem gO))) (kM _ (List.getElem_mem nC)),by simp,rfl⟩,by omega⟩
   ·repeat (refine E.ac ?_;simp only[go_sem])
    rw[bl (by omega) (by omega)];exact⟨⟨az,j-1,ar,by omega,by omega,by omega,by omega,by omega,kM,rfl,rfl⟩,by omega⟩
  ·repeat (refine E.ac ?_;simp only[go_sem])
   exact E.ac ⟨az,ar,rfl,rfl,by omega,by omega,by omega,kM⟩
theorem axA (l:List Int)(hl:mW l)(n:Int)(LD:0≤n)(aH:n≤10)(az:Int)(h0:0≤az)(h1:az≤l.length):aO prog 23 [.bd 0 1 0 0,.int .i64 n] [gp l az]
 (fun v rs=> ∃ (a:Int) (ar:List Ev),v= .own 1 ar.length 0 ar.length∧rs= [gp l a,.ag 71 7 (ai ar)]∧0≤a∧a≤l.length∧ar.length≤5*n∧ ∀ e∈ar,IV e):=
 (aCC l hl n LD aH az h0 h1).mono fun v rs ⟨a,ar,h1,G,au,bv,cx,dx⟩=>⟨a,ar,h1,G,au,bv,cx,fun e he=>(dx e he).1⟩
structure oz (l:List Ev) (n:Nat):Prop where
 v: ∀ e∈l,iD e
 len:l.length≤n
theorem oz.all {l:List Ev}{n:Nat}(h:oz l n):po l=true:=by
 unfold po;rw[List.all_eq_true];exact fun e he=>decide_eq_true (h.v e he)
theorem oz.ij {l:List Ev}{n:Nat}(h:oz l n)(aH:n≤1024):cL l=0:=by
 have:=h.len;unfold Ib.cL;rw[if_neg (by omega),if_pos h.all]
theorem oz.mh {a b:List Ev}{n m:Nat}(aC:oz a n)(hb:oz b m):oz (a++b) (n+m):=
 ⟨fun e he=>(List.mem_append.1 he).elim (aC.v e) (hb.v e),by have:=aC.len;have:=hb.len;rw[List.length_append];omega⟩
theorem axF {e:Ev}(h:IV e):iD e:=h.1
end Go.Proofs.YtpincjkjoeopkaaGreatDoor.Ib
namespace Go.Proofs.YtpincjkjoeopkaaGreatDoor
open Go Go.Abs Go.Proofs.Tryz
set_option maxHeartbeats 4000000 in
theorem aLQ (hN:aO prog 15 [] [] (fun v rs=>v= .bool true∧rs= []))(l:List Int)(hl:mW l)(n:Int):aO prog 5 [.pure 1 (cJ .i64 l),.int .i64 n] [] (fun v rs=>v= .bool true∧rs= []):=by
 refine hJ func5 azn (by simp[a5,Dd]) ?_;simp only[go_sem,a5,Dd]
 (repeat (first| (refine E.ac ?_;simp only[go_sem])|simp only[go_sem]))
 (refine rv (atG l) ?_;rintro _ _ ⟨rfl,rfl⟩;simp only[go_sem])
 (repeat (first| (refine E.ac ?_;simp only[go_sem])|simp only[go_sem]))
 (refine fy [0] (axB l hl 0 (by omega) (by omega)) ?_;rintro _ _ ⟨abz,z,ap,rfl,eK,rfl,h0,h1,aJW,aJX,pV⟩;simp only[go_sem])
 simp only[go_sem,gp]
 (refine fy [0] (aud l hl 4 (by omega) (by omega) abz h0 h1) ?_;rintro _ _ ⟨axC,ae,rfl,rfl,G,au,gy,Cv,aJZ,EO⟩;simp only[go_sem])
 simp only[go_sem,gp,Ib.gp]
 (refine fy [0] (Ib.axA l hl 4 (by omega) (by omega) axC G au) ?_;rintro _ _ ⟨aJY,bh,rfl,rfl,bv,cx,MA,Sv⟩;simp only[go_sem])
 simp only[go_sem,gp,Ib.gp];have ob:=Fc ap z.J eK z.fX;have axD: ∀ f,jm f ap=ap:=fun f=>Dw f ap ob
 (refine fy [0] (aJC l hl 3 (by omega) (by omega) aJY bv cx) ?_;rintro _ _ ⟨aL4,aq,rfl,rfl,Ia,Id,zk,aLh⟩;simp only[go_sem])
 simp only[go_sem,gp,axD];obtain⟨gN,vk⟩:=abp ap z.J eK z.on;refine⟨gN,vk,?_⟩;have gN:ap.length=14:=gN;have zI: ∀ fj:List F,fj.length=14→ap++List.drop ap.length fj=ap:=fun fj aJ0=>by rw[List.drop_eq_nil_of_le (by omega),List.append_nil]
 simp only[go_sem,zI];have axE:bh.length≤20:=by omega
 refine E.jN [some 4] [1,2,3] rfl rfl (by simp only[go_sem,ob]<;>rfl) ?_;simp only[go_sem,ob]
 repeat (refine E.ac ?_;simp only[go_sem])
 refine bM (ED n 6 (by omega) (by omega)) rfl rfl ?_;obtain⟨qO,MB⟩:=atH (v:=n) (n:=6) (by omega);generalize mod n 6=k at *;have wx:IntKind.i64.wrap (IntKind.i64.wrap (20454+k)-1)=20453+k:=by rw[bl (x:=20454+k) (by omega) (by omega),bl (by omega) (by omega)];omega
 simp only[go_sem,wx];obtain⟨B,ay⟩: ∃ B,B=20453+k:=⟨_,rfl⟩;rw[←ay];have EN:20453≤B∧B≤20458:=by omega
 have Iq:Ib.oz bh 20:=⟨fun e he=>Ib.axF (Sv e he),axE⟩;obtain⟨aqY,aKL⟩: ∃ V:Ib.Ev,V=⟨9,1,5,29454260,1,0,0⟩:=⟨_,rfl⟩;have aLR:Ib.oz [aqY] 1:=⟨fun e he=>by rw[List.mem_singleton] at he;subst he;subst aKL;unfold Ib.iD Ib.mC;simp,by simp⟩;have MC:=Iq.mh aLR;have abI:Ib.kp (bh++ [aqY]) 1=Ib.kp bh 1:=aLB (fun e he=>by have:=(Sv e he).2.1;rw[aKL];simp only;omega) (by rw[aKL];simp);have mb:Ib.cL (bh++ [aqY])=Ib.cL bh:=by rw[MC.ij (by omega),Iq.ij (by omega)]
 have aLS:E9 aq 20452 20462=0:=by
  unfold E9;rw[if_neg (by omega),if_neg (by omega),if_neg (by omega)]
 obtain⟨aKM,aKR⟩: ∃ V:eH,V=⟨5,B,QI,60⟩:=⟨_,rfl⟩;have wF:E9 (aq++ [aKM]) B B=0:=by
  unfold E9;rw[List.length_append,List.length_singleton,if_neg (by omega),if_neg (by omega),if_neg (by omega)]
 have aLi: ∀ a∈aq,LK a∧(a.name=QI∨a.name=QJ∨a.name=QK):=fun a aC=>⟨(Mw (aLh a aC)).1,(aLh a aC).2.2.2.1⟩;have aLT: ∀ a∈aq++ [aKM],LK a∧(a.name=QI∨a.name=QJ∨a.name=QK):=fun a aC=>by
  rcases List.mem_append.1 aC with aC|aC
  ·exact aLi a aC
  ·rw[List.mem_singleton] at aC;subst aC;subst aKR;exact⟨by unfold LK;simp only;omega,.inl rfl⟩
 have Mx: ∀ X:List eH,le (.pure 4 (ai X)) (.pure 4 (ai X)):=fun X=>le_refl _ (by simp) (by simp);have c1:=aLa eK ob (by omega) (by omega) ae (by omega) bh (by omega) aq (Mx aq) aLi 1 20452 20462 aLS;have c2:=aLa eK ob (by omega) (by omega) ae (by omega) (bh++ [aqY]) (by rw[List.length_append,List.length_singleton];omega) (aq++ [aKM]) (Mx _) aLT 1 B B wF;rw[(abm (z:=z) (ae:=ae) abI mb).1,axn abI mb,aLE (by rw[aKR];simp),←aK9 (R:=20452) (ab:=20462) (by omega)] at c2;have axR:= @axo z ae bh aq 1 20452 20462;have aLU: ∃ V:Option CK,(jp z ae bh aq 1 20452 20462).filter (i B)=V.toList∧ ∀ x,V=some x→x.ah=B:=⟨pl z ae bh aq 1 B,by rw[aK9 (by omega),aK8],fun x h=>aK6 h⟩;generalize jp z ae bh aq 1 20452 20462=aF at *;generalize rG z ae bh 1=el at *;have ht:List.take 14 ap=ap:=List.take_of_length_le (by omega)
 (refine E.ac ?_;simp only[go_sem])
 simp only[go_sem,ht,gN];have oM: ∀ (aY:List Ib.Ev) (X:List eH) (a b:Int),bU [.agg ap,.pure 3 (ai ae),.pure 7 (ai aY),.pure 4 (ai X),.int .i64 1,.int .i64 a,.int .i64 b]=true:=fun aY X a b=>by simp only[bU,bJ,ob,ck,Bool.and_self]
 by_cases h0:el=0
 ·simp only[if_pos h0] at c1 c2;obtain⟨Ai,jt⟩:=axR h0 (by omega) (by omega) (by omega);refine bM c1 (oM bh aq _ _) rfl ?_;simp only[go_sem,ck]
  repeat (refine E.ac ?_;simp only[go_sem])
  refine⟨by omega,by omega,?_⟩;rw[aK2];generalize aKW: (eH.mk 5 B _ 60:eH)=aKH;obtain rfl:aKH=aKM:=by rw[aKR,←aKW];rfl
  have aKw:aq.length+1=(aq++ [aKH]).length:=by rw[List.length_append];rfl
  rw[aKw];generalize aq++ [aKH]=aLV at *;refine E.jN [some 0,some 1] [2] rfl rfl (by simp only[go_sem,ob]<;>rfl) ?_;simp only[go_sem,ob,bT]
  (refine E.ac ?_;simp only[go_sem])
  simp only[go_sem,ht,gN];refine⟨by omega,by omega,?_⟩;have aKX:ai bh++ [[.int .i64 9,.int .i64 1,.int .i64 5,.int .i64 29454260,.int .i64 1,.int .i64 0,.int .i64 0]]=ai (bh++ [aqY]):=by rw[aKL];exact kT (x:=Ib.Ev.mk 9 1 5 29454260 1 0 0)
  have aJG:bh.length+1=(bh++ [aqY]).length:=by rw[List.length_append];rfl
  rw[aKX,aJG];generalize bh++ [aqY]=fj at *;refine D4 [3] (aLb ob (by simp only[bJ,ck]) (by simp only[bJ,ck]) (by simp only[bJ,bU,ck,Bool.and_self]) c2) ?_ (hb:=by simp only[go_sem,qw ap ob]);rintro _ _ ⟨rfl,rfl⟩;simp only[go_sem]
  repeat (refine E.ac ?_;simp only[go_sem])
  refine bM (aKV aF (by omega) B) (by simp only[bU,bJ,ck,Bool.and_self]) rfl ?_;simp only[go_sem,ck];have aLW: (aF.filter (i B)).length≤aF.length:=List.length_filter_le _ _;have aKS: ∀ x∈aF.filter (i B),x.eg.length≤1000000∧x.jR.length≤1000000:=fun x aj=>jt x (List.mem_filter.1 aj).1;obtain⟨V,bp,aLX⟩:=aLU;rw[bp] at aLW aKS ⊢;refine bM (abJ _ (by omega) aKS) (by simp only[bU,bJ,ck,Bool.and_self]) rfl ?_;simp only[go_sem];refine bM (aKV aF (by omega) B) (by simp only[bU,bJ,ck,Bool.and_self]) rfl ?_;rw[bp];simp only[go_sem,ck];have V8:aO prog 26 [.pure 3 (ai V.toList),.pure 3 (ai V.toList)] [] (fun v rs=>v= .bH∧rs= []):=by
   cases V with
   |none=>exact aK4
   |some x=>exact aLx x (by have:=aLX x rfl;omega) (aKS x (by simp)).1 (aKS x (by simp)).2
  refine bM V8 (by simp only[bU,bJ,ck,Bool.and_self]) rfl ?_;simp only[go_sem];refine bM hN rfl rfl ?_;simp only[go_sem]
  repeat (refine E.ac ?_;simp only[go_sem])
  exact E.bg rfl ⟨rfl,rfl⟩
 ·simp only[if_neg h0] at c1 c2;refine bM c1 (oM bh aq _ _) rfl ?_;simp only[go_sem,ck]
  repeat (refine E.ac ?_;simp only[go_sem])
  refine⟨by omega,by omega,?_⟩;rw[aK2];generalize aKW: (eH.mk 5 B _ 60:eH)=aKH;obtain rfl:aKH=aKM:=by rw[aKR,←aKW];rfl
  have aKw:aq.length+1=(aq++ [aKH]).length:=by rw[List.length_append];rfl
  rw[aKw];generalize aq++ [aKH]=aLV at *;refine E.jN [some 0,some 1] [2] rfl rfl (by simp only[go_sem,ob]<;>rfl) ?_;simp only[go_sem,ob,bT]
  (refine E.ac ?_;simp only[go_sem])
  simp only[go_sem,ht,gN];refine⟨by omega,by omega,?_⟩;have aKX:ai bh++ [[.int .i64 9,.int .i64 1,.int .i64 5,.int .i64 29454260,.int .i64 1,.int .i64 0,.int .i64 0]]=ai (bh++ [aqY]):=by rw[aKL];exact kT (x:=Ib.Ev.mk 9 1 5 29454260 1 0 0)
  have aJG:bh.length+1=(bh++ [aqY]).length:=by rw[List.length_append];rfl
  rw[aKX,aJG];generalize bh++ [aqY]=fj at *;refine D4 [3] (aLb ob (by simp only[bJ,ck]) (by simp only[bJ,ck]) rfl c2) ?_ (hb:=by simp only[go_sem,qw ap ob]);rintro _ _ ⟨rfl,rfl⟩;simp only[go_sem]
  repeat (refine E.ac ?_;simp only[go_sem])
  simp only[go_sem,bne_self_eq_false]
  repeat (refine E.ac ?_;simp only[go_sem])
  have LD:aO prog 25 [.bH,.int .i64 B] [] (fun v rs=>v= .pure 3 (ai ([]:List CK))∧rs= []):=aO.le (aKV [] (by simp) B) (args':= [.bH,.int .i64 B]) (by simp[hK,le,ai]);refine bM LD rfl rfl ?_;simp only[go_sem];refine bM (aO.le (abJ [] (by simp) (by simp)) (args':= [.pure 3 (ai []),.bH]) (by simp[hK,le,ai])) rfl rfl ?_;simp only[go_sem];refine bM LD rfl rfl ?_;simp only[go_sem];refine bM (aO.le aK4 (args':= [.pure 3 (ai []),.bH]) (by simp[hK,le,ai])) rfl rfl ?_;simp only[go_sem];refine bM hN rfl rfl ?_;simp only[go_sem]
  repeat (refine E.ac ?_;simp only[go_sem])
  exact E.bg rfl ⟨rfl,rfl⟩
theorem timesheetDaily (l:List Int)(hl:mW l)(n:Int):aO prog 5 [.pure 1 (cJ .i64 l),.int .i64 n] [] (fun v rs=>v= .bool true∧rs= []):=aLQ aLY l hl n
end Go.Proofs.YtpincjkjoeopkaaGreatDoor
