/- Events and bands. -/
import Derived.Test.YtpincjkjoeopkaaGreatDoorW30
import Derived.Test.YtpincjkjoeopkaaGreatDoorW39
import Derived.Test.YtpincjkjoeopkaaGreatDoorW21
import Derived.Test.YtpincjkjoeopkaaGreatDoorW15
import Derived.Test.YtpincjkjoeopkaaGreatDoorW16
import Derived.Shelf.SlIter.Sorted
import Derived.Shelf.SlIter.Keys
set_option linter.all false
namespace Go.Proofs.YtpincjkjoeopkaaGreatDoor.Ib
open Go Go.Abs Go.Proofs.Tryz
def wQ (t:Int):Prop:=29453760≤t∧t≤29470000
def ne (e:Ev):Prop:=IV e∧wQ e.time
theorem agR {bj:Type}{P:bj→Prop}{l:List bj}{c:Nat}{x:bj}(h: ∀ d∈l,P d)(aj:P x): ∀ d∈l.set c x,P d:=by
 intro d bt;rcases List.mem_or_eq_of_mem_set bt with h1|h1
 ·exact h d h1
 ·subst h1;exact aj
theorem aCC (l:List Int)(hl:mW l)(n:Int)(LD:0≤n)(aH:n≤10)(az:Int)(h0:0≤az)(h1:az≤l.length):aO prog 23 [.bd 0 1 0 0,.int .i64 n] [gp l az]
 (fun v rs=> ∃ (a:Int) (ar:List Ev),v= .own 1 ar.length 0 ar.length∧rs= [gp l a,.ag 71 7 (ai ar)]∧0≤a∧a≤l.length∧ar.length≤5*n∧ ∀ e∈ar,ne e):=by
 refine hJ func23 acs (by simp[a23,sI]) ?_;unfold gp;simp only[go_sem,a23,sI]
 repeat (refine E.ac ?_;simp only[go_sem])
 refine hv (fun D r=> ∃ (a:Int) (B:Nat) (ar:List Ev),0≤a∧a≤l.length∧B≤n∧ar.length≤5*B∧(∀ e∈ar,ne e)∧D= [(0,.bd 0 1 0 0),(1,.int .i64 n),(5,.own 1 ar.length 0 ar.length),(6,.int .i64 (20+4*B)),(7,.int .i64 B)]∧r= [dX 143 l a,.ag 71 7 (ai ar)])
  (fun D _=>match bs D 7 with| .int _ j=>(n-j).toNat|_=>0) ?_ ?_
 ·(refine E.iv 5 71 7 rfl (E.eW [0,1,5,6,7] ?_);simp only[go_sem])
  exact E.ac ⟨az,0,[],by omega,by omega,by omega,by simp,by simp,rfl,rfl⟩
 clear h0 h1;rintro D r ⟨az,B,ar,h0,h1,ay,jI,kM,rfl,rfl⟩;have dn:=dB (c:=B) (by omega);simp only[go_sem,a23,sI]
 repeat (refine E.ac ?_;simp only[go_sem])
 refine dj ?_ ?_<;>intro aw<;>simp only[bC] at aw<;>simp only[go_sem,a23,sI]
 ·repeat (refine E.ac ?_;simp only[go_sem])
  rw[bl (x:=(B:Int)*1440) (by omega) (by omega),bl (x:=29453760+(B:Int)*1440) (by omega) (by omega)]
  (refine ja [480,465,1320,360,477] (ys l hl _ (by simp) (by simp)) ?_;rintro _ az _ _ ⟨p,cg,rfl⟩;simp only[fR] at cg;simp only[go_sem])
  have ak:0≤p∧p≤1320:=by omega
  clear cg;rw[bl (x:=29453760+(B:Int)*1440+p) (by omega) (by omega)]
  (refine lN (hi l hl 7 (by omega)) ?_;rintro _ az _ _ ⟨q,rfl,_,_⟩;simp only[go_sem])
  rw[bl (by omega) (by omega)];have agS:wQ (29453760+(B:Int)*1440+p+q)∧29453760+(B:Int)*1440+p+q≤29468100:=by unfold wQ;omega
  generalize 29453760+(B:Int)*1440+p+q=R at agS;unfold wQ at agS
  repeat (refine E.ac ?_;simp only[go_sem])
  (refine ja [480,510,540,660,300,75] (ys l hl _ (by simp) (by simp)) ?_;rintro _ az _ _ ⟨d,cg,rfl⟩;simp only[fR] at cg;simp only[go_sem])
  have bt:0≤d∧d≤660:=by omega
  clear cg;rw[bl (by omega) (by omega)]
  (refine E.bB [some 0,some 1] ?_;simp only[go_sem])
  (refine E.ac ?_;simp only[go_sem])
  (refine E.ac ?_;simp only[go_sem])
  refine E.ac (W6 (fun D r=> ∃ (a:Int) (aW K:List Int) (bS:List Z),0≤a∧a≤l.length∧K.length=aW.length∧aW.length≤4∧(∀ t∈aW,wQ t)∧(∀ k∈K,1≤k∧k≤4)∧eW [0,1,5,6,7,8,10,11] D= [(0,.bd 0 1 0 0),(1,.int .i64 n),(5,.own 1 ar.length 0 ar.length),(6,.int .i64 (20+4*B)),(7,.int .i64 B),(8,.int .i64 R),(10,.own 2 aW.length 0 aW.length),(11,.own 3 aW.length 0 aW.length)]∧r=dX 143 l a:: .ag 71 7 (ai ar):: .ag 3 1 (cJ .i64 aW):: .ag 3 1 (cJ .i64 K)::bS) ?_ ?_)
  ·simp only[go_sem]
   (refine lN (hi l hl 2 (by omega)) ?_;rintro _ az _ _ ⟨b,rfl,_,_⟩;simp only[go_sem])
   repeat (refine E.ac ?_;simp only[go_sem])
   refine dj ?_ ?_<;>intro ct<;>simp only[bC] at ct<;>simp only[go_sem,a23,sI]
   ·repeat (refine E.ac ?_;simp only[go_sem])
    (refine ja [120,240,60] (ys l hl _ (by simp) (by simp)) ?_;rintro _ az _ _ ⟨u,cg,rfl⟩;simp only[fR] at cg;simp only[go_sem])
    have bc:0≤u∧u≤240:=by omega
    clear cg;rw[bl (by omega) (by omega)]
    repeat (refine E.ac ?_;simp only[go_sem])
    (refine ja [30,15,45] (ys l hl _ (by simp) (by simp)) ?_;rintro _ az _ _ ⟨w,cg,rfl⟩;simp only[fR] at cg;simp only[go_sem])
    have aP:0≤w∧w≤45:=by omega
    clear cg;rw[bl (by omega) (by omega)]
    repeat (refine E.ac ?_;simp only[go_sem])
    refine⟨az,[R,R+d,R+u,R+u+w],[1,2,3,4],_,by omega,by omega,rfl,by simp,?_,?_,rfl,rfl⟩
    ·intro t ht;unfold wQ;simp only[fR] at ht;omega
    ·intro t ht;simp only[fR] at ht;omega
   ·refine⟨az,[R,R+d],[1,2],[],by omega,by omega,rfl,by simp,?_,?_,rfl,rfl⟩
    ·intro t ht;unfold wQ;simp only[fR] at ht;omega
    ·intro t ht;simp only[fR] at ht;omega
  clear h0 h1;rintro D r ⟨az,aW,K,bS,h0,h1,aCD,aKd,hN,cA,ql,rfl⟩;refine E.eW [0,1,5,6,7,8,10,11] ?_;rw[ql];clear ql;refine E.jN [some 0,some 1] [2,3] rfl rfl (by simp only[go_sem]<;>rfl) ?_;simp only[go_sem,aCD];have nF:K.take aW.length=K:=List.take_of_length_le (by omega);rw[nF]
  repeat (refine E.ac ?_;simp only[go_sem])
  refine hv (fun D r=> ∃ (a:Int) (j:Nat) (oC:List Ev),0≤a∧a≤l.length∧j≤aW.length∧oC.length≤5*B+j∧(∀ e∈oC,ne e)∧D= [(0,.bd 0 1 0 0),(1,.int .i64 n),(5,.own 1 oC.length 0 oC.length),(6,.int .i64 (20+4*B)),(7,.int .i64 B),(8,.int .i64 R),(10,.pure 1 (cJ .i64 aW)),(11,.pure 1 (cJ .i64 K)),(13,.int .i64 j)]∧r= [dX 143 l a,.ag 71 7 (ai oC)])
   (fun D _=>match bs D 13 with| .int _ j=>(aW.length-j).toNat|_=>0) ?_ ?_
  ·exact E.ac ⟨az,0,ar,by omega,by omega,by omega,by omega,kM,rfl,rfl⟩
  clear h0 h1 kM jI ar;rintro D r ⟨az,j,ar,h0,h1,hj,jI,kM,rfl,rfl⟩;have nf:=dB (c:=j) (by omega);simp only[go_sem,a23,sI]
  repeat (refine E.ac ?_;simp only[go_sem])
  refine dj ?_ ?_<;>intro ct<;>simp only[bC] at ct<;>simp only[go_sem,a23,sI]
  ·(refine E.ac ?_;simp only[go_sem])
   (refine lN (hi l hl 14 (by omega)) ?_;rintro _ az _ _ ⟨b,rfl,_,_⟩;simp only[go_sem])
   (refine E.ac ?_;simp only[go_sem])
   refine dj ?_ ?_<;>intro fH<;>simp only[bC] at fH<;>simp only[go_sem,a23,sI]
   ·repeat (refine E.ac ?_;simp only[go_sem])
    simp only[go_sem,nf];exact⟨⟨az,j+1,ar,by omega,by omega,by omega,by omega,kM,rfl,rfl⟩,by omega⟩
   ·have aI:j < aW.length:=by omega
    have hw:j < K.length:=by omega
    have z0: (0:Int)≤j:=by omega
    have mn: (j:Int) < aW.length:=by omega
    have Tf: (j:Int) < K.length:=by omega
    have aCE: (cJ .i64 aW).getD j []= [.int .i64 aW[j]]:=by rw[tw aI,List.getD_eq_getElem?_getD,List.getElem?_eq_getElem aI,Option.getD_some]
    have tn: (cJ .i64 K).getD j []= [.int .i64 K[j]]:=by rw[tw hw,List.getD_eq_getElem?_getD,List.getElem?_eq_getElem hw,Option.getD_some]
    have aCF:=hN _ (List.getElem_mem aI);have aKe:=cA _ (List.getElem_mem hw);generalize aW[j]=iq at *;generalize K[j]=JR at *;unfold wQ at aCF
    (refine E.ac ?_;simp only[go_sem])
    simp only[go_sem,z0,mn,Tf,aCE,tn];rw[bl (x:=20+4*(B:Int)+j) (by omega) (by omega)];refine⟨by omega,?_⟩;rw[Tc]
    (refine E.bB [some 0,some 1] ?_;simp only[go_sem])
    repeat (refine E.ac ?_;simp only[go_sem])
    simp only[go_sem,nf];refine⟨⟨az,j+1,ar++ [⟨2,20+4*B+j,1,iq,JR,0,0⟩],by omega,by omega,by omega,by simp;omega,?_,by simp,rfl⟩,by omega⟩;intro e he;simp only[List.mem_append,List.mem_singleton] at he;rcases he with he|rfl
    ·exact kM e he
    ·simp only[ne,IV,wQ,iD,mC,and_true];omega
  ·refine E.ac (W6 (fun D r=> ∃ (a:Int) (oC:List Ev) (bS:List Z),0≤a∧a≤l.length∧oC.length≤5*B+5∧(∀ e∈oC,ne e)∧eW [0,1,5,6,7] D= [(0,.bd 0 1 0 0),(1,.int .i64 n),(5,.own 1 oC.length 0 oC.length),(6,.int .i64 (20+4*B)),(7,.int .i64 B)]∧r=dX 143 l a:: .ag 71 7 (ai oC)::bS) ?_ ?_)
   ·simp only[go_sem]
    (refine lN (hi l hl 6 (by omega)) ?_;rintro _ az _ _ ⟨b,rfl,_,_⟩;simp only[go_sem])
    repeat (refine E.ac ?_;simp only[go_sem])
    refine dj ?_ ?_<;>intro fH<;>simp only[bC] at fH<;>simp only[go_sem,a23,sI]
    ·repeat (refine E.ac ?_;simp only[go_sem])
     rw[bl (by omega) (by omega)]
     (refine ja [6,5] (ys l hl _ (by simp) (by simp)) ?_;rintro _ az _ _ ⟨u,cg,rfl⟩;simp only[fR] at cg;simp only[go_sem])
     refine⟨by omega,?_⟩;rw[Tc]
     repeat (refine E.ac ?_;simp only[go_sem])
     refine⟨az,ar++ [⟨3,20+4*B,1,R+10,u,2,20+4*B⟩],_,by omega,by omega,by simp;omega,?_,by simp,rfl⟩;intro e he;simp only[List.mem_append,List.mem_singleton] at he;rcases he with he|rfl
     ·exact kM e he
     ·simp only[ne,IV,wQ,iD,mC,and_true];omega
    ·exact⟨az,ar,[],by omega,by omega,by omega,kM,rfl,rfl⟩
   clear h0 h1 kM jI ar;rintro D r ⟨az,ar,bS,h0,h1,jI,kM,ql,rfl⟩;refine E.eW [0,1,5,6,7] ?_;rw[ql];clear ql;refine E.ll [some 0,some 1] [] rfl rfl (by simp only[go_sem]<;>rfl) ?_;simp only[go_sem]
   repeat (refine E.ac ?_;simp only[go_sem])
   rw[bl (x:=20+4*(B:Int)+4) (by omega) (by omega)];simp only[go_sem,dn];refine⟨⟨az,B+1,ar,by omega,by omega,by omega,by omega,kM,?_,rfl⟩,by omega⟩;simp;omega
 ·repeat (refine E.ac ?_;simp only[go_sem])
  refine hv (fun D r=> ∃ (a:Int) (j:Int) (oC:List Ev),0≤a∧a≤l.length∧ -1≤j∧j < oC.length∧oC.length≤5*n∧(∀ e∈oC,ne e)∧D= [(0,.bd 0 1 0 0),(5,.own 1 oC.length 0 oC.length),(14,.int .i64 j)]∧r= [dX 143 l a,.ag 71 7 (ai oC)])
   (fun D _=>match bs D 14 with| .int _ j=>j.toNat|_=>0) ?_ ?_
  ·rw[bl (by omega) (by omega)];exact E.ac ⟨az,ar.length-1,ar,by omega,by omega,by omega,by omega,by omega,kM,rfl,rfl⟩
  clear h0 h1 kM jI ar;rintro D r ⟨az,j,ar,h0,h1,ud,hj,jI,kM,rfl,rfl⟩;simp only[go_sem,a23,sI]
  repeat (refine E.ac ?_;simp only[go_sem])
  refine dj ?_ ?_<;>intro ct<;>simp only[bC] at ct<;>simp only[go_sem,a23,sI]
  ·repeat (refine E.ac ?_;simp only[go_sem])
   (refine lN (hi l hl 3 (by omega)) ?_;rintro _ az _ _ ⟨b,rfl,_,_⟩;simp only[go_sem])
   repeat (refine E.ac ?_;simp only[go_sem])
   refine dj ?_ ?_<;>intro fH<;>simp only[bC] at fH<;>simp only[go_sem,a23,sI]
   ·repeat (refine E.ac ?_;simp only[go_sem])
    rw[bl (by omega) (by omega)]
    (refine lN (hi l hl (j+1) (by omega)) ?_;rintro _ az _ _ ⟨k,rfl,_,_⟩;simp only[go_sem])
    obtain⟨j,rfl⟩: ∃ q:Nat,j=q:=⟨j.toNat,by omega⟩;obtain⟨k,rfl⟩: ∃ q:Nat,k=q:=⟨k.toNat,by omega⟩;have nC:j < ar.length:=by omega
    have gO:k < ar.length:=by omega
    have z0: (0:Int)≤j:=by omega
    have mn: (j:Int) < ar.length:=by omega
    have Tf: (0:Int)≤k:=by omega
    have z3: (k:Int) < ar.length:=by omega
    have Sx: (ai ar).getD j []=aJ.J ar[j]:=cT nC;have gk: (ai ar).getD k []=aJ.J ar[k]:=cT gO;have zI: ∀ x:Ev,List.drop 7 (aJ.J x)= []:=fun _=>rfl;have hw:k < (ar.set j ar[k]).length:=by rw[List.length_set];omega
    (refine E.ac ?_;simp only[go_sem])
    simp only[go_sem,z0,mn,Tf,z3,Sx,gk];rw[zI,List.append_nil,xS,cT hw,zI,List.append_nil,xS]
    repeat (refine E.ac ?_;simp only[go_sem])
    rw[bl (by omega) (by omega)];refine⟨⟨az,j-1,(ar.set j ar[k]).set k ar[j],by omega,by omega,by omega,by simp only[List.length_set];omega,by simp only[List.length_set];omega,agR (agR kM (kM _ (List.getElem_mem gO))) (kM _ (List.getElem_mem nC)),by simp,rfl⟩,by omega⟩
   ·repeat (refine E.ac ?_;simp only[go_sem])
    rw[bl (by omega) (by omega)];exact⟨⟨az,j-1,ar,by omega,by omega,by omega,by omega,by omega,kM,rfl,rfl⟩,by omega⟩
  ·repeat (refine E.ac ?_;simp only[go_sem])
   exact E.ac ⟨az,ar,rfl,rfl,by omega,by omega,by omega,kM⟩
theorem axA (l:List Int)(hl:mW l)(n:Int)(LD:0≤n)(aH:n≤10)(az:Int)(h0:0≤az)(h1:az≤l.length):aO prog 23 [.bd 0 1 0 0,.int .i64 n] [gp l az]
 (fun v rs=> ∃ (a:Int) (ar:List Ev),v= .own 1 ar.length 0 ar.length∧rs= [gp l a,.ag 71 7 (ai ar)]∧0≤a∧a≤l.length∧ar.length≤5*n∧ ∀ e∈ar,IV e):=
 (aCC l hl n LD aH az h0 h1).mono fun v rs ⟨a,ar,h1,G,au,bv,cx,dx⟩=>⟨a,ar,h1,G,au,bv,cx,fun e he=>(dx e he).1⟩
end Go.Proofs.YtpincjkjoeopkaaGreatDoor.Ib
namespace Go.Proofs.YtpincjkjoeopkaaGreatDoor
open Go Go.Abs Go.Proofs.Tryz
theorem aOE (l:List Int)(hl:mW l)(az:Int)(h0:0≤az)(h1:az≤l.length):aO prog 19 [.bd 0 1 0 0] [gp l az]
 (fun v rs=> ∃ (a:Int) (ar:List Ib.Ev),v= .own 1 ar.length 0 ar.length∧rs= [gp l a,.ag 71 7 (ai ar)]∧0≤a∧a≤l.length∧ar.length≤23):=by
 refine hJ func19 azu (by simp[aco,aHq]) ?_;simp only[go_sem,aco,aHq,gp]
 (repeat (first| (refine E.ac ?_;simp only[go_sem])|simp only[go_sem]))
 (refine fy [0] (Ib.axA l hl 4 (by omega) (by omega) az h0 h1) ?_;rintro _ _ ⟨aJY,ds,rfl,rfl,bv,cx,MA,Sv⟩;simp only[go_sem])
 simp only[go_sem,gp,Ib.gp]
 (refine fy [0] (Ib.aOF l hl 3 (by omega) (by omega) aJY bv cx) ?_;rintro _ _ ⟨aOG,ar,rfl,rfl,dx,oN,jI,aPX⟩;simp only[go_sem])
 simp only[go_sem,gp,Ib.gp];refine⟨by omega,?_⟩;have aM5: (ds++ar).length=ds.length+ar.length:=List.length_append;rw[←aM5];have axE: (ds++ar).length≤23:=by omega
 generalize ds++ar=bh at *;refine E.ac ?_
 by_cases aOH:bh.length=0
 ·have q1:decide (0 < (bh.length:Int))=false:=decide_eq_false (by omega);simp only[go_sem,q1]
  repeat (refine E.ac ?_;simp only[go_sem])
  (refine E.bB [some 0,some 1] ?_;simp only[go_sem])
  exact E.ac ⟨aOG,bh,rfl,rfl,dx,oN,axE⟩
 have q1:decide (0 < (bh.length:Int))=true:=decide_eq_true (by omega);simp only[go_sem,q1]
 (refine lN (hi l hl 12 (by omega)) ?_;rintro _ az _ _ ⟨w,rfl,_,_⟩;simp only[go_sem])
 (refine E.ac ?_;simp only[go_sem])
 obtain⟨e,Gx,rfl⟩: ∃ e Gx,bh=e::Gx:=by
  cases bh with
  |nil=>exact absurd rfl aOH
  |cons e Gx=>exact⟨e,Gx,rfl⟩
 refine arL (E 1 fun D r=> ∃ (a:Int) (e:Ib.Ev),bs D 3= .own 1 (Gx.length+1) 0 (Gx.length+1)∧r= [dX 143 l a,.ag 71 7 (ai (e::Gx))]∧0≤a∧a≤l.length) ?_ ?_ ?_
 ·intro aw;simp only[go_sem];refine⟨by omega,?_⟩;rw[show List.take 7 ((ai (e::Gx)).getD 0 [])=aJ.J e from rfl];refine KP (Ib.aOI l hl e) (by simp only[go_sem]) rfl (by omega) (by omega) ?_;rintro _ az _ _ ⟨cO,rfl⟩;simp only[go_sem];refine⟨by omega,?_⟩;rw[show (ai (e::Gx)).set 0 (aJ.J cO++List.drop 7 ((ai (e::Gx)).getD 0 []))=ai (cO::Gx) from rfl]
  (refine E.bB [some 0,some 1] ?_;simp only[go_sem])
  exact E.ac ⟨az,cO,rfl,rfl,by omega,by omega⟩
 ·intro aw;simp only[go_sem]
  (refine E.bB [some 0,some 1] ?_;simp only[go_sem])
  exact E.ac ⟨az,e,rfl,rfl,by omega,by omega⟩
 ·intro e z h;refine E.mono ?_ h;rintro D r ⟨az,e,UP,rfl,_,_⟩;simp only[go_sem,UP]
  repeat (refine E.ac ?_;simp only[go_sem])
  exact E.ac ⟨az,e::Gx,rfl,rfl,by omega,by omega,by simpa using axE⟩
theorem ayg (t:Int)(h0:0≤t)(h1:t≤120968639):aO prog 259 [.agg [.int .i64 0,.bH],.int .i64 t] [] (fun v rs=>v= .bo [.int .i64 t,.int .i64 0]∧rs= []):=by
 refine ((Ym ⟨0,[]⟩ rfl t h0 h1).le (args':= [.agg [.int .i64 0,.bH],.int .i64 t]) (by simp[hK,le,cc.v,ai])).mono ?_;rintro v rs ⟨rfl,rfl⟩;exact⟨by simp[yf,zQ],rfl⟩
def wH (bm:Bool):List Z:= [.ag 359 3 [[.bH,.bE 1,.bE 2]],.be (.map false [.int .i64] (if bm then [(.int .i64 2025,.bH),(.int .i64 2026,.bH),(.int .i64 2027,.bH)] else [])),.be (.map false [.int .i64] (if bm then [(.int .i64 20454,.bool false)] else []))]
theorem ayh:aO prog 200 [.bH] [] (fun v rs=>v= .bd 0 1 0 0∧rs=wH false):=
 zN (aW:=As) (aY:= []) 60 [(.bd 0 1 0 0,wH false)] (by kernel_rfl) (by intro o h;rw[List.mem_singleton] at h;subst h;exact⟨rfl,rfl⟩)
theorem ayi:aO prog 203 [.bH,.int .i64 0] [] (fun v rs=>v= .int .i64 0∧rs= []):=
 zN (aW:=As) (aY:=MH) 60 [(.int .i64 0,[])] (by kernel_rfl) (by intro o h;rw[List.mem_singleton] at h;subst h;exact⟨rfl,rfl⟩)
theorem abQ (bm:Bool):aO prog 260 [.bd 0 1 0 0,.int .i64 20454] (wH bm) (fun v rs=>v= .bool false∧rs=wH true):=by
 cases bm
 ·exact zN (aW:=As) (aY:=MH) 60 [(.bool false,wH true)] (by kernel_rfl) (by intro o h;rw[List.mem_singleton] at h;subst h;exact⟨rfl,rfl⟩)
 ·exact zN (aW:=As) (aY:=MH) 60 [(.bool false,wH true)] (by kernel_rfl) (by intro o h;rw[List.mem_singleton] at h;subst h;exact⟨rfl,rfl⟩)
theorem ayj (bm:Bool)(t:Int)(h0:29453760≤t)(h1:t < 29455200):aO prog 201 [.agg [.int .i64 0,.bH],.bd 0 1 0 0,.int .i64 t] (wH bm)
 (fun v rs=>v= .agg [.int .i64 (t-29453760),.int .i64 3,.bool false]∧rs=wH true):=by
 refine cu func201 SJ (by simp[Ff,Iy]) ?_;have ay:t.tdiv 1440=20454:=by rw[Int.tdiv_eq_ediv_of_nonneg (by omega)];omega
 have hm:t.tmod 1440=t-29453760:=by rw[Int.tmod_eq_emod_of_nonneg (by omega)];omega
 have dn:IntKind.i64.wrap 20454=20454:=bl (by omega) (by omega);have gI:IntKind.i64.wrap 29453760=29453760:=bl (by omega) (by omega);have ik:IntKind.i64.wrap (t-29453760)=t-29453760:=bl (by omega) (by omega);have aI:decide (t-29453760 < 0)=false:=decide_eq_false (by omega);have bF:IntKind.i64.wrap (t-IntKind.i64.wrap (20454*1440))=t-29453760:=by
  rw[show IntKind.i64.wrap (20454*1440)=29453760 from by decide];exact ik
 have bK: (IntKind.i64.wrap (Int.tmod 20454 7+10)).tmod 7=3:=by decide
 cases bm
 all_goals
  have uQ:=abQ false;have abR:=abQ true;unfold wH at *;simp only[if_true,Bool.false_eq_true,if_false] at uQ abR ⊢;simp only[go_sem,Ff,Iy];refine bM (ayg t (by omega) (by omega)) rfl rfl ?_;simp only[go_sem,ay,hm,dn,aI];refine⟨by omega,by omega,by omega,by omega,?_⟩
 ·(refine fy [0,1,2] (uQ) ?_;rintro _ _ ⟨rfl,rfl⟩;simp only[go_sem])
  simp only[go_sem,bF,bK]
  (refine E.bB [some 0,some 1,some 2] ?_;simp only[go_sem])
  exact E.ac ⟨rfl,rfl⟩
 ·(refine fy [0,1,2] (abR) ?_;rintro _ _ ⟨rfl,rfl⟩;simp only[go_sem])
  simp only[go_sem,bF,bK]
  (refine E.bB [some 0,some 1,some 2] ?_;simp only[go_sem])
  exact E.ac ⟨rfl,rfl⟩
def CN:F:= .agg [.int .i64 0,.int .i64 0,.int .i64 0,.int .i64 0,.int .i64 0,.int .i64 0,.int .i64 0,.int .i64 0,.int .i64 0,.int .i64 0,.int .i64 0,.int .i64 0,.int .i64 0,.int .i64 0,.int .i64 0,.int .i64 0]
structure wI where
 ah:Int
 R:Int
 ab:Int
 ep:ByteArray
instance:aJ wI:=⟨fun a=> [.int .i64 a.ah,.int .i64 a.R,.int .i64 a.ab,.str a.ep],4,fun _=>rfl,fun _=>rfl,fun _=>rfl⟩
theorem ayk (e:wI):aJ.J e= [.int .i64 e.ah,.int .i64 e.R,.int .i64 e.ab,.str e.ep]:=rfl
theorem ayl:aJ.U wI=4:=rfl
theorem aym (e:wI):List.take 4 (aJ.J e)=aJ.J e:=rfl
attribute [go_sem] ayl aym
def MI (p:wI):Prop:=p.ah=20454∧29453760≤p.R∧p.R≤p.ab∧p.ab≤29455200
def MJ (bm:Bool):List (F×F):=if bm then [(.int .i64 2025,.bH),(.int .i64 2026,.bH),(.int .i64 2027,.bH)] else []
def MK (bm:Bool):List (F×F):=if bm then [(.int .i64 20454,.bool false)] else []
def Fg (bm:Bool):List (F×F):=if bm then [(.int .i64 0,.int .i64 0)] else []
def Av (bm:Bool):List (F×F):=if bm then [(.int .i64 20454,CN)] else []
theorem ayn (bm:Bool):kh (MJ bm)=true:=by cases bm<;>rfl
theorem ayo (bm:Bool):kh (MK bm)=true:=by cases bm<;>rfl
theorem ayp (bm:Bool):kh (Fg bm)=true:=by cases bm<;>rfl
theorem ayq (bm:Bool):kh (Av bm)=true:=by cases bm<;>rfl
attribute [go_sem] ayn ayo ayp ayq
theorem ayr (bm:Bool): (dm (.int .i64 20454) (Av bm)).getD CN=CN:=by cases bm<;>rfl
theorem ays (bm:Bool):dy (.int .i64 20454) CN (Av bm)=Av true:=by cases bm<;>rfl
theorem ayt (bm:Bool):dy (.int .i64 0) (.int .i64 0) (Fg bm)=Fg true:=by cases bm<;>rfl
def vl (bm W iZ:Bool):List Z:= [.ag 32 2 [[.int .i64 0,.bH]],.ag 359 3 [[.bH,.bE 2,.bE 3]],.be (.map false [.int .i64] (MJ bm)),.be (.map false [.int .i64] (MK bm)),
 .be (.map false [.int .i64] (Fg W)),.be (.map false [.int .i64] (Av iZ))]
theorem ayu (bm:Bool)(t:Int)(h0:29453760≤t)(h1:t < 29455200):aO prog 201 [.agg [.int .i64 0,.bH],.bd 0 1 0 0,.int .i64 t] [.ag 359 3 [[.bH,.bE 1,.bE 2]],.be (.map false [.int .i64] (MJ bm)),.be (.map false [.int .i64] (MK bm))]
 (fun v rs=>v= .agg [.int .i64 (t-29453760),.int .i64 3,.bool false]∧rs= [.ag 359 3 [[.bH,.bE 1,.bE 2]],.be (.map false [.int .i64] (MJ true)),.be (.map false [.int .i64] (MK true))]):=ayj bm t h0 h1
theorem ayv (aa:List wI)(hl:aa.length≤1000000)(ak: ∀ p∈aa,MI p):aO prog 115 [.agg [.int .i64 0,.bH],.bH,.bH,.pure 4 (ai aa)] []
 (fun v rs=>v= .bE 0∧rs= [.be (.map false [.int .i64] (Av (decide (0 < aa.length))))]):=by
 refine cu func115 SK (by simp[ip,iC]) ?_;have hA:=ayh;unfold wH at hA;simp only[if_true,Bool.false_eq_true,if_false] at hA;simp only[go_sem,ip,iC,bT]
 (refine rv (hA) ?_;rintro _ _ ⟨rfl,rfl⟩;simp only[go_sem])
 refine dN (fun D r=> ∃ (c:Nat) (bm W:Bool),c≤aa.length∧D= [(2,.bH),(4,.bd 0 1 0 0),(9,.bd 1 1 0 0),(10,.bE 4),(11,.bE 5),(27,.pure 4 (ai aa)),(28,.int .i64 aa.length),(29,.int .i64 c)]∧r=vl bm W (decide (0 < c)))
  (fun D _=>match bs D 29 with| .int _ j=>(aa.length-j).toNat|_=>0) ?_ ?_
 ·exact E.ac ⟨0,false,false,by omega,rfl,rfl⟩
 rintro D r ⟨c,bm,W,av,rfl,rfl⟩;have fK:=dB (c:=c) (by omega)
 by_cases aI:c < aa.length
 rotate_left
 ·have h1:decide ((c:Int) < aa.length)=false:=decide_eq_false (by omega);obtain rfl:c=aa.length:=by omega
  unfold vl;simp only[go_sem,ip,iC,h1]
  (refine E.bB [some 5] ?_;simp only[go_sem])
  exact E.ac ⟨rfl,rfl⟩
 have h1:decide ((c:Int) < aa.length)=true:=decide_eq_true (by omega);have z0: (0:Int)≤c:=by omega
 have mn: (c:Int) < aa.length:=by omega
 have aw: (ai aa).getD c []=aJ.J aa[c]:=cT aI;obtain⟨p1,iT,Ds,aJ6⟩:=ak _ (List.getElem_mem aI);generalize aa[c]=p at *;generalize hG:decide (0 < c)=iZ;unfold vl;simp only[go_sem,ip,iC,h1,z0,mn,aw,bT,ayk,p1];rw[show (F.agg [.int .i64 0,.int .i64 0,.int .i64 0,.int .i64 0,.int .i64 0,.int .i64 0,.int .i64 0,.int .i64 0,.int .i64 0,.int .i64 0,.int .i64 0,.int .i64 0,.int .i64 0,.int .i64 0,.int .i64 0,.int .i64 0])=CN from rfl,ayr];refine⟨rfl,rfl,?_⟩;rw[show cp CN= [.int .i64 0,.int .i64 0,.int .i64 0,.int .i64 0,.int .i64 0,.int .i64 0,.int .i64 0,.int .i64 0,.int .i64 0,.int .i64 0,.int .i64 0,.int .i64 0,.int .i64 0,.int .i64 0,.int .i64 0,.int .i64 0] from rfl];refine dN (fun D r=> ∃ (k:Int) (bm W:Bool),p.R≤k∧k≤p.ab∧D= [(2,.bH),(4,.bd 0 1 0 0),(9,.bd 1 1 0 0),(10,.bE 4),(11,.bE 5),(13,.bd 6 1 0 0),(14,.bd 7 1 0 0),(15,.int .i64 k),(27,.pure 4 (ai aa)),(28,.int .i64 aa.length),(29,.int .i64 c)]∧r=vl bm W iZ++ [.ag 221 4 [[.int .i64 20454,.int .i64 p.R,.int .i64 p.ab,.str p.ep]],.ag 227 16 [[.int .i64 0,.int .i64 0,.int .i64 0,.int .i64 0,.int .i64 0,.int .i64 0,.int .i64 0,.int .i64 0,.int .i64 0,.int .i64 0,.int .i64 0,.int .i64 0,.int .i64 0,.int .i64 0,.int .i64 0,.int .i64 0]]])
  (fun D _=>match bs D 15 with| .int _ j=>(p.ab-j).toNat|_=>0) ?_ ?_
 ·exact E.ac ⟨p.R,bm,W,by omega,by omega,rfl,rfl⟩
 clear bm W;rintro D r ⟨k,bm,W,Cm,kL,rfl,rfl⟩;unfold vl
 by_cases Aa:k < p.ab
 rotate_left
 ·have G:decide (k < p.ab)=false:=decide_eq_false Aa;simp only[go_sem,ip,iC,G];rw[fK,show (F.agg [.int .i64 0,.int .i64 0,.int .i64 0,.int .i64 0,.int .i64 0,.int .i64 0,.int .i64 0,.int .i64 0,.int .i64 0,.int .i64 0,.int .i64 0,.int .i64 0,.int .i64 0,.int .i64 0,.int .i64 0,.int .i64 0])=CN from rfl,ays]
  (refine E.bB [some 0,some 1,some 2,some 3,some 4,some 5] ?_;simp only[go_sem])
  refine E.ac ⟨⟨c+1,bm,W,by omega,rfl,?_⟩,?_⟩
  ·rw[decide_eq_true (show 0 < c+1 by omega)]
  ·simp only[go_sem];omega
 have G:decide (k < p.ab)=true:=decide_eq_true Aa;simp only[go_sem,ip,iC,G]
 (refine fy [1,2,3] (ayu bm k (by omega) (by omega)) ?_;rintro _ _ ⟨rfl,rfl⟩;simp only[go_sem])
 have nH:IntKind.i64.wrap (k+1)=k+1:=bl (by omega) (by omega);refine dN (fun D r=>D= [(2,.bH),(4,.bd 0 1 0 0),(9,.bd 1 1 0 0),(10,.bE 4),(11,.bE 5),(13,.bd 6 1 0 0),(14,.bd 7 1 0 0),(15,.int .i64 k),(16,.bd 8 1 0 0),(17,.int .i64 0),(27,.pure 4 (ai aa)),(28,.int .i64 aa.length),(29,.int .i64 c),(51,.bH),(52,.int .i64 0),(53,.int .i64 0)]∧r=vl true W iZ++ [.ag 221 4 [[.int .i64 20454,.int .i64 p.R,.int .i64 p.ab,.str p.ep]],.ag 227 16 [[.int .i64 0,.int .i64 0,.int .i64 0,.int .i64 0,.int .i64 0,.int .i64 0,.int .i64 0,.int .i64 0,.int .i64 0,.int .i64 0,.int .i64 0,.int .i64 0,.int .i64 0,.int .i64 0,.int .i64 0,.int .i64 0]],.ag 316 3 [[.int .i64 (k-29453760),.int .i64 3,.bool false]]])
  (fun D _=>0) ?_ ?_
 ·exact E.ac ⟨rfl,rfl⟩
 rintro D r ⟨rfl,rfl⟩;unfold vl;simp only[go_sem,ip,iC];cases W
 ·rw[show dm (.int .i64 0) (Fg false)=none from rfl];simp only[go_sem,ip,iC];refine bM ayi rfl rfl ?_;simp only[go_sem,ip,iC,ayt];refine dN (fun D r=>D= [(2,.bH),(4,.bd 0 1 0 0),(9,.bd 1 1 0 0),(10,.bE 4),(11,.bE 5),(13,.bd 6 1 0 0),(14,.bd 7 1 0 0),(15,.int .i64 k),(20,.int .i64 0),(27,.pure 4 (ai aa)),(28,.int .i64 aa.length),(29,.int .i64 c),(81,.int .i64 0),(82,.int .i64 0)]∧r=vl true true iZ++ [.ag 221 4 [[.int .i64 20454,.int .i64 p.R,.int .i64 p.ab,.str p.ep]],.ag 227 16 [[.int .i64 0,.int .i64 0,.int .i64 0,.int .i64 0,.int .i64 0,.int .i64 0,.int .i64 0,.int .i64 0,.int .i64 0,.int .i64 0,.int .i64 0,.int .i64 0,.int .i64 0,.int .i64 0,.int .i64 0,.int .i64 0]],.ag 316 3 [[.int .i64 (k-29453760),.int .i64 3,.bool false]]])
   (fun D _=>0) ?_ ?_
  ·exact E.ac ⟨rfl,rfl⟩
  rintro D r ⟨rfl,rfl⟩;unfold vl;simp only[go_sem,ip,iC,nH]
  (refine E.bB [some 0,some 1,some 2,some 3,some 4,some 5,some 6,some 7] ?_;simp only[go_sem])
  refine E.ac ⟨⟨k+1,true,true,by omega,by omega,rfl,rfl⟩,?_⟩;simp only[go_sem];omega
 ·rw[show dm (.int .i64 0) (Fg true)=some (.int .i64 0) from rfl];simp only[go_sem,ip,iC];refine dN (fun D r=>D= [(2,.bH),(4,.bd 0 1 0 0),(9,.bd 1 1 0 0),(10,.bE 4),(11,.bE 5),(13,.bd 6 1 0 0),(14,.bd 7 1 0 0),(15,.int .i64 k),(20,.int .i64 0),(27,.pure 4 (ai aa)),(28,.int .i64 aa.length),(29,.int .i64 c),(81,.int .i64 0),(82,.int .i64 0)]∧r=vl true true iZ++ [.ag 221 4 [[.int .i64 20454,.int .i64 p.R,.int .i64 p.ab,.str p.ep]],.ag 227 16 [[.int .i64 0,.int .i64 0,.int .i64 0,.int .i64 0,.int .i64 0,.int .i64 0,.int .i64 0,.int .i64 0,.int .i64 0,.int .i64 0,.int .i64 0,.int .i64 0,.int .i64 0,.int .i64 0,.int .i64 0,.int .i64 0]],.ag 316 3 [[.int .i64 (k-29453760),.int .i64 3,.bool false]]])
   (fun D _=>0) ?_ ?_
  ·exact E.ac ⟨rfl,rfl⟩
  rintro D r ⟨rfl,rfl⟩;unfold vl;simp only[go_sem,ip,iC,nH]
  (refine E.bB [some 0,some 1,some 2,some 3,some 4,some 5,some 6,some 7] ?_;simp only[go_sem])
  refine E.ac ⟨⟨k+1,true,true,by omega,by omega,rfl,rfl⟩,?_⟩;simp only[go_sem];omega
theorem aO.ayw {P:Program}{f:FuncId}{args:List F}{r:List Z}{K:F→List Z→Prop}(h:uH P f args r K):aO P f args r K:=by
 intro C dA N aA hG dv;subst N;exact GC aA hG dv h
theorem ayx (aW:TypeId)(aa:List wI)(hl:aa.length≤1000000)(ak: ∀ p∈aa,MI p):aO prog 115 [.agg [.int .i64 0,.bH],.bH,.bH,.own 0 aa.length 0 aa.length] [.ag aW 4 (ai aa)]
 (fun v rs=>v= .bE 1∧rs= [.ag aW 4 (ai aa),.be (.map false [.int .i64] (Av (decide (0 < aa.length))))]):=by
 refine aO.ayw ⟨[],[0],[],by simp,rfl,?_⟩;have af:dT [.ag aW 4 (ai aa)] (([]:List Nat).map some) [0] [.agg [.int .i64 0,.bH],.bH,.bH,.own 0 aa.length 0 aa.length]= [.agg [.int .i64 0,.bH],.bH,.bH,.pure 4 (ai aa)]:=by
  have:bW [.ag aW 4 (ai aa)] [] [0] (.own 0 aa.length 0 aa.length)= .pure 4 (ai aa):=qx rfl rfl rfl bT.symm ck;simp only[List.map_nil,dT,this];rfl
 rw[af];refine (ayv aa hl ak).mono ?_;rintro v rs ⟨rfl,rfl⟩;refine⟨.inr ⟨rfl,by cases decide (0 < aa.length)<;>rfl⟩,rfl,?_⟩;cases decide (0 < aa.length)<;>rfl
def ML:List (List F)→Option (List wI)
 | []=>some []
 | [.int .i64 B,.int .i64 f,.int .i64 t,.str b]::l=>match ML l with|some aa=>some (⟨B,f,t,b⟩::aa)|none=>none
 |_::_=>none
theorem abS: ∀ {l:List (List F)} {aa:List wI},ML l=some aa→l=ai aa
 | [],aa,h=>by cases h;rfl
 |x::l,aa,h=>by
  unfold ML at h;split at h
  ·cases ‹_::_= []›
  ·rename_i nx;cases nx;split at h
   ·rename_i aJ7 aV;cases h;rw[abS aV];rfl
   ·cases h
  ·cases h
instance (p:wI):Decidable (MI p):=inferInstanceAs (Decidable (p.ah=20454∧29453760≤p.R∧p.R≤p.ab∧p.ab≤29455200))
def SL (args:List F)(r:List Z):Option (F×List Z):=
 match args,r with
 | [.agg [.int .i64 0,.bH],.bH,.bH,.own 0 n 0 m],[.ag aW 4 am]=>
  match ML am with
  |some aa=>if n=aa.length∧m=aa.length∧aa.length≤1000∧aa.all (fun p=>decide (MI p))=true then some (.bE 1,[.ag aW 4 am,.be (.map false [.int .i64] (Av (decide (0 < aa.length))))]) else none
  |none=>none
 |_,_=>none
theorem ayy (args:List F)(r:List Z)(v:F)(rs:List Z)(h:SL args r=some (v,rs)):aO prog 115 args r fun gA hs=>gA=v∧hs=rs:=by
 unfold SL at h;split at h
 ·split at h
  ·rename_i aa kk;split at h
   ·rename_i ad;simp only[Option.some.injEq,Prod.mk.injEq] at h;obtain⟨rfl,rfl⟩:=h;obtain⟨rfl,rfl,au,bv⟩:=ad;rw[abS kk];exact ayx _ aa (by omega) (fun p ak=>of_decide_eq_true (List.all_eq_true.1 bv p ak))
   ·cases h
  ·cases h
 ·cases h
def aO5:List (uU prog):=⟨115,SL,ayy⟩::MH
open Go.Maps
open Go.RowKit (Below)
def aOJ:Go.Shelf.Ren:=
 {f:=fun x=>match x with|125=>158|128=>241|129=>242|190=>188|258=>251|302=>303|303=>304|304=>305|305=>306|306=>307|307=>308|308=>309|309=>310|310=>311|329=>290|330=>291|333=>346|334=>347|335=>348|336=>208|344=>364|n=>n,
  t:=fun x=>match x with|0=>0|3=>3|4=>4|5=>5|9=>9|31=>166|46=>284|51=>347|53=>349|131=>206|182=>340|183=>341|218=>376|222=>380|228=>412|229=>308|n=>n,
  g:=fun n=>n}
set_option maxRecDepth 100000 in
theorem aM6:Lays.n190 prog aOJ where
 mixed:=by kernel_rfl
 f125:=Eq.trans func158 (congrArg some (by kernel_rfl))
 f128:=Eq.trans func241 (congrArg some (by kernel_rfl))
 f129:=Eq.trans func242 (congrArg some (by kernel_rfl))
 f190:=Eq.trans func188 (congrArg some (by kernel_rfl))
 f258:=Eq.trans func251 (congrArg some (by kernel_rfl))
 f302:=Eq.trans func303 (congrArg some (by kernel_rfl))
 f303:=Eq.trans func304 (congrArg some (by kernel_rfl))
 f304:=Eq.trans func305 (congrArg some (by kernel_rfl))
 f305:=Eq.trans func306 (congrArg some (by kernel_rfl))
 f306:=Eq.trans func307 (congrArg some (by kernel_rfl))
 f307:=Eq.trans func308 (congrArg some (by kernel_rfl))
 f308:=Eq.trans func309 (congrArg some (by kernel_rfl))
 f309:=Eq.trans func310 (congrArg some (by kernel_rfl))
 f310:=Eq.trans func311 (congrArg some (by kernel_rfl))
 f329:=Eq.trans func290 (congrArg some (by kernel_rfl))
 f330:=Eq.trans func291 (congrArg some (by kernel_rfl))
 f333:=Eq.trans func346 (congrArg some (by kernel_rfl))
 f334:=Eq.trans func347 (congrArg some (by kernel_rfl))
 f335:=Eq.trans func348 (congrArg some (by kernel_rfl))
 f336:=Eq.trans func208 (congrArg some (by kernel_rfl))
 f344:=Eq.trans func364 (congrArg some (by kernel_rfl))
 t0:=underlying0
 a0:=isAgg0
 z0:=sizeOf0
 v0:=zeroValue0
 t3:=underlying3
 a3:=isAgg3
 z3:=sizeOf3
 v3:=zeroValue3
 t4:=underlying4
 a4:=isAgg4
 z4:=sizeOf4
 v4:=zeroValue4
 t5:=underlying5
 a5:=isAgg5
 z5:=sizeOf5
 v5:=zeroValue5
 t9:=underlying9
 a9:=isAgg9
 z9:=sizeOf9
 v9:=zeroValue9
 t31:=underlying166
 a31:=isAgg166
 z31:=sizeOf166
 v31:=zeroValue166
 t46:=underlying284
 a46:=isAgg284
 z46:=sizeOf284
 v46:=zeroValue284
 t51:=underlying347
 a51:=isAgg347
 z51:=sizeOf347
 v51:=zeroValue347
 t53:=underlying349
 a53:=isAgg349
 z53:=sizeOf349
 v53:=zeroValue349
 t131:=underlying206
 a131:=isAgg206
 z131:=sizeOf206
 v131:=zeroValue206
 t182:=underlying340
 a182:=isAgg340
 z182:=sizeOf340
 v182:=zeroValue340
 t183:=underlying341
 a183:=isAgg341
 z183:=sizeOf341
 v183:=zeroValue341
 t218:=underlying376
 a218:=isAgg376
 z218:=sizeOf376
 v218:=zeroValue376
 t222:=underlying380
 a222:=isAgg380
 z222:=sizeOf380
 v222:=zeroValue380
 t228:=underlying412
 a228:=isAgg412
 z228:=sizeOf412
 v228:=zeroValue412
 t229:=underlying308
 a229:=isAgg308
 z229:=sizeOf308
 v229:=zeroValue308
def aM7:Go.Shelf.Ren:=
 {f:=fun x=>match x with|6=>104|8=>187|9=>188|11=>250|n=>n,
  t:=fun x=>match x with|26=>9|28=>204|24=>166|0=>0|3=>3|4=>4|33=>208|n=>n,
  g:=fun n=>n}
set_option maxRecDepth 100000 in
theorem aOK:SlLaysZ.n6 prog aM7 where
 mixed:=by kernel_rfl
 f6:=⟨"slices.Sorted[string]",by decide,Eq.trans func104 (congrArg some (by kernel_rfl))⟩
 f8:=⟨"slices.Collect[string]",by decide,Eq.trans func187 (congrArg some (by kernel_rfl))⟩
 f11:=⟨"slices.AppendSeq[[]string,string]",by decide,Eq.trans func250 (congrArg some (by kernel_rfl))⟩
 t0:=underlying0
 a0:=isAgg0
 z0:=sizeOf0
 v0:=zeroValue0
 t24:=underlying166
 a24:=isAgg166
 z24:=sizeOf166
 v24:=zeroValue166
 t26:=underlying9
 a26:=isAgg9
 z26:=sizeOf9
 v26:=zeroValue9
 t28:=underlying204
 a28:=isAgg204
 z28:=sizeOf204
 v28:=zeroValue204
 i26:=by kernel_rfl
def aM8:Go.Shelf.Ren:=
 {f:=fun x=>match x with|7=>105|10=>189|n=>n,
  t:=fun x=>match x with|23=>201|26=>9|3=>3|28=>204|0=>0|27=>203|33=>208|4=>4|n=>n,
  g:=fun n=>n}
set_option maxRecDepth 100000 in
theorem aOL:SlLaysZ.n7 prog aM8 where
 mixed:=by kernel_rfl
 f7:=⟨"maps.Keys[map[string]int,string,int]",by decide,Eq.trans func105 (congrArg some (by kernel_rfl))⟩
 f10:=⟨"maps.Keys[map[string]int,string,int]$1",by decide,Eq.trans func189 (congrArg some (by kernel_rfl))⟩
 t0:=underlying0
 a0:=isAgg0
 z0:=sizeOf0
 v0:=zeroValue0
 t4:=underlying4
 a4:=isAgg4
 z4:=sizeOf4
 v4:=zeroValue4
 t23:=underlying201
 a23:=isAgg201
 z23:=sizeOf201
 v23:=zeroValue201
 t26:=underlying9
 a26:=isAgg9
 z26:=sizeOf9
 v26:=zeroValue9
 t27:=underlying203
 a27:=isAgg203
 z27:=sizeOf203
 v27:=zeroValue203
 t28:=underlying204
 a28:=isAgg204
 z28:=sizeOf204
 v28:=zeroValue204
 t33:=underlying208
 a33:=isAgg208
 z33:=sizeOf208
 v33:=zeroValue208
theorem aOM (m:Nat):AnyZ.SortsIn prog aM7 Fence.wide m:=
 ⟨fun oq off cap bV W uQ vL dJ=>callsIn_wide.2 (Any.slices_Sort_string aM6 oq off cap bV W uQ vL dJ),
  fun p cap W=>callsIn_wide.2 (calls_of_every_depth fun aD=>AnyS.slices_Sort_string_none_in aM6 aD p cap W)⟩
def aLo (x:List UInt8):ByteArray:=⟨x.toArray⟩
def aK4 (l:List ByteArray):List (List F):=l.map fun I=> [.str I]
theorem aON (l:List ByteArray): (aK4 l).length=l.length:=by simp[aK4]
def aLU (Y:List ByteArray):List ByteArray:=((Y.map fun I=>I.data.toList).mergeSort leB).map aLo
theorem aM9 {C:bD}{b:Nat}: ∀ (ce:List (List UInt8)) (o:Nat),(∀ c (h:c < ce.length),C.w.cell? ⟨b,o+c,none⟩=some (encStr ce[c]))→dh C b o 1 (aK4 (ce.map aLo))
 | [],o,_=>by simp[aK4,dh]
 |M::ce,o,h=>by
  rw[List.map_cons,aK4,List.map_cons,dh];refine⟨rfl,?_,aM9 ce (o+1) fun c av=> ?_⟩
  ·rw[dC];refine⟨⟨encStr M,h 0 (Nat.zero_lt_succ _),rfl,by rw[Rep];rfl⟩,by rw[dC];trivial⟩
  ·have:=h (c+1) (by simpa using av);rw[show o+1+c=o+(c+1) by omega];simpa using this
theorem aNa {C:bD}: ∀ {ce:List ByteArray} {vs:List Value},aE C (ce.map (F.str ·)) vs→vs=ce.map (Value.string ·)
 | [],vs,h=>by simpa[aE] using h
 |M::ce,vs,h=>by
  rw[List.map_cons,aE] at h;obtain⟨v,bS,rfl,an,N⟩:=h;rw[Rep] at an;rw[List.map_cons,←aNa N,an]
def aOO:Value→List UInt8
 | .string I=>I.data.toList
 |_=> []
theorem aOP {r:List Z}{a b:Nat}{aW:TypeId}{s:List (F×F)}{Y:List ByteArray}(aC:r[a]? =some (.be (.map false [.str] s)))(af:r[b]? =some (.ag aW 1 [[.bE a]]))(O:s.map (·.1)=Y.map (F.str ·))(ss:Y.Nodup)(ki: ∀ x∈Y,x.size≤maxLen)(cK:Y.length≤1000000):
 aO prog 104 [.fn 189 [.bd b 1 0 0]] r
  (fun v rs=>v= .pure 1 (aK4 (aLU Y))∧rs=r):=by
 refine aO.P5 (fun h=>h) ?_;intro C dA N aA hG dv;have iV:C.r[a]? =some (.be (.map false [.str] s)):=by rw[N];exact aC
 have jS:C.r[b]? =some (.ag aW 1 [[.bE a]]):=by rw[N];exact af
 rw[aE] at dv;obtain⟨v0,bS,rfl,an,aH⟩:=dv;rw[aE] at aH;subst aH;rw[Rep] at an;obtain⟨vs,rfl,kU⟩:=an;rw[aE] at kU;obtain⟨RX,bS,Cz,ak,aH⟩:=kU;rw[aE] at aH;subst aH;rw[Rep] at ak;obtain⟨hC,_,_,hall⟩:=ak;obtain⟨_,G⟩:=hall _ _ _ jS;obtain⟨_,Bm,J,rl,rfl⟩:=G rfl;obtain rfl:vs= #[.pointer (some ⟨Bm,0,none⟩)]:=by
  apply Array.toList_inj.1;rw[Cz]
 rcases aA.ag jS with ⟨_,qo⟩|⟨b1,cap,ap,iK,zG,nE,eK,vK,eA,dp⟩
 ·cases qo
 rw[rl] at iK;simp only[Option.some.injEq,Prod.mk.injEq] at iK;obtain⟨rfl,rfl⟩:=iK;rw[dh,dC] at dp;obtain⟨⟨RY,nw,_,kD⟩,_⟩:=dp.2.1;rw[Rep] at kD;obtain⟨_,_,_,kD⟩:=kD;obtain⟨b0,c0,CA,rfl⟩:=kD _ iV;have mr:=aA.r _ _ iV;rw[dQ] at mr;obtain⟨RZ,R0,ar,qK,R1,lZ,sb,xq,Gh,Gi⟩:=mr;rw[CA] at qK;simp only[Option.some.injEq,Prod.mk.injEq] at qK;obtain⟨rfl,rfl⟩:=qK;have gO:ar.toList.map (·.key)=Y.map (Value.string ·):=aNa (by rw[←O];exact xq);have dJ:ar.size=Y.length:=by
  have:=congrArg List.length gO;simpa using this
 let aF:Value→Option (DataW Unit×List MemPlace):=fun _=>some (.nil,[])
 have Io:prog.underlying 9=some .string:=underlying9;have tP: ∀ x∈ar.toList,∃ M:ByteArray,x.key= .string M∧M∈Y∧Go.WideElems.rd prog 9 aF x=some (.string M.data.toList,.nil):=by
  intro x aj;have:x.key∈Y.map (Value.string ·):=by rw[←gO];exact List.mem_map_of_mem aj
  obtain⟨M,ba,sD⟩:=List.mem_map.1 this;refine⟨M,sD.symm,ba,?_⟩;unfold Go.WideElems.rd;have ao:=ki M ba;have Rr:keyOf prog 9 (.string M)=some (.string M.data.toList):=by
   have xC:M.data.size≤maxLen:=ao;simp[keyOf,Io,mapKey,ao,xC]
  rw[←sD,Rr];rfl
 have uA:Go.WideElems.Fit prog 9 aF ar ar.size:=by
  refine⟨by rw[dJ];unfold maxLen;omega,⟨fun x aj=> ?_,?_,?_⟩,fun x aj=> ?_⟩
  ·obtain⟨c,av,rfl⟩:=List.getElem_of_mem aj;have:=sb c _ (by rw[←Array.getElem?_toList,List.getElem?_eq_getElem av]);rw[this];simpa using av
  ·have:ar.toList.map (·.born)=List.range ar.size:=by
    refine List.ext_getElem? fun c=> ?_
    by_cases av:c < ar.size
    ·rw[List.getElem?_map,Array.getElem?_toList,Array.getElem?_eq_getElem av,List.getElem?_range av];simp[sb c _ (Array.getElem?_eq_getElem av)]
    ·rw[List.getElem?_eq_none (by simp;omega),List.getElem?_eq_none (by simp;omega)]
   rw[this];exact List.nodup_range
  ·rw[gO];exact List.pairwise_map.2 (ss.imp fun h e=>h (by simpa using e))
  ·obtain⟨M,_,_,h⟩:=tP x aj;exact⟨_,h⟩
 let el:=ar.toList.map (Go.WideElems.rg prog 9 aF)
 let aD:DataW Unit:= .map (el.foldr DataW.insert [])
 have pK:C.w.ownsMap prog 9 aF b0 ar.size aD:=⟨ar,ar.size,lZ,uA,Nat.le_refl _,rfl⟩;have wF:el.map (fun p=>strOf p.1)=Y.map fun I=>I.data.toList:=by
  have: ∀ x∈ar.toList,((fun p:Lit×DataW Unit=>strOf p.1)∘Go.WideElems.rg prog 9 aF) x=(aOO∘fun x:MapEntry=>x.key) x:=by
   intro x aj;obtain⟨M,h1,_,G⟩:=tP x aj;simp only[Function.comp_apply];rw[Go.WideElems.rg_of G,h1];rfl
  show List.map _ (List.map _ ar.toList)=_;rw[List.map_map,List.map_congr_left this,←List.map_map,gO,List.map_map];rfl
 have kV: (strKeys aD).Perm (Y.map fun I=>I.data.toList):=by
  rw[←wF];exact (Go.WideShapes.sorted_perm el).map _
 have fS:Maps.size aD=Y.length:=by
  show (el.foldr DataW.insert []).length=_;rw[length_sorted,List.length_map,Array.length_toList,dJ]
 have vf:SeqGives Fence.wide 2 prog 189 #[.pointer (some ⟨Bm,0,none⟩)] encStr (fun bV=>bV.Perm (strKeys aD)) (Maps.size aD) C.w:=
  AnyZ.keys_gives (ρ:=aM8) {aOL with} Fence.wide _ trivial rfl (by omega) Bm b0 ar.size aD C.w (Array.getElem?_eq_some_iff.1 nE).1 nw pK
 have CB:=AnyZ.sorted_in aOK Fence.wide 5 trivial trivial trivial trivial rfl (by omega) (aOM _) (enters_of func188 (by kernel_rfl) rfl) 189 #[.pointer (some ⟨Bm,0,none⟩)] trivial (enters_of func189 (by kernel_rfl) rfl) _ (Maps.size aD) (by rw[fS];unfold maxLen;omega) (by rw[fS];omega) C.w vf;refine (callsIn_wide.1 CB).mono ?_;rintro e w' ⟨v,bV,rfl,du,y,iW,af⟩;obtain⟨aY,hL⟩: ∃ aY,aY=(Y.map fun I=>I.data.toList).mergeSort leB:=⟨_,rfl⟩;have CC: (bV.mergeSort leB)=aY:=by rw[hL];exact mergeSort_of_perm (du.trans kV)
 have fF:bV.length=aY.length:=by rw[←CC,List.length_mergeSort]
 refine⟨v,.pure 1 (aK4 (aY.map aLo)),rfl,af,fun Dp=> ?_,by unfold aLU;rw[hL],by rw[←N]⟩;have aLH: (aK4 (aY.map aLo)).length=bV.length:=by rw[aON,List.length_map,fF]
 rw[Rep];rcases y.2 with ⟨rfl,ba⟩|⟨g,cap,oZ,rfl,Mz,ve,r1,cY,fY,fc⟩
 ·exact⟨none,0,by rw[aLH,ba],by rw[aLH,ba];exact Nat.le_refl _,.inl (by rw[aLH,ba])⟩
 ·refine⟨_,cap,by rw[aLH],by rw[aLH];exact r1,.inr ⟨g,0,rfl,⟨(Array.getElem?_eq_some_iff.1 ve).1,fun bp=> ?_,fun z J h=> ?_⟩,?_⟩⟩
  ·have:=aA.bY _ bp;omega
  ·have:=aA.lt h;omega
  ·refine aM9 (C:=bD.p _) _ _ fun c av=> ?_;have h1: (oZ.toList.take (bV.length*1))[c]? =((bV.mergeSort leB).map encStr)[c]? :=by rw[fc]
   rw[List.getElem?_take_of_lt (by rw[Nat.mul_one,fF];exact av),List.getElem?_map,CC,List.getElem?_eq_getElem av,Array.getElem?_toList] at h1;show World.cell? w' _=_;simp only[World.cell?,ve,Nat.zero_add];simpa using h1
end Go.Proofs.YtpincjkjoeopkaaGreatDoor
