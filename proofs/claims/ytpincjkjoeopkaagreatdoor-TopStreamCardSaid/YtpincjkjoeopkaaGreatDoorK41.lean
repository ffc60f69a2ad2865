/- Time evaluation. -/
import Derived.Test.YtpincjkjoeopkaaGreatDoorK38
import Derived.Test.YtpincjkjoeopkaaGreatDoorK40
import Derived.Test.YtpincjkjoeopkaaGreatDoorK39
import Derived.Test.YtpincjkjoeopkaaGreatDoorK36
set_option linter.unusedSimpArgs false
set_option linter.unusedVariables false
set_option linter.unusedSectionVars false
namespace Go.Proofs.YtpincjkjoeopkaaGreatDoor
open Go Go.Abs Go.Proofs.Tryz
set_option maxHeartbeats 4000000 in
theorem axB (l:List Int)(hl:mW l)(az:Int)(h0:0≤az)(h1:az≤l.length):aO prog 17 [.bd 0 1 0 0,.bool false] [gp l az]
 (fun v rs=> ∃ (a:Int) (z:eD) (ap:List F),v= .agg ap∧hK ap z.J∧rs= [gp l a]∧0≤a∧a≤l.length∧qL z=0∧z.ao.length≤4∧z.al.length≤3):=by
 refine hJ func17 abV (by simp[IA,MN]) ?_;simp only[go_sem,IA,MN,gp]
 (refine E.ac ?_;simp only[go_sem])
 (refine fy [0] (atO l hl az h0 h1) ?_;rintro _ _ ⟨abz,M,rfl,rfl,h0,h1,ba,axb⟩;simp only[go_sem])
 simp only[go_sem,gp,cc.v]
 (refine ja [900,700,10080] (hj l hl _ (by simp) (by simp)) ?_;rintro _ az _ _ ⟨fz,cg,rfl⟩;simp only[fR] at cg;simp only[go_sem])
 have SM:1≤fz∧fz≤10080:=by omega
 clear cg
 (refine ja [60,0,180] (hj l hl _ (by simp) (by simp)) ?_;rintro _ az _ _ ⟨er,cg,rfl⟩;simp only[fR] at cg;simp only[go_sem])
 have abW:0≤er∧er≤1440:=by omega
 clear cg
 (refine ja [120,0] (hj l hl _ (by simp) (by simp)) ?_;rintro _ az _ _ ⟨ex,cg,rfl⟩;simp only[fR] at cg;simp only[go_sem])
 have MO:0≤ex∧ex≤1440:=by omega
 clear cg
 (refine fy [0] (Pr.ayI l hl az (by omega) (by omega)) ?_;rintro _ _ ⟨ff,dK,rfl,rfl,_,_,DO⟩;simp only[go_sem])
 simp only[go_sem,Pr.gp,gp,Pr.Ab]
 (refine fy [0] (Ib.ayJ l hl ff (by omega) (by omega)) ?_;rintro _ _ ⟨a3,ia,rfl,rfl,_,_,so⟩;simp only[go_sem])
 simp only[go_sem,Ib.gp,gp,Ib.ib.v]
 (refine fy [0] (Pm.ayK l hl false a3 (by omega) (by omega)) ?_;rintro _ _ ⟨a4,al,rfl,rfl,_,_,sF,pV⟩;simp only[go_sem])
 simp only[go_sem,gp]
 (refine fy [0] (Pm.ayL l hl false a4 (by omega) (by omega)) ?_;rintro _ _ ⟨a5,ao,_,_,aJ8,SN,rfl,rfl⟩;simp only[go_sem])
 have pV:=pV rfl;have SN:=SN rfl;have mT: ∀ r0 r1 cY fY fc Hh ws:Z,bW [r0,r1,cY,fY,fc,.ag 229 7 (ai al),Hh,ws] [some 0,some 1,some 7] [5,6] (.own 5 al.length 0 al.length)= .pure 7 (ai al):=fun _ _ _ _ _ _ _=>qx rfl rfl rfl (by rw[bT]) ck;have abX: ∀ r0 r1 cY fY fc sd ws:Z,bW [r0,r1,cY,fY,fc,sd,.ag 263 6 (ai ao),ws] [some 0,some 1,some 7] [5,6] (.own 6 ao.length 0 ao.length)= .pure 6 (ai ao):=fun _ _ _ _ _ _ _=>qx rfl rfl rfl (by rw[bT]) ck;have an: ∀ M:cc,fe M=0→qL ⟨M,fz,er,ex,dK,ia,al,ao⟩=0:=fun M ba=>by
  unfold qL;rw[if_neg (by simp only;omega),if_neg (by unfold rF;simp only;omega),if_neg (by simp only;omega),if_neg (by have:=Ib.ayM so;simp only;omega)];unfold Pm.vm;simp only;have ayN:Pm.ng ao=0:=by unfold Pm.ng;rw[if_neg (by omega),if_pos SN]
  rw[if_pos ba,if_pos ayN,if_neg (by omega),if_pos pV]
 refine E.jN [some 0,some 1,some 7] [5,6] rfl rfl (by simp only[go_sem,mT,abX,ck]<;>rfl) ?_;simp only[go_sem,mT,abX]
 (refine E.ac ?_;simp only[go_sem])
 (refine lN (hi l hl 2 (by omega)) ?_;rintro _ az _ _ ⟨q,rfl,_,_⟩;simp only[go_sem])
 (refine E.ac ?_;simp only[go_sem])
 refine dj ?_ ?_<;>intro aw<;>simp only[bC] at aw<;>simp only[go_sem,IA,MN]
 ·(refine ja [0,60] (hj l hl _ (by simp) (by simp)) ?_;rintro _ az _ _ ⟨V,cg,rfl⟩;simp only[fR] at cg;simp only[go_sem])
  have bp:V=0∨V=60:=cg;clear cg;have th:fe ⟨V,[]⟩=0:=by rcases bp with rfl|rfl<;>decide
  (repeat (first| (refine E.ac ?_;simp only[go_sem])|simp only[go_sem]))
  (refine E.bB [some 0] ?_;simp only[go_sem])
  refine E.ac ⟨az,⟨⟨V,[]⟩,fz,er,ex,dK,ia,al,ao⟩,_,rfl,?_,rfl,by omega,by omega,an _ th,by simp only;omega,by simp only;omega⟩;simp[eD.J,hK,le,ai]
 ·(repeat (first| (refine E.ac ?_;simp only[go_sem])|simp only[go_sem]))
  (refine E.bB [some 0] ?_;simp only[go_sem])
  refine E.ac ⟨az,⟨M,fz,er,ex,dK,ia,al,ao⟩,_,rfl,?_,rfl,by omega,by omega,an _ ba,by simp only;omega,by simp only;omega⟩;simp[eD.J,hK,le,ai]
theorem axk {a b:List Ib.Ev}{n:Int}(h:Ib.kp a n=Ib.kp b n):kZ a n=kZ b n:=by
 unfold kZ Mv;generalize Ib.kp a n=A at *;subst h;rfl
theorem axl {a b:List Ib.Ev}{n:Int}(h: ∀ e,e∈a↔e∈b):Ib.kp a n=Ib.kp b n:=by
 have e:Ib.fr a=Ib.fr b:=Ib.axm h;unfold Ib.kp;rw[e]
theorem abm {z:eD}{ae:List cw}{a b:List Ib.Ev}{n:Int}(h:Ib.kp a n=Ib.kp b n)(ad:Ib.cL a=Ib.cL b):
 rG z ae a n=rG z ae b n∧ ∀ aq B,pl z ae a aq n B=pl z ae b aq n B:=by
 have ao:=axk h;have h1:tX z ae a n=tX z ae b n:=by unfold tX;rw[ao]
 have G:rE z ae a n=rE z ae b n:=by unfold rE;rw[ao,ad,h1]
 have au:pf z ae a n=pf z ae b n:=by unfold pf;rw[h1]
 have bv:fT z ae a n=fT z ae b n:=by unfold fT;rw[au]
 have cx:lB z ae a n=lB z ae b n:=by unfold lB;rw[bv]
 refine⟨by unfold rG;rw[G,au,bv],fun aq B=> ?_⟩;have dx:ne z ae a aq n B=ne z ae b aq n B:=by unfold ne;rw[bv,cx]
 have oN:sG z a n B=sG z b n B:=by unfold sG;rw[ao]
 unfold pl;rw[dx,oN]
theorem axn {z:eD}{ae:List cw}{a b:List Ib.Ev}{aq:List eH}{n R ab:Int}(h:Ib.kp a n=Ib.kp b n)(ad:Ib.cL a=Ib.cL b):jp z ae a aq n R ab=jp z ae b aq n R ab:=by
 have e:pl z ae a aq n=pl z ae b aq n:=funext fun B=>(abm h ad).2 aq B;unfold jp;rw[e]
theorem abn {ae:List cw}{bk ah:Int}: ∀ {l:List eH} {i:Nat},i≤l.length→(nP ae bk ah (l.take i)).length≤i
 |l,0,_=>by simp[nP]
 |l,i+1,h=>by
  have ih:=abn (ae:=ae) (bk:=bk) (ah:=ah) (l:=l) (i:=i) (by omega);rw[aap (by omega)];split
  ·have:=abo l[i].name (su ae l[i]) (nP ae bk ah (l.take i));omega
  ·omega
theorem axo {z:eD}{ae:List cw}{l:List Ib.Ev}{aq:List eH}{n R ab:Int}(h:rG z ae l n=0)(aj:aq.length≤100000)(ht:ab≤84005)(hf:0≤R):
 (jp z ae l aq n R ab).length≤84006∧ ∀ x∈jp z ae l aq n R ab,x.eg.length≤1000000∧x.jR.length≤1000000:=by
 refine⟨?_,fun x aj=> ?_⟩
 ·unfold jp;refine Nat.le_trans (List.length_filterMap_le _ _) ?_;rw[List.length_map,List.length_range];omega
 ·unfold jp at aj;obtain⟨B,_,ay⟩:=List.mem_filterMap.1 aj;unfold pl at ay;split at ay
  ·cases ay
  ·cases ay;have cR:=h;unfold rG at cR;split at cR
   ·omega
   split at cR
   ·omega
   rename_i h1 G;have h1:rE z ae l n=0:=by omega
   have G:Ib.ew (pf z ae l n)=0:=by omega
   obtain⟨nD,_,_,_,LW⟩:=aaH h1;obtain⟨_,_,_,_,kD⟩:=Mr nD;have awV: (fT z ae l n).length≤4096∧(lB z ae l n).length≤65536:=by
    have bv:=cR;unfold Pm.vh at bv;rw[if_pos kD] at bv;have cx: ((fT z ae l n).map tV).length≤4096:=by
     unfold Pm.vi at bv;split at bv
     ·cases bv
     ·omega
    obtain⟨_,_,Sk,_⟩:=Pm.Sl kD;have dx:=aaE (M:=z.M) (h:=z.ao) (aa:=(fT z ae l n).map tV) Sk;have Mu:Pm.tW z.M z.ao z.al ((fT z ae l n).map tV)=lB z ae l n:=rfl;rw[Mu] at dx;rw[List.length_map] at cx dx;omega
   have Gb:=aax (fT z ae l n) B;have JH:=List.length_filter_le (pS B) (fT z ae l n);have t3:=List.length_filter_le (fun p:Pm.Pm=>decide (p.ah=B)) (lB z ae l n);have t4:=abn (ae:=ae) (bk:=n) (ah:=B) (l:=aq) (i:=aq.length) (Nat.le_refl _);rw[List.take_length] at t4;have t5: (An (nP ae n B aq)).length≤(nP ae n B aq).length:=List.length_filter_le _ _;have aJV: (sG z l n B).length≤1024:=by
    unfold sG;rw[List.length_map];exact Nat.le_trans (List.length_filter_le _ _) LW
   refine⟨?_,by simp only;omega⟩;unfold ne;simp only[List.length_append,List.length_map];split
   ·rw[List.length_map];omega
   ·simp only[List.length_nil];omega
theorem axp (I:ByteArray)(h:I=QI∨I=QJ∨I=QK):aO prog 108 [.str I] [] (fun v rs=>v= .bool true∧rs= []):=by
 rcases h with rfl|rfl|rfl
 ·exact zN (aW:=As) (aY:= []) 60 [(.bool true,[])] (by kernel_rfl) (by intro V h;rw[List.mem_singleton] at h;subst h;exact⟨rfl,rfl⟩)
 ·exact zN (aW:=As) (aY:= []) 60 [(.bool true,[])] (by kernel_rfl) (by intro V h;rw[List.mem_singleton] at h;subst h;exact⟨rfl,rfl⟩)
 ·exact zN (aW:=As) (aY:= []) 60 [(.bool true,[])] (by kernel_rfl) (by intro V h;rw[List.mem_singleton] at h;subst h;exact⟨rfl,rfl⟩)
theorem Mw {a:eH}(h:LC a):LK a∧a.name.size≤maxLen∧(Lit.int .i64 a.ah).wf=true:=by
 obtain⟨h1,G,au,bv,cx⟩:=h;refine⟨by unfold LK;omega,?_,?_⟩
 ·rcases bv with h|h|h<;>rw[h]<;>decide
 ·have bF:IntKind.i64.min= -9223372036854775808:=rfl;have bK:IntKind.i64.max=9223372036854775807:=rfl;simp only[Lit.wf,bF,bK];simp;omega
mutual
theorem axq: ∀ (a b:F),le a b→bJ b=true→bJ a=true
 | .bH,_,_,_=>rfl
 | .agg aq,.agg ys,h,k=>by
  simp only[bJ] at k ⊢;simp only[le] at h;exact Fc aq ys h k
 | .bo aq,.bo ys,h,k=>by
  simp only[bJ] at k ⊢;simp only[le] at h;exact Fc aq ys h k
 |a,b,h,k=>by
  unfold le at h;split at h
  ·rfl
  ·rename_i aq ys;simp only[bJ] at k ⊢;exact Fc aq ys h k
  ·rename_i aq ys;simp only[bJ] at k ⊢;exact Fc aq ys h k
  ·rw[h];exact k
theorem Fc: ∀ (aq ys:List F),hK aq ys→bU ys=true→bU aq=true
 | [],_,_,_=>rfl
 |a::aq,b::ys,h,k=>by
  simp only[bU,Bool.and_eq_true] at k ⊢;simp only[hK] at h;exact⟨axq a b h.1 k.1,Fc aq ys h.2 k.2⟩
 |_::_,[],h,_=>by simp only[hK] at h
end
theorem axr: ∀ (a b:F),le a b→Abs.cV b=true→Abs.cV a=true:=by
 intro a b h k;unfold le at h;split at h
 ·rfl
 ·simp[Abs.cV] at k
 ·simp[Abs.cV] at k
 ·rw[h];exact k
theorem abp: ∀ (aq ys:List F),hK aq ys→ys.all Abs.cV=true→aq.length=ys.length∧aq.all Abs.cV=true
 | [],[],_,_=>⟨rfl,rfl⟩
 |a::aq,b::ys,h,k=>by
  simp only[hK] at h;simp only[List.all_cons,Bool.and_eq_true,List.length_cons] at k ⊢;obtain⟨h1,G⟩:=abp aq ys h.2 k.2;exact⟨by omega,axr a b h.1 k.1,G⟩
 | [],_::_,h,_=>by simp only[hK] at h
 |_::_,[],h,_=>by simp only[hK] at h
theorem abq {ap:List F}{z:eD}(ad:hK ap z.J)(gN:bU ap=true)(hh:z.ao.length≤1000000)(aP:z.al.length≤1000000)(ae:List cw)(gy:ae.length≤1000000)(l:List Ib.Ev)(hl:l.length≤1000000){abr:F}(aq:List eH)
 (Mx:le abr (.pure 4 (ai aq))) (aj: ∀ a∈aq,LC a) (n R ab:Int) (dp:E9 aq R ab=0):
 aO prog 11 [.agg ap,.pure 3 (ai ae),.pure 7 (ai l),abr,.int .i64 n,.int .i64 R,.int .i64 ab] []
  (fun v rs=>(if rG z ae l n=0 then v= .bo [.pure 3 (ai (jp z ae l aq n R ab)),.int .i64 0] else v= .bo [.bH,.int .i64 (rG z ae l n)])∧rs= []):=
 (axj z hh aP ae gy l hl aq (fun a aC=>auV a (Mw (aj a aC)).1 (axp _ (aj a aC).2.2.2.1)) (fun a aC=>by have:=(Mw (aj a aC)).1;unfold LK at this;exact⟨this.2.2.2.2.1,this.2.2.2.2.2⟩) (fun a aC=>⟨(Mw (aj a aC)).2.2,(Mw (aj a aC)).2.1⟩) n R ab dp).le (by simp[hK,le,ad,Mx])
end Go.Proofs.YtpincjkjoeopkaaGreatDoor
namespace Go.Proofs.YtpincjkjoeopkaaGreatDoor.Ib
open Go Go.Abs Go.Proofs.Tryz
def wQ (t:Int):Prop:=29453760≤t∧t≤29470000
def ne (e:Ev):Prop:=IV e∧wQ e.time
theorem agR {bj:Type}{P:bj→Prop}{l:List bj}{i:Nat}{x:bj}(h: ∀ y∈l,P y)(aj:P x): ∀ y∈l.set i x,P y:=by
 intro y bt;rcases List.mem_or_eq_of_mem_set bt with h1|h1
 ·exact h y h1
 ·subst h1;exact aj
theorem aCC (l:List Int)(hl:mW l)(n:Int)(LD:0≤n)(aH:n≤10)(az:Int)(h0:0≤az)(h1:az≤l.length):aO prog 23 [.bd 0 1 0 0,.int .i64 n] [gp l az]
 (fun v rs=> ∃ (a:Int) (ar:List Ev),v= .own 1 ar.length 0 ar.length∧rs= [gp l a,.ag 71 7 (ai ar)]∧0≤a∧a≤l.length∧ar.length≤5*n∧ ∀ e∈ar,ne e):=by
 refine hJ func23 acs (by simp[a23,sI]) ?_;unfold gp;simp only[go_sem,a23,sI]
 repeat (refine E.ac ?_;simp only[go_sem])
 refine hv (fun D r=> ∃ (a:Int) (B:Nat) (ar:List Ev),0≤a∧a≤l.length∧B≤n∧ar.length≤5*B∧(∀ e∈ar,ne e)∧D= [(0,.bd 0 1 0 0),(1,.int .i64 n),(5,.own 1 ar.length 0 ar.length),(6,.int .i64 (20+4*B)),(7,.int .i64 B)]∧r= [dX 143 l a,.ag 71 7 (ai ar)])
  (fun D _=>match bs D 7 with| .int _ j=>(n-j).toNat|_=>0) ?_ ?_
 ·(refine E.iv 5 71 7 rfl (E.eW [0,1,5,6,7] ?_);simp only[go_sem])
  exact E.ac ⟨az,0,[],by omega,by omega,by omega,by simp,by simp,rfl,rfl⟩
 clear h0 h1;rintro D r ⟨az,B,ar,h0,h1,ay,jI,kM,rfl,rfl⟩;have dn:=dB (i:=B) (by omega);simp only[go_sem,a23,sI]
 repeat (refine E.ac ?_;simp only[go_sem])
 refine dj ?_ ?_<;>intro aw<;>simp only[bC] at aw<;>simp only[go_sem,a23,sI]
 ·repeat (refine E.ac ?_;simp only[go_sem])
  rw[bl (x:=(B:Int)*1440) (by omega) (by omega),bl (x:=29453760+(B:Int)*1440) (by omega) (by omega)]
  (refine ja [480,465,1320,360,477] (hj l hl _ (by simp) (by simp)) ?_;rintro _ az _ _ ⟨p,cg,rfl⟩;simp only[fR] at cg;simp only[go_sem])
  have ak:0≤p∧p≤1320:=by omega
  clear cg;rw[bl (x:=29453760+(B:Int)*1440+p) (by omega) (by omega)]
  (refine lN (hi l hl 7 (by omega)) ?_;rintro _ az _ _ ⟨q,rfl,_,_⟩;simp only[go_sem])
  rw[bl (by omega) (by omega)];have agS:wQ (29453760+(B:Int)*1440+p+q)∧29453760+(B:Int)*1440+p+q≤29468100:=by unfold wQ;omega
  generalize 29453760+(B:Int)*1440+p+q=R at agS;unfold wQ at agS
  repeat (refine E.ac ?_;simp only[go_sem])
  (refine ja [480,510,540,660,300,75] (hj l hl _ (by simp) (by simp)) ?_;rintro _ az _ _ ⟨y,cg,rfl⟩;simp only[fR] at cg;simp only[go_sem])
  have bt:0≤y∧y≤660:=by omega
  clear cg;rw[bl (by omega) (by omega)]
  (refine E.bB [some 0,some 1] ?_;simp only[go_sem])
  (refine E.ac ?_;simp only[go_sem])
  (refine E.ac ?_;simp only[go_sem])
  refine E.ac (W6 (fun D r=> ∃ (a:Int) (aW K:List Int) (bS:List Z),0≤a∧a≤l.length∧K.length=aW.length∧aW.length≤4∧(∀ t∈aW,wQ t)∧(∀ k∈K,1≤k∧k≤4)∧eW [0,1,5,6,7,8,10,11] D= [(0,.bd 0 1 0 0),(1,.int .i64 n),(5,.own 1 ar.length 0 ar.length),(6,.int .i64 (20+4*B)),(7,.int .i64 B),(8,.int .i64 R),(10,.own 2 aW.length 0 aW.length),(11,.own 3 aW.length 0 aW.length)]∧r=dX 143 l a:: .ag 71 7 (ai ar):: .ag 3 1 (cJ .i64 aW):: .ag 3 1 (cJ .i64 K)::bS) ?_ ?_)
  ·simp only[go_sem]
   (refine lN (hi l hl 2 (by omega)) ?_;rintro _ az _ _ ⟨b,rfl,_,_⟩;simp only[go_sem])
   repeat (refine E.ac ?_;simp only[go_sem])
   refine dj ?_ ?_<;>intro ct<;>simp only[bC] at ct<;>simp only[go_sem,a23,sI]
   ·repeat (refine E.ac ?_;simp only[go_sem])
    (refine ja [120,240,60] (hj l hl _ (by simp) (by simp)) ?_;rintro _ az _ _ ⟨u,cg,rfl⟩;simp only[fR] at cg;simp only[go_sem])
    have bc:0≤u∧u≤240:=by omega
    clear cg;rw[bl (by omega) (by omega)]
    repeat (refine E.ac ?_;simp only[go_sem])
    (refine ja [30,15,45] (hj l hl _ (by simp) (by simp)) ?_;rintro _ az _ _ ⟨w,cg,rfl⟩;simp only[fR] at cg;simp only[go_sem])
    have aP:0≤w∧w≤45:=by omega
    clear cg;rw[bl (by omega) (by omega)]
    repeat (refine E.ac ?_;simp only[go_sem])
    refine⟨az,[R,R+y,R+u,R+u+w],[1,2,3,4],_,by omega,by omega,rfl,by simp,?_,?_,rfl,rfl⟩
    ·intro t ht;unfold wQ;simp only[fR] at ht;omega
    ·intro t ht;simp only[fR] at ht;omega
   ·refine⟨az,[R,R+y],[1,2],[],by omega,by omega,rfl,by simp,?_,?_,rfl,rfl⟩
    ·intro t ht;unfold wQ;simp only[fR] at ht;omega
    ·intro t ht;simp only[fR] at ht;omega
  clear h0 h1;rintro D r ⟨az,aW,K,bS,h0,h1,aCD,aKd,hN,cA,ql,rfl⟩;refine E.eW [0,1,5,6,7,8,10,11] ?_;rw[ql];clear ql;refine E.jN [some 0,some 1] [2,3] rfl rfl (by simp only[go_sem]<;>rfl) ?_;simp only[go_sem,aCD];have nF:K.take aW.length=K:=List.take_of_length_le (by omega);rw[nF]
  repeat (refine E.ac ?_;simp only[go_sem])
  refine hv (fun D r=> ∃ (a:Int) (j:Nat) (oC:List Ev),0≤a∧a≤l.length∧j≤aW.length∧oC.length≤5*B+j∧(∀ e∈oC,ne e)∧D= [(0,.bd 0 1 0 0),(1,.int .i64 n),(5,.own 1 oC.length 0 oC.length),(6,.int .i64 (20+4*B)),(7,.int .i64 B),(8,.int .i64 R),(10,.pure 1 (cJ .i64 aW)),(11,.pure 1 (cJ .i64 K)),(13,.int .i64 j)]∧r= [dX 143 l a,.ag 71 7 (ai oC)])
   (fun D _=>match bs D 13 with| .int _ j=>(aW.length-j).toNat|_=>0) ?_ ?_
  ·exact E.ac ⟨az,0,ar,by omega,by omega,by omega,by omega,kM,rfl,rfl⟩
  clear h0 h1 kM jI ar;rintro D r ⟨az,j,ar,h0,h1,aX,jI,kM,rfl,rfl⟩;have nf:=dB (i:=j) (by omega);simp only[go_sem,a23,sI]
  repeat (refine E.ac ?_;simp only[go_sem])
  refine dj ?_ ?_<;>intro ct<;>simp only[bC] at ct<;>simp only[go_sem,a23,sI]
  ·(refine E.ac ?_;simp only[go_sem])
   (refine lN (hi l hl 14 (by omega)) ?_;rintro _ az _ _ ⟨b,rfl,_,_⟩;simp only[go_sem])
   (refine E.ac ?_;simp only[go_sem])
   refine dj ?_ ?_<;>intro fH<;>simp only[bC] at fH<;>simp only[go_sem,a23,sI]
   ·repeat (refine E.ac ?_;simp only[go_sem])
    simp only[go_sem,nf];exact⟨⟨az,j+1,ar,by omega,by omega,by omega,by omega,kM,rfl,rfl⟩,by omega⟩
   ·have aI:j < aW.length:=by omega
    have hw:j < K.length:=by omega
    have z0: (0:Int)≤j:=by omega
    have mn: (j:Int) < aW.length:=by omega
    have Tf: (j:Int) < K.length:=by omega
    have aCE: (cJ .i64 aW).getD j []= [.int .i64 aW[j]]:=by rw[tw aI,List.getD_eq_getElem?_getD,List.getElem?_eq_getElem aI,Option.getD_some]
    have tn: (cJ .i64 K).getD j []= [.int .i64 K[j]]:=by rw[tw hw,List.getD_eq_getElem?_getD,List.getElem?_eq_getElem hw,Option.getD_some]
    have aCF:=hN _ (List.getElem_mem aI);have aKe:=cA _ (List.getElem_mem hw);generalize aW[j]=iq at *;generalize K[j]=JR at *;unfold wQ at aCF
    (refine E.ac ?_;simp only[go_sem])
    simp only[go_sem,z0,mn,Tf,aCE,tn];rw[bl (x:=20+4*(B:Int)+j) (by omega) (by omega)];refine⟨by omega,?_⟩;rw[Tc]
    (refine E.bB [some 0,some 1] ?_;simp only[go_sem])
    repeat (refine E.ac ?_;simp only[go_sem])
    simp only[go_sem,nf];refine⟨⟨az,j+1,ar++ [⟨2,20+4*B+j,1,iq,JR,0,0⟩],by omega,by omega,by omega,by simp;omega,?_,by simp,rfl⟩,by omega⟩;intro e he;simp only[List.mem_append,List.mem_singleton] at he;rcases he with he|rfl
    ·exact kM e he
    ·simp only[ne,IV,wQ,iD,mC,and_true];omega
  ·refine E.ac (W6 (fun D r=> ∃ (a:Int) (oC:List Ev) (bS:List Z),0≤a∧a≤l.length∧oC.length≤5*B+5∧(∀ e∈oC,ne e)∧eW [0,1,5,6,7] D= [(0,.bd 0 1 0 0),(1,.int .i64 n),(5,.own 1 oC.length 0 oC.length),(6,.int .i64 (20+4*B)),(7,.int .i64 B)]∧r=dX 143 l a:: .ag 71 7 (ai oC)::bS) ?_ ?_)
   ·simp only[go_sem]
    (refine lN (hi l hl 6 (by omega)) ?_;rintro _ az _ _ ⟨b,rfl,_,_⟩;simp only[go_sem])
    repeat (refine E.ac ?_;simp only[go_sem])
    refine dj ?_ ?_<;>intro fH<;>simp only[bC] at fH<;>simp only[go_sem,a23,sI]
    ·repeat (refine E.ac ?_;simp only[go_sem])
     rw[bl (by omega) (by omega)]
     (refine ja [6,5] (hj l hl _ (by simp) (by simp)) ?_;rintro _ az _ _ ⟨u,cg,rfl⟩;simp only[fR] at cg;simp only[go_sem])
     refine⟨by omega,?_⟩;rw[Tc]
     repeat (refine E.ac ?_;simp only[go_sem])
     refine⟨az,ar++ [⟨3,20+4*B,1,R+10,u,2,20+4*B⟩],_,by omega,by omega,by simp;omega,?_,by simp,rfl⟩;intro e he;simp only[List.mem_append,List.mem_singleton] at he;rcases he with he|rfl
     ·exact kM e he
     ·simp only[ne,IV,wQ,iD,mC,and_true];omega
    ·exact⟨az,ar,[],by omega,by omega,by omega,kM,rfl,rfl⟩
   clear h0 h1 kM jI ar;rintro D r ⟨az,ar,bS,h0,h1,jI,kM,ql,rfl⟩;refine E.eW [0,1,5,6,7] ?_;rw[ql];clear ql;refine E.ll [some 0,some 1] [] rfl rfl (by simp only[go_sem]<;>rfl) ?_;simp only[go_sem]
   repeat (refine E.ac ?_;simp only[go_sem])
   rw[bl (x:=20+4*(B:Int)+4) (by omega) (by omega)];simp only[go_sem,dn];refine⟨⟨az,B+1,ar,by omega,by omega,by omega,by omega,kM,?_,rfl⟩,by omega⟩;simp;omega
 ·repeat (refine E.ac ?_;simp only[go_sem])
  refine hv (fun D r=> ∃ (a:Int) (j:Int) (oC:List Ev),0≤a∧a≤l.length∧ -1≤j∧j < oC.length∧oC.length≤5*n∧(∀ e∈oC,ne e)∧D= [(0,.bd 0 1 0 0),(5,.own 1 oC.length 0 oC.length),(14,.int .i64 j)]∧r= [dX 143 l a,.ag 71 7 (ai oC)])
   (fun D _=>match bs D 14 with| .int _ j=>j.toNat|_=>0) ?_ ?_
  ·rw[bl (by omega) (by omega)];exact E.ac ⟨az,ar.length-1,ar,by omega,by omega,by omega,by omega,by omega,kM,rfl,rfl⟩
  clear h0 h1 kM jI ar;rintro D r ⟨az,j,ar,h0,h1,ud,aX,jI,kM,rfl,rfl⟩;simp only[go_sem,a23,sI]
  repeat (refine E.ac ?_;simp only[go_sem])
  refine dj ?_ ?_<;>intro ct<;>simp only[bC] at ct<;>simp only[go_sem,a23,sI]
  ·repeat (refine E.ac ?_;simp only[go_sem])
   (refine lN (hi l hl 3 (by omega)) ?_;rintro _ az _ _ ⟨b,rfl,_,_⟩;simp only[go_sem])
   repeat (refine E.ac ?_;simp only[go_sem])
   refine dj ?_ ?_<;>intro fH<;>simp only[bC] at fH<;>simp only[go_sem,a23,sI]
   ·repeat (refine E.ac ?_;simp only[go_sem])
    rw[bl (by omega) (by omega)]
    (refine lN (hi l hl (j+1) (by omega)) ?_;rintro _ az _ _ ⟨k,rfl,_,_⟩;simp only[go_sem])
    obtain⟨j,rfl⟩: ∃ q:Nat,j=q:=⟨j.toNat,by omega⟩;obtain⟨k,rfl⟩: ∃ q:Nat,k=q:=⟨k.toNat,by omega⟩;have nC:j < ar.length:=by omega
    have gO:k < ar.length:=by omega
    have z0: (0:Int)≤j:=by omega
    have mn: (j:Int) < ar.length:=by omega
    have Tf: (0:Int)≤k:=by omega
    have z3: (k:Int) < ar.length:=by omega
    have Sx: (ai ar).getD j []=aJ.J ar[j]:=cT nC;have gk: (ai ar).getD k []=aJ.J ar[k]:=cT gO;have zI: ∀ x:Ev,List.drop 7 (aJ.J x)= []:=fun _=>rfl;have hw:k < (ar.set j ar[k]).length:=by rw[List.length_set];omega
    (refine E.ac ?_;simp only[go_sem])
    simp only[go_sem,z0,mn,Tf,z3,Sx,gk];rw[zI,List.append_nil,xS,cT hw,zI,List.append_nil,xS]
    repeat (refine E.ac ?_;simp only[go_sem])
    rw[bl (by omega) (by omega)];refine⟨⟨az,j-1,(ar.set j ar[k]).set k ar[j],by omega,by omega,by omega,by simp only[List.length_set];omega,by simp only[List.length_set];omega,agR (agR kM (kM _ (List.getElem_mem gO))) (kM _ (List.getElem_mem nC)),by simp,rfl⟩,by omega⟩
   ·repeat (refine E.ac ?_;simp only[go_sem])
    rw[bl (by omega) (by omega)];exact⟨⟨az,j-1,ar,by omega,by omega,by omega,by omega,by omega,kM,rfl,rfl⟩,by omega⟩
  ·repeat (refine E.ac ?_;simp only[go_sem])
   exact E.ac ⟨az,ar,rfl,rfl,by omega,by omega,by omega,kM⟩
theorem axA (l:List Int)(hl:mW l)(n:Int)(LD:0≤n)(aH:n≤10)(az:Int)(h0:0≤az)(h1:az≤l.length):aO prog 23 [.bd 0 1 0 0,.int .i64 n] [gp l az]
 (fun v rs=> ∃ (a:Int) (ar:List Ev),v= .own 1 ar.length 0 ar.length∧rs= [gp l a,.ag 71 7 (ai ar)]∧0≤a∧a≤l.length∧ar.length≤5*n∧ ∀ e∈ar,IV e):=
 (aCC l hl n LD aH az h0 h1).mono fun v rs ⟨a,ar,h1,G,au,bv,cx,dx⟩=>⟨a,ar,h1,G,au,bv,cx,fun e he=>(dx e he).1⟩
structure oz (l:List Ev) (n:Nat):Prop where
 v: ∀ e∈l,iD e
 len:l.length≤n
theorem oz.all {l:List Ev}{n:Nat}(h:oz l n):po l=true:=by
 unfold po;rw[List.all_eq_true];exact fun e he=>decide_eq_true (h.v e he)
theorem oz.ij {l:List Ev}{n:Nat}(h:oz l n)(aH:n≤1024):cL l=0:=by
 have:=h.len;unfold Ib.cL;rw[if_neg (by omega),if_pos h.all]
theorem oz.mh {a b:List Ev}{n m:Nat}(aC:oz a n)(af:oz b m):oz (a++b) (n+m):=
 ⟨fun e he=>(List.mem_append.1 he).elim (aC.v e) (af.v e),by have:=aC.len;have:=af.len;rw[List.length_append];omega⟩
theorem oz.fr {a:List Ev}{n:Nat}(h:oz a n):oz (fr a) n:=
 ⟨fun e he=>h.v e ((Fl a e).1 he),Nat.le_trans (Tb a) h.len⟩
theorem abF {a b:List Ev}{n m:Nat}(aC:oz a n)(af:oz b m)(ao:n+m≤1000):aO prog 32 [.pure 7 (ai a),.pure 7 (ai b)] [] (fun v rs=>v= .bo [.own 0 (fr (a++b)).length 0 (fr (a++b)).length,.int .i64 0]∧rs= [.ag 71 7 (ai (fr (a++b)))]):=by
 have h1:=aC.len;have G:=af.len;have au:=(aC.mh af).fr.len;have h0:FE a b=0:=by
  unfold FE;rw[if_neg (by omega),if_neg (by simp[aC.all,af.all]),if_neg (by omega)]
 refine (aDh a b (by omega) (by omega)).mono ?_;rintro v rs (⟨h,_⟩|⟨_,rfl,rfl⟩)
 ·exact (h h0).elim
 ·exact⟨rfl,rfl⟩
theorem axF {e:Ev}(h:IV e):iD e:=h.1
end Go.Proofs.YtpincjkjoeopkaaGreatDoor.Ib
