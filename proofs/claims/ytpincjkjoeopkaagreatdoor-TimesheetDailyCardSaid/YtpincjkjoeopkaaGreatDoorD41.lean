/- Time evaluation. -/
import Derived.Test.YtpincjkjoeopkaaGreatDoorD38
import Derived.Test.YtpincjkjoeopkaaGreatDoorD40
import Derived.Test.YtpincjkjoeopkaaGreatDoorD39
import Derived.Test.YtpincjkjoeopkaaGreatDoorD28
import Derived.Test.YtpincjkjoeopkaaGreatDoorD29
set_option linter.all false
namespace Go.Proofs.YtpincjkjoeopkaaGreatDoor
open Go Go.Abs Go.Proofs.Tryz
set_option maxHeartbeats 4000000 in
theorem axB (l:List Int)(hl:mW l)(az:Int)(h0:0≤az)(h1:az≤l.length):aO prog 17 [.bd 0 1 0 0,.bool false] [gp l az]
 (fun v rs=> ∃ (a:Int) (z:eD) (ap:List F),v= .agg ap∧hK ap z.J∧rs= [gp l a]∧0≤a∧a≤l.length∧qL z=0∧z.ao.length≤4∧z.al.length≤3):=by
 refine hJ func17 abV (by simp[IA,MN]) ?_;simp only[go_sem,IA,MN,gp]
 (refine E.ac ?_;simp only[go_sem])
 (refine fy [0] (atO l hl az h0 h1) ?_;rintro _ _ ⟨abz,M,rfl,rfl,h0,h1,ba,axb⟩;simp only[go_sem])
 simp only[go_sem,gp,cc.v]
 (refine ja [900,700,10080] (hj l hl _ (by simp) (by simp)) ?_;rintro _ az _ _ ⟨fz,cg,rfl⟩;simp only[fR] at cg;simp only[go_sem])
 have SM:1≤fz∧fz≤10080:=by omega
 clear cg
 (refine ja [60,0,180] (hj l hl _ (by simp) (by simp)) ?_;rintro _ az _ _ ⟨er,cg,rfl⟩;simp only[fR] at cg;simp only[go_sem])
 have abW:0≤er∧er≤1440:=by omega
 clear cg
 (refine ja [120,0] (hj l hl _ (by simp) (by simp)) ?_;rintro _ az _ _ ⟨ex,cg,rfl⟩;simp only[fR] at cg;simp only[go_sem])
 have MO:0≤ex∧ex≤1440:=by omega
 clear cg
 (refine fy [0] (Pr.ayI l hl az (by omega) (by omega)) ?_;rintro _ _ ⟨ff,dK,rfl,rfl,_,_,DO⟩;simp only[go_sem])
 simp only[go_sem,Pr.gp,gp,Pr.Ab]
 (refine fy [0] (Ib.ayJ l hl ff (by omega) (by omega)) ?_;rintro _ _ ⟨a3,ia,rfl,rfl,_,_,so⟩;simp only[go_sem])
 simp only[go_sem,Ib.gp,gp,Ib.ib.v]
 (refine fy [0] (Pm.ayK l hl false a3 (by omega) (by omega)) ?_;rintro _ _ ⟨a4,al,rfl,rfl,_,_,sF,pV⟩;simp only[go_sem])
 simp only[go_sem,gp]
 (refine fy [0] (Pm.ayL l hl false a4 (by omega) (by omega)) ?_;rintro _ _ ⟨a5,ao,_,_,aJ8,SN,rfl,rfl⟩;simp only[go_sem])
 have pV:=pV rfl;have SN:=SN rfl;have mT: ∀ r0 r1 cY fY fc Hh ws:Z,bW [r0,r1,cY,fY,fc,.ag 229 7 (ai al),Hh,ws] [some 0,some 1,some 7] [5,6] (.own 5 al.length 0 al.length)= .pure 7 (ai al):=fun _ _ _ _ _ _ _=>qx rfl rfl rfl (by rw[bT]) ck;have abX: ∀ r0 r1 cY fY fc sd ws:Z,bW [r0,r1,cY,fY,fc,sd,.ag 263 6 (ai ao),ws] [some 0,some 1,some 7] [5,6] (.own 6 ao.length 0 ao.length)= .pure 6 (ai ao):=fun _ _ _ _ _ _ _=>qx rfl rfl rfl (by rw[bT]) ck;have an: ∀ M:cc,fe M=0→qL ⟨M,fz,er,ex,dK,ia,al,ao⟩=0:=fun M ba=>by
  unfold qL;rw[if_neg (by simp only;omega),if_neg (by unfold rF;simp only;omega),if_neg (by simp only;omega),if_neg (by have:=Ib.ayM so;simp only;omega)];unfold Pm.vm;simp only;have ayN:Pm.ng ao=0:=by unfold Pm.ng;rw[if_neg (by omega),if_pos SN]
  rw[if_pos ba,if_pos ayN,if_neg (by omega),if_pos pV]
 refine E.jN [some 0,some 1,some 7] [5,6] rfl rfl (by simp only[go_sem,mT,abX,ck]<;>rfl) ?_;simp only[go_sem,mT,abX]
 (refine E.ac ?_;simp only[go_sem])
 (refine lN (hi l hl 2 (by omega)) ?_;rintro _ az _ _ ⟨q,rfl,_,_⟩;simp only[go_sem])
 (refine E.ac ?_;simp only[go_sem])
 refine dj ?_ ?_<;>intro aw<;>simp only[bC] at aw<;>simp only[go_sem,IA,MN]
 ·(refine ja [0,60] (hj l hl _ (by simp) (by simp)) ?_;rintro _ az _ _ ⟨V,cg,rfl⟩;simp only[fR] at cg;simp only[go_sem])
  have bp:V=0∨V=60:=cg;clear cg;have th:fe ⟨V,[]⟩=0:=by rcases bp with rfl|rfl<;>decide
  (repeat (first| (refine E.ac ?_;simp only[go_sem])|simp only[go_sem]))
  (refine E.bB [some 0] ?_;simp only[go_sem])
  refine E.ac ⟨az,⟨⟨V,[]⟩,fz,er,ex,dK,ia,al,ao⟩,_,rfl,?_,rfl,by omega,by omega,an _ th,by simp only;omega,by simp only;omega⟩;simp[eD.J,hK,le,ai]
 ·(repeat (first| (refine E.ac ?_;simp only[go_sem])|simp only[go_sem]))
  (refine E.bB [some 0] ?_;simp only[go_sem])
  refine E.ac ⟨az,⟨M,fz,er,ex,dK,ia,al,ao⟩,_,rfl,?_,rfl,by omega,by omega,an _ ba,by simp only;omega,by simp only;omega⟩;simp[eD.J,hK,le,ai]
theorem axk {a b:List Ib.Ev}{n:Int}(h:Ib.kp a n=Ib.kp b n):kZ a n=kZ b n:=by
 unfold kZ Mv;generalize Ib.kp a n=A at *;subst h;rfl
theorem abm {z:eD}{ae:List cw}{a b:List Ib.Ev}{n:Int}(h:Ib.kp a n=Ib.kp b n)(ad:Ib.cL a=Ib.cL b):
 rG z ae a n=rG z ae b n∧ ∀ aq B,pl z ae a aq n B=pl z ae b aq n B:=by
 have ao:=axk h;have h1:tX z ae a n=tX z ae b n:=by unfold tX;rw[ao]
 have G:rE z ae a n=rE z ae b n:=by unfold rE;rw[ao,ad,h1]
 have au:pf z ae a n=pf z ae b n:=by unfold pf;rw[h1]
 have bv:fT z ae a n=fT z ae b n:=by unfold fT;rw[au]
 have cx:lB z ae a n=lB z ae b n:=by unfold lB;rw[bv]
 refine⟨by unfold rG;rw[G,au,bv],fun aq B=> ?_⟩;have dx:ne z ae a aq n B=ne z ae b aq n B:=by unfold ne;rw[bv,cx]
 have oN:sG z a n B=sG z b n B:=by unfold sG;rw[ao]
 unfold pl;rw[dx,oN]
theorem axn {z:eD}{ae:List cw}{a b:List Ib.Ev}{aq:List eH}{n R ab:Int}(h:Ib.kp a n=Ib.kp b n)(ad:Ib.cL a=Ib.cL b):jp z ae a aq n R ab=jp z ae b aq n R ab:=by
 have e:pl z ae a aq n=pl z ae b aq n:=funext fun B=>(abm h ad).2 aq B;unfold jp;rw[e]
theorem abn {ae:List cw}{bk ah:Int}: ∀ {l:List eH} {c:Nat},c≤l.length→(nP ae bk ah (l.take c)).length≤c
 |l,0,_=>by simp[nP]
 |l,c+1,h=>by
  have ih:=abn (ae:=ae) (bk:=bk) (ah:=ah) (l:=l) (c:=c) (by omega);rw[aap (by omega)];split
  ·have:=abo l[c].name (su ae l[c]) (nP ae bk ah (l.take c));omega
  ·omega
theorem axo {z:eD}{ae:List cw}{l:List Ib.Ev}{aq:List eH}{n R ab:Int}(h:rG z ae l n=0)(aj:aq.length≤100000)(ht:ab≤84005)(hf:0≤R):
 (jp z ae l aq n R ab).length≤84006∧ ∀ x∈jp z ae l aq n R ab,x.eg.length≤1000000∧x.jR.length≤1000000:=by
 refine⟨?_,fun x aj=> ?_⟩
 ·unfold jp;refine Nat.le_trans (List.length_filterMap_le _ _) ?_;rw[List.length_map,List.length_range];omega
 ·unfold jp at aj;obtain⟨B,_,ay⟩:=List.mem_filterMap.1 aj;unfold pl at ay;split at ay
  ·cases ay
  ·cases ay;have cR:=h;unfold rG at cR;split at cR
   ·omega
   split at cR
   ·omega
   rename_i h1 G;have h1:rE z ae l n=0:=by omega
   have G:Ib.ew (pf z ae l n)=0:=by omega
   obtain⟨nD,_,_,_,LW⟩:=aaH h1;obtain⟨_,_,_,_,kD⟩:=Mr nD;have awV: (fT z ae l n).length≤4096∧(lB z ae l n).length≤65536:=by
    have bv:=cR;unfold Pm.vh at bv;rw[if_pos kD] at bv;have cx: ((fT z ae l n).map tV).length≤4096:=by
     unfold Pm.vi at bv;split at bv
     ·cases bv
     ·omega
    obtain⟨_,_,Sk,_⟩:=Pm.Sl kD;have dx:=aaE (M:=z.M) (h:=z.ao) (aa:=(fT z ae l n).map tV) Sk;have Mu:Pm.tW z.M z.ao z.al ((fT z ae l n).map tV)=lB z ae l n:=rfl;rw[Mu] at dx;rw[List.length_map] at cx dx;omega
   have Gb:=aax (fT z ae l n) B;have JH:=List.length_filter_le (pS B) (fT z ae l n);have t3:=List.length_filter_le (fun p:Pm.Pm=>decide (p.ah=B)) (lB z ae l n);have t4:=abn (ae:=ae) (bk:=n) (ah:=B) (l:=aq) (c:=aq.length) (Nat.le_refl _);rw[List.take_length] at t4;have t5: (An (nP ae n B aq)).length≤(nP ae n B aq).length:=List.length_filter_le _ _;have aJV: (sG z l n B).length≤1024:=by
    unfold sG;rw[List.length_map];exact Nat.le_trans (List.length_filter_le _ _) LW
   refine⟨?_,by simp only;omega⟩;unfold ne;simp only[List.length_append,List.length_map];split
   ·rw[List.length_map];omega
   ·simp only[List.length_nil];omega
theorem axp (I:ByteArray)(h:I=QI∨I=QJ∨I=QK):aO prog 108 [.str I] [] (fun v rs=>v= .bool true∧rs= []):=by
 rcases h with rfl|rfl|rfl
 ·exact zN (aW:=As) (aY:= []) 60 [(.bool true,[])] (by kernel_rfl) (by intro V h;rw[List.mem_singleton] at h;subst h;exact⟨rfl,rfl⟩)
 ·exact zN (aW:=As) (aY:= []) 60 [(.bool true,[])] (by kernel_rfl) (by intro V h;rw[List.mem_singleton] at h;subst h;exact⟨rfl,rfl⟩)
 ·exact zN (aW:=As) (aY:= []) 60 [(.bool true,[])] (by kernel_rfl) (by intro V h;rw[List.mem_singleton] at h;subst h;exact⟨rfl,rfl⟩)
theorem Mw {a:eH}(h:LC a):LK a∧a.name.size≤maxLen∧(Lit.int .i64 a.ah).wf=true:=by
 obtain⟨h1,G,au,bv,cx⟩:=h;refine⟨by unfold LK;omega,?_,?_⟩
 ·rcases bv with h|h|h<;>rw[h]<;>decide
 ·have bF:IntKind.i64.min= -9223372036854775808:=rfl;have bK:IntKind.i64.max=9223372036854775807:=rfl;simp only[Lit.wf,bF,bK];simp;omega
mutual
theorem axq: ∀ (a b:F),le a b→bJ b=true→bJ a=true
 | .bH,_,_,_=>rfl
 | .agg aq,.agg ys,h,k=>by
  simp only[bJ] at k ⊢;simp only[le] at h;exact Fc aq ys h k
 | .bo aq,.bo ys,h,k=>by
  simp only[bJ] at k ⊢;simp only[le] at h;exact Fc aq ys h k
 |a,b,h,k=>by
  unfold le at h;split at h
  ·rfl
  ·rename_i aq ys;simp only[bJ] at k ⊢;exact Fc aq ys h k
  ·rename_i aq ys;simp only[bJ] at k ⊢;exact Fc aq ys h k
  ·rw[h];exact k
theorem Fc: ∀ (aq ys:List F),hK aq ys→bU ys=true→bU aq=true
 | [],_,_,_=>rfl
 |a::aq,b::ys,h,k=>by
  simp only[bU,Bool.and_eq_true] at k ⊢;simp only[hK] at h;exact⟨axq a b h.1 k.1,Fc aq ys h.2 k.2⟩
 |_::_,[],h,_=>by simp only[hK] at h
end
theorem axr: ∀ (a b:F),le a b→Abs.cV b=true→Abs.cV a=true:=by
 intro a b h k;unfold le at h;split at h
 ·rfl
 ·simp[Abs.cV] at k
 ·simp[Abs.cV] at k
 ·rw[h];exact k
theorem abp: ∀ (aq ys:List F),hK aq ys→ys.all Abs.cV=true→aq.length=ys.length∧aq.all Abs.cV=true
 | [],[],_,_=>⟨rfl,rfl⟩
 |a::aq,b::ys,h,k=>by
  simp only[hK] at h;simp only[List.all_cons,Bool.and_eq_true,List.length_cons] at k ⊢;obtain⟨h1,G⟩:=abp aq ys h.2 k.2;exact⟨by omega,axr a b h.1 k.1,G⟩
 | [],_::_,h,_=>by simp only[hK] at h
 |_::_,[],h,_=>by simp only[hK] at h
def i (B:Int)(x:CK):Bool:=decide (x.ah=B)
theorem aKV (aY:List CK)(hL:aY.length≤1000000)(B:Int):aO prog 25 [.pure 3 (ai aY),.int .i64 B] [] (fun v rs=>v= .pure 3 (ai (aY.filter (i B)))∧rs= []):=by
 refine cu func25 azw (by simp[a25,aHM]) ?_;simp only[go_sem,a25,aHM,bT];refine dN (fun D r=> ∃ c:Nat,c≤aY.length∧D= [(0,.pure 3 (ai aY)),(1,.int .i64 B),(5,.own 0 ((aY.take c).filter (i B)).length 0 ((aY.take c).filter (i B)).length),(6,.int .i64 c)]∧r= [.ag 76 3 (ai ((aY.take c).filter (i B)))])
  (fun D _=>match bs D 6 with| .int _ j=>(aY.length-j).toNat|_=>0) ?_ ?_
 ·(refine E.iv 5 76 3 rfl (E.eW [0,1,5,6] ?_);simp only[go_sem])
  exact E.ac ⟨0,by omega,rfl,rfl⟩
 rintro D r ⟨c,av,rfl,rfl⟩;have aP:=dB (c:=c) (by omega)
 by_cases aI:c < aY.length
 ·have h1:decide ((c:Int) < aY.length)=true:=decide_eq_true (by omega);have z0: (0:Int)≤c:=by omega
  have mn: (c:Int) < aY.length:=by omega
  have nM: (ai aY).getD c []=aJ.J aY[c]:=cT aI;have hN: (aY.take (c+1)).filter (i B)=if aY[c].ah=B then (aY.take c).filter (i B)++ [aY[c]] else (aY.take c).filter (i B):=by
   rw[List.take_succ_eq_append_getElem aI,List.filter_append]
   by_cases h:aY[c].ah=B<;>simp[i,h]
  have eA: ((aY.take c).filter (i B)).length≤c:=Nat.le_trans (List.length_filter_le _ _) (by simp;omega)
  by_cases ay:aY[c].ah=B
  ·have bF: (aY[c].ah==B)=true:=beq_iff_eq.2 ay;rw[if_pos ay] at hN;simp only[go_sem,a25,aHM,h1,z0,mn,nM,bT,abU,bF,ck,aP];refine⟨by omega,?_⟩;have ao:ai ((aY.take c).filter (i B))++ [[.int .i64 aY[c].ah,.pure 2 (ai aY[c].eg),.pure 2 (ai aY[c].jR)]]=ai ((aY.take (c+1)).filter (i B)):=by rw[hN];exact kT (x:=aY[c])
   have aH: ((aY.take c).filter (i B)).length+1=((aY.take (c+1)).filter (i B)).length:=by rw[hN,List.length_append];rfl
   rw[ao,aH]
   (refine E.bB [some 0] ?_;simp only[go_sem])
   refine E.ac ⟨⟨c+1,by omega,rfl,rfl⟩,?_⟩;simp only[go_sem];omega
  ·have bF: (aY[c].ah==B)=false:=beq_eq_false_iff_ne.2 ay;rw[if_neg ay] at hN;simp only[go_sem,a25,aHM,h1,z0,mn,nM,bT,abU,bF,ck,aP];refine E.ac ⟨⟨c+1,by omega,by rw[hN],by rw[hN]⟩,?_⟩;simp only[go_sem];omega
 have h1:decide ((c:Int) < aY.length)=false:=decide_eq_false (by omega);simp only[go_sem,a25,aHM,h1,bT];rw[List.take_of_length_le (by omega)];have nL:bW [.ag 76 3 (ai (aY.filter (i B)))] [] [0] (.own 0 (aY.filter (i B)).length 0 (aY.filter (i B)).length)= .pure 3 (ai (aY.filter (i B))):=qx rfl rfl rfl (by rw[bT]) ck;refine E.jN [] [0] rfl rfl (by simp only[go_sem]<;>rfl) ?_;simp only[List.map_cons,List.map_nil,nL];exact E.bg rfl ⟨rfl,rfl⟩
theorem aLG (l:List nb)(hl:l.length≤1000000):aO prog 169 [.pure 2 (ai l),.pure 2 (ai l)] [] (fun v rs=>v= .bool true∧rs= []):=by
 refine cu func169 aAW (by simp[aeq,aI1]) ?_;simp only[go_sem,aeq,aI1,bT,bne_self_eq_false];refine dN (fun D r=> ∃ c:Nat,c≤l.length∧D= [(0,.pure 2 (ai l)),(1,.pure 2 (ai l)),(12,.int .i64 l.length),(13,.int .i64 c)]∧r= [])
  (fun D _=>match bs D 13 with| .int _ j=>(l.length-j).toNat|_=>0) ?_ ?_
 ·exact E.ac ⟨0,by omega,rfl,rfl⟩
 rintro D r ⟨c,av,rfl,rfl⟩;have aP:=dB (c:=c) (by omega)
 by_cases aI:c < l.length
 ·have h1:decide ((c:Int) < l.length)=true:=decide_eq_true (by omega);have z0: (0:Int)≤c:=by omega
  have mn: (c:Int) < l.length:=by omega
  have nM: (ai l).getD c []=aJ.J l[c]:=cT aI;simp only[go_sem,aeq,aI1,h1,z0,mn,nM,bT,ayF,bne_self_eq_false,beq_self_eq_true,aP];refine E.ac ⟨⟨c+1,by omega,rfl,rfl⟩,?_⟩;simp only[go_sem];omega
 have h1:decide ((c:Int) < l.length)=false:=decide_eq_false (by omega);simp only[go_sem,aeq,aI1,h1,bT];exact E.bg rfl ⟨rfl,rfl⟩
theorem aLH (l:List kn)(hl:l.length≤1000000):aO prog 170 [.pure 2 (ai l),.pure 2 (ai l)] [] (fun v rs=>v= .bool true∧rs= []):=by
 refine cu func170 aAX (by simp[aer,aHe]) ?_;simp only[go_sem,aer,aHe,bT,bne_self_eq_false];refine dN (fun D r=> ∃ c:Nat,c≤l.length∧D= [(0,.pure 2 (ai l)),(1,.pure 2 (ai l)),(12,.int .i64 l.length),(13,.int .i64 c)]∧r= [])
  (fun D _=>match bs D 13 with| .int _ j=>(l.length-j).toNat|_=>0) ?_ ?_
 ·exact E.ac ⟨0,by omega,rfl,rfl⟩
 rintro D r ⟨c,av,rfl,rfl⟩;have aP:=dB (c:=c) (by omega)
 by_cases aI:c < l.length
 ·have h1:decide ((c:Int) < l.length)=true:=decide_eq_true (by omega);have z0: (0:Int)≤c:=by omega
  have mn: (c:Int) < l.length:=by omega
  have nM: (ai l).getD c []= [.int .i64 l[c].t,.int .i64 l[c].k]:=cT aI;simp only[go_sem,aer,aHe,h1,z0,mn,nM,bT,bne_self_eq_false,beq_self_eq_true,aP];refine E.ac ⟨⟨c+1,by omega,rfl,rfl⟩,?_⟩;simp only[go_sem];omega
 have h1:decide ((c:Int) < l.length)=false:=decide_eq_false (by omega);simp only[go_sem,aer,aHe,h1,bT];exact E.bg rfl ⟨rfl,rfl⟩
theorem aLI (x:CK)(h1:x.eg.length≤1000000)(G:x.jR.length≤1000000):aO prog 84 [.agg (aJ.J x),.agg (aJ.J x)] [] (fun v rs=>v= .bool true∧rs= []):=by
 refine cu func84 aAc (by simp[adb,aHv]) ?_;simp only[go_sem,adb,aHv,abU,ck];refine bM (aLG x.eg h1) (by simp only[bU,bJ,ck,Bool.and_true]) rfl ?_;simp only[go_sem,abU,ck];refine bM (aLH x.jR G) (by simp only[bU,bJ,ck,Bool.and_true]) rfl ?_;simp only[go_sem];exact E.bg rfl ⟨rfl,rfl⟩
theorem aLz (aY:List CK)(hl:aY.length≤1000000)(hb: ∀ x∈aY,x.eg.length≤1000000∧x.jR.length≤1000000):aO prog 83 [.pure 3 (ai aY),.pure 3 (ai aY),.fn 84 []] [] (fun v rs=>v= .bool true∧rs= []):=by
 refine cu func83 aAb (by simp[ada,aG5]) ?_;simp only[go_sem,ada,aG5,bT,bne_self_eq_false];refine dN (fun D r=> ∃ c:Nat,c≤aY.length∧D= [(1,.pure 3 (ai aY)),(2,.fn 84 []),(15,.pure 3 (ai aY)),(16,.int .i64 aY.length),(17,.int .i64 c)]∧r= [])
  (fun D _=>match bs D 17 with| .int _ j=>(aY.length-j).toNat|_=>0) ?_ ?_
 ·exact E.ac ⟨0,by omega,rfl,rfl⟩
 rintro D r ⟨c,av,rfl,rfl⟩;have aP:=dB (c:=c) (by omega)
 by_cases aI:c < aY.length
 ·have h1:decide ((c:Int) < aY.length)=true:=decide_eq_true (by omega);have z0: (0:Int)≤c:=by omega
  have mn: (c:Int) < aY.length:=by omega
  have nM: (ai aY).getD c []=aJ.J aY[c]:=cT aI;obtain⟨uv,rX⟩:=hb aY[c] (List.getElem_mem aI);simp only[go_sem,ada,aG5,h1,z0,mn,nM,bT,abU,ck];refine⟨⟨_,func84,rfl⟩,?_⟩;refine bM (aLI aY[c] uv rX) (by simp only[bU,bJ,ck,Bool.and_true]) rfl ?_;simp only[go_sem,aP];refine E.ll [] [] rfl rfl rfl ?_;simp only[go_sem];refine E.ac ⟨⟨c+1,by omega,rfl,rfl⟩,?_⟩;simp only[go_sem];omega
 have h1:decide ((c:Int) < aY.length)=false:=decide_eq_false (by omega);simp only[go_sem,ada,aG5,h1,bT];exact E.bg rfl ⟨rfl,rfl⟩
theorem aK5:aO prog 81 [.pure 3 (ai ([]:List CK))] [] (fun v rs=>v= .bE 0∧rs= [.be (.map false [.int .i64] [])]):=by
 refine hJ func81 azZ (by simp[acY,aIk]) ?_;simp only[go_sem,acY,aIk,bT]
 repeat (refine E.ac ?_;simp only[go_sem])
 refine hv (fun D r=>D= [(3,.bE 0),(7,.pure 3 (ai ([]:List CK))),(8,.int .i64 0),(9,.int .i64 0)]∧r= [.be (.map false [.int .i64] [])])
  (fun D _=>0) ?_ ?_
 ·exact E.ac ⟨rfl,rfl⟩
 rintro D r ⟨rfl,rfl⟩;simp only[go_sem,acY,aIk]
 (refine E.ac ?_;simp only[go_sem])
 (refine E.ac ?_;simp only[go_sem])
 (refine E.ac ?_;simp only[go_sem])
 exact E.ac ⟨rfl,rfl⟩
theorem aK3 (x:CK):aO prog 81 [.pure 3 (ai [x])] [] (fun v rs=>v= .bE 0∧rs= [.be (.map false [.int .i64] [(.int .i64 x.ah,.pure 3 (ai [x]))])]):=by
 refine hJ func81 azZ (by simp[acY,aIk]) ?_;simp only[go_sem,acY,aIk,bT]
 repeat (refine E.ac ?_;simp only[go_sem])
 refine hv (fun D r=> ∃ c:Nat,c≤1∧D= [(3,.bE 0),(7,.pure 3 (ai [x])),(8,.int .i64 1),(9,.int .i64 c)]∧r= [.be (.map false [.int .i64] (if c=0 then [] else [(.int .i64 x.ah,.pure 3 (ai [x]))]))])
  (fun D _=>match bs D 9 with| .int _ j=>(1-j).toNat|_=>0) ?_ ?_
 ·exact E.ac ⟨0,by omega,rfl,rfl⟩
 rintro D r ⟨c,av,rfl,rfl⟩;rcases (show c=0∨c=1 by omega) with rfl|rfl
 ·simp only[go_sem,acY,aIk]
  (refine E.ac ?_;simp only[go_sem])
  (refine E.ac ?_;simp only[go_sem])
  have nM: (ai [x]).getD 0 []= [.int .i64 x.ah,.pure 2 (ai x.eg),.pure 2 (ai x.jR)]:=rfl;refine⟨by rw[nM];exact Nat.le_refl 3,by rw[nM];rfl,by rw[nM];rfl,?_⟩;rw[nM];simp only[go_sem]
  (refine E.ac ?_;simp only[go_sem])
  refine E.jN [some 0] [3] rfl rfl (by simp only[go_sem,ck]<;>rfl) ?_;simp only[go_sem,ck]
  (refine E.ac ?_;simp only[go_sem])
  rw[show IntKind.i64.wrap (0+1)=1 from rfl];refine E.ac ⟨⟨1,by omega,rfl,rfl⟩,?_⟩;simp only[go_sem];omega
 ·simp only[go_sem,acY,aIk]
  (refine E.ac ?_;simp only[go_sem])
  (refine E.ac ?_;simp only[go_sem])
  (refine E.ac ?_;simp only[go_sem])
  exact E.ac ⟨rfl,rfl⟩
theorem aLA {bh:List Ib.Ev}{V:Ib.Ev}(h: ∀ e∈bh,e.cZ < V.cZ):Ib.fr (bh++ [V])=Ib.fr bh++ [V]:=by
 refine Ib.ahH (Ib.Nt _) ?_ fun e=>by rw[Ib.Fl,List.mem_append,List.mem_append,Ib.Fl]
 unfold Ib.sJ;rw[List.pairwise_append];refine⟨Ib.Nt bh,by simp,fun a aC b hb=> ?_⟩;rw[List.mem_singleton] at hb;subst hb;exact .inl (h a ((Ib.Fl bh a).1 aC))
theorem aLB {bh:List Ib.Ev}{V:Ib.Ev}{n:Int}(h: ∀ e∈bh,e.cZ < V.cZ)(aH:V.bk≠n):Ib.kp (bh++ [V]) n=Ib.kp bh n:=by
 unfold Ib.kp;rw[aLA h,Ib.Nr];split
 ·rfl
 ·rw[Ib.aCv,if_neg aH]
theorem aLC {ae:List cw}{bk B:Int}{aq:List eH}{a:eH}(h:a.bk≠bk):nP ae bk B (aq++ [a])=nP ae bk B aq:=by
 unfold nP;rw[List.foldl_append,List.foldl_cons,List.foldl_nil,if_neg (fun x=>h x.1)]
theorem aLD {z:eD}{ae:List cw}{l:List Ib.Ev}{aq:List eH}{a:eH}{n B:Int}(h:a.bk≠n):pl z ae l (aq++ [a]) n B=pl z ae l aq n B:=by
 unfold pl ne;rw[aLC h]
theorem aLE {z:eD}{ae:List cw}{l:List Ib.Ev}{aq:List eH}{a:eH}{n R ab:Int}(h:a.bk≠n):jp z ae l (aq++ [a]) n R ab=jp z ae l aq n R ab:=by
 unfold jp;rw[show pl z ae l (aq++ [a]) n=pl z ae l aq n from funext fun B=>aLD h]
theorem aK6 {z:eD}{ae:List cw}{l:List Ib.Ev}{aq:List eH}{n B:Int}{x:CK}(h:pl z ae l aq n B=some x):x.ah=B:=by
 unfold pl at h;split at h
 ·cases h
 ·cases h;rfl
theorem aK7 {f:Int→Option CK}(hf: ∀ B x,f B=some x→x.ah=B){B:Int}: ∀ {aD:List Int},aD.Nodup→(aD.filterMap f).filter (i B)=if B∈aD then (f B).toList else []
 | [],_=>by simp
 |e::aD,h=>by
  rw[List.nodup_cons] at h;have ih:=aK7 hf (B:=B) h.2;rw[List.filterMap_cons]
  by_cases he:e=B
  ·subst he;rw[if_neg h.1] at ih;rw[if_pos (by simp)];cases aj:f e with
   |none=>simpa using ih
   |some x=>
    simp only[Option.toList_some];rw[List.filter_cons_of_pos (by simp[i,hf e x aj]),ih]
  ·have iI: (B∈e::aD)↔B∈aD:=by
    rw[List.mem_cons];exact⟨fun h=>h.resolve_left fun x=>he x.symm,.inr⟩
   simp only[iI];cases aj:f e with
   |none=>simpa using ih
   |some x=>
    simp only;rw[List.filter_cons_of_neg (by simp[i,hf e x aj,he]),ih]
theorem aLF (B:Int):CJ B B= [B]:=by
 unfold CJ;rw[show (B-B+1).toNat=1 by omega];simp
theorem aK8 {z:eD}{ae:List cw}{l:List Ib.Ev}{aq:List eH}{n B:Int}:jp z ae l aq n B B=(pl z ae l aq n B).toList:=by
 show (CJ B B).filterMap _=_;rw[aLF];cases h:pl z ae l aq n B<;>simp[h]
theorem aK9 {z:eD}{ae:List cw}{l:List Ib.Ev}{aq:List eH}{n R ab B:Int}(h:R≤B∧B≤ab): (jp z ae l aq n R ab).filter (i B)=jp z ae l aq n B B:=by
 rw[aK8];show ((CJ R ab).filterMap _).filter _=_;rw[aK7 (fun B x=>aK6) ((axg R ab).imp fun h=>by omega),if_pos (abh.2 h)]
theorem aLa {ap:List F}{z:eD}(ad:hK ap z.J)(gN:bU ap=true)(hh:z.ao.length≤1000000)(aP:z.al.length≤1000000)(ae:List cw)(gy:ae.length≤1000000)(l:List Ib.Ev)(hl:l.length≤1000000){abr:F}(aq:List eH)
 (Mx:le abr (.pure 4 (ai aq))) (aj: ∀ a∈aq,LK a∧(a.name=QI∨a.name=QJ∨a.name=QK)) (n R ab:Int) (dp:E9 aq R ab=0):
 aO prog 11 [.agg ap,.pure 3 (ai ae),.pure 7 (ai l),abr,.int .i64 n,.int .i64 R,.int .i64 ab] []
  (fun v rs=>(if rG z ae l n=0 then v= .bo [.pure 3 (ai (jp z ae l aq n R ab)),.int .i64 0] else v= .bo [.bH,.int .i64 (rG z ae l n)])∧rs= []):=
 (axj z hh aP ae gy l hl aq (fun a aC=>auV a (aj a aC).1 (axp _ (aj a aC).2)) (fun a aC=>by have:=(aj a aC).1;unfold LK at this;exact⟨this.2.2.2.2.1,this.2.2.2.2.2⟩)
  (fun a aC=>by
   obtain⟨h1,G⟩:=aj a aC;unfold LK at h1;have bF:IntKind.i64.min= -9223372036854775808:=rfl;have bK:IntKind.i64.max=9223372036854775807:=rfl;refine⟨?_,by rcases G with h|h|h<;>rw[h]<;>decide⟩;simp only[Lit.wf,bF,bK];simp;omega) n R ab dp).le (by simp[hK,le,ad,Mx])
theorem aLb {f:FuncId}{ap:List F}{aKP X w:F}{n a b:Int}{fj:List Ib.Ev}(h1:bU ap=true)(G:bJ aKP=true)(au:bJ X=true)(bv:bJ w=true)
 (h:aO prog f [.agg ap,aKP,.pure 7 (ai fj),X,.int .i64 n,.int .i64 a,.int .i64 b] [] (fun v rs=>v=w∧rs= [])):
 aO prog f [.agg ap,aKP,.own 0 fj.length 0 fj.length,X,.int .i64 n,.int .i64 a,.int .i64 b] [.ag 71 7 (ai fj)] (fun v rs=>v=w∧rs= [.fP]):=by
 refine (aO.aLu (aW:=71) (l:=fj) (args':= [.agg ap,aKP,.pure 7 (ai fj),X,.int .i64 n,.int .i64 a,.int .i64 b]) ?_ ?_ h ?_).mono ?_
 ·have hb:bW [.ag 71 7 (ai fj)] [none] [0] (.own 0 fj.length 0 fj.length)= .pure 7 (ai fj):=qx rfl rfl rfl bT.symm ck;rw[dT,dT,dT,dT,hb,tv _ (by simp only[bJ,h1]),tv _ G,tv _ au,qw _ rfl]
 ·simp only[bU,bJ,h1,G,au,ck,Bool.and_self]
 ·rintro _ _ ⟨rfl,rfl⟩;exact⟨bv,rfl⟩
 ·rintro _ _ ⟨⟨rfl,_⟩,rfl⟩;exact⟨rfl,rfl⟩
theorem aLv (B:Int)(v:F):dm (.int .i64 B) [(.int .i64 B,v)]=some v:=by
 rw[dm,show fB (.int .i64 B) (.int .i64 B)=true by simp[fB,cp,ed]];rfl
theorem aLw (B:Int)(v w:F):dy (.int .i64 B) v [(.int .i64 B,w)]= [(.int .i64 B,v)]:=by
 rw[dy,show fB (.int .i64 B) (.int .i64 B)=true by simp[fB,cp,ed]];rfl
set_option maxHeartbeats 1000000 in
theorem aLx (x:CK)(ay:0≤x.ah∧x.ah≤84005)(h1:x.eg.length≤1000000)(G:x.jR.length≤1000000):aO prog 26 [.pure 3 (ai [x]),.pure 3 (ai [x])] [] (fun v rs=>v= .bH∧rs= []):=by
 refine cu func26 azx (by simp[a26,aIf]) ?_;simp only[go_sem,a26,aIf]
 (refine rv (aK3 x) ?_;rintro _ _ ⟨rfl,rfl⟩;simp only[go_sem])
 (refine rv (aK3 x) ?_;rintro _ _ ⟨rfl,rfl⟩;simp only[go_sem])
 generalize dp: [(F.int .i64 x.ah,F.pure 3 (ai [x]))]=el;have aKG:el.length=1:=by rw[←dp];rfl
 have aKO:el.getD 0 (.cj,.cj)=(.int .i64 x.ah,.pure 3 (ai [x])):=by rw[←dp];rfl
 have aLy:dm (.int .i64 x.ah) el=some (.pure 3 (ai [x])):=by rw[←dp];exact aLv _ _
 clear dp;refine dN (fun (D:aQ) (r:List Z)=> ∃ b:Bool,D= [(5,.bE 0),(6,.bE 1),(7,.bE 2),(19,.fO 3 0)]∧r= [.be (.map false [.int .i64] el),.be (.map false [.int .i64] el),.be (.map false [.int .i64] (if b then [(.int .i64 x.ah,.bool true)] else [])),.be (.eh 1 (if b then [0] else []))])
  (fun (_:aQ) (W:List Z)=>match W[3]? with|some (Z.be (zd.eh n bX))=>n-bX.length|_=>0) ?_ ?_
 ·simp only[ite_self,aKG];exact E.ac ⟨false,rfl,rfl⟩
 rintro D r ⟨b,rfl,rfl⟩;cases b
 ·simp only[go_sem,a26,aIf];unfold Pi sa;refine⟨aKG.symm,by decide,fun h=>absurd (h 0 (by decide)) (by simp),fun j aX Mb=> ?_⟩;obtain rfl:j=0:=by omega
  rw[aKO];simp only[go_sem,a26,aIf];rw[show [0].getLastD 0=0 from rfl,aKO];refine⟨aKG.symm,by decide,⟨rfl,by simp only[go_sem]⟩,E.ac ⟨⟨true,rfl,rfl⟩,?_⟩⟩;show (1- [0].length:Nat) < 1;decide
 simp only[go_sem,a26,aIf];unfold Pi sa;refine⟨aKG.symm,by decide,fun _=> ?_,fun j aX Mb=>absurd (show j∈ [0] by rw[List.mem_singleton];omega) Mb⟩;simp only[go_sem,a26,aIf];rw[aKG];refine dN (fun (D:aQ) (r:List Z)=> ∃ b:Bool,D= [(5,.bE 0),(6,.bE 1),(7,.bE 2),(27,.fO 4 1)]∧r= [.be (.map false [.int .i64] el),.be (.map false [.int .i64] el),.be (.map false [.int .i64] [(.int .i64 x.ah,.bool true)]),.be (.eh 1 [0]),.be (.eh 1 (if b then [0] else []))])
  (fun (_:aQ) (W:List Z)=>match W[4]? with|some (Z.be (zd.eh n bX))=>n-bX.length|_=>0) ?_ ?_
 ·exact E.ac ⟨false,rfl,rfl⟩
 rintro D r ⟨b,rfl,rfl⟩;cases b
 ·simp only[go_sem,a26,aIf];unfold Pi sa;refine⟨aKG.symm,by decide,fun h=>absurd (h 0 (by decide)) (by simp),fun j aX Mb=> ?_⟩;obtain rfl:j=0:=by omega
  rw[aKO];simp only[go_sem,a26,aIf];rw[show [0].getLastD 0=0 from rfl,aKO];refine⟨aKG.symm,by decide,⟨rfl,by simp only[go_sem]⟩,E.ac ⟨⟨true,rfl,by rw[aLw];rfl⟩,?_⟩⟩;show (1- [0].length:Nat) < 1;decide
 simp only[go_sem,a26,aIf];unfold Pi sa;refine⟨aKG.symm,by decide,fun _=> ?_,fun j aX Mb=>absurd (show j∈ [0] by rw[List.mem_singleton];omega) Mb⟩;simp only[go_sem,a26,aIf]
 (refine fy [2] (axW (r:= [.be (.map false [.int .i64] [(.int .i64 x.ah,.bool true)])]) (a:=0)) ?_;rintro _ _ ⟨rfl,rfl⟩;simp only[go_sem])
 have ki: (Lit.int .i64 x.ah).wf=true:=by
  have bF:IntKind.i64.min= -9223372036854775808:=rfl;have bK:IntKind.i64.max=9223372036854775807:=rfl;simp only[Lit.wf,bF,bK];simp;omega
 have du:=axy (r:= [.be (.map false [.int .i64] [(.int .i64 x.ah,.bool true)]),.ag 169 1 [[.bE 0]]]) (a:=0) (b:=1) (aW:=169) (ents:= [(.int .i64 x.ah,.bool true)]) (Y:= [x.ah]) rfl rfl rfl (by simp) (fun y bt=>by rw[List.mem_singleton] at bt;subst bt;exact ki) (by simp);rw[show fq [x.ah]= [x.ah] by unfold fq;simp] at du
 (refine fy [2,5] (du) ?_;rintro _ _ ⟨rfl,rfl⟩;simp only[go_sem])
 have dV: (cJ .i64 [x.ah]).length=1:=rfl;have wZ: (cJ .i64 [x.ah]).getD 0 []= [.int .i64 x.ah]:=rfl;generalize cJ .i64 [x.ah]=cs at *
 try simp only[go_sem,dV]
 generalize dc: (.be (.eh 1 [0]):Z)=ayS;refine dN (fun (D:aQ) (r:List Z)=> ∃ b:Bool,D= [(5,.bE 0),(6,.bE 1),(10,.bH),(36,.pure 1 cs),(37,.int .i64 1),(38,.int .i64 (if b then 1 else 0))]∧r= [.be (.map false [.int .i64] el),.be (.map false [.int .i64] el),.be (.map false [.int .i64] [(.int .i64 x.ah,.bool true)]),ayS,ayS,.ag 169 1 [[.bE 2]]])
  (fun D _=>match bs D 38 with| .int _ j=>(1-j).toNat|_=>0) ?_ ?_
 ·exact E.ac ⟨false,rfl,rfl⟩
 rintro D r ⟨b,rfl,rfl⟩;cases b
 ·simp only[go_sem,a26,aIf,dV,wZ,aLy];refine bM (aLz [x] (by simp) (fun y bt=>by rw[List.mem_singleton] at bt;subst bt;exact⟨h1,G⟩)) (by simp only[bU,bJ,ck,Bool.and_self,Bool.and_true]) rfl ?_;simp only[go_sem,ck];rw[show IntKind.i64.wrap (0+1)=1 from rfl];refine E.ac ⟨⟨true,rfl,rfl⟩,?_⟩;simp only[go_sem];omega
 ·simp only[go_sem,a26,aIf];exact E.bg rfl ⟨rfl,rfl⟩
theorem aK4:aO prog 26 [.pure 3 (ai ([]:List CK)),.pure 3 (ai ([]:List CK))] [] (fun v rs=>v= .bH∧rs= []):=by
 refine cu func26 azx (by simp[a26,aIf]) ?_;simp only[go_sem,a26,aIf]
 (refine rv (aK5) ?_;rintro _ _ ⟨rfl,rfl⟩;simp only[go_sem])
 (refine rv (aK5) ?_;rintro _ _ ⟨rfl,rfl⟩;simp only[go_sem])
 refine dN (fun (D:aQ) (r:List Z)=>D= [(5,.bE 0),(6,.bE 1),(7,.bE 2),(19,.fO 3 0)]∧r= [.be (.map false [.int .i64] []),.be (.map false [.int .i64] []),.be (.map false [.int .i64] []),.be (.eh 0 [])])
  (fun _ _=>0) ?_ ?_
 ·exact E.ac ⟨rfl,rfl⟩
 rintro D r ⟨rfl,rfl⟩;simp only[go_sem,a26,aIf];unfold Pi sa;refine⟨rfl,by decide,fun _=> ?_,fun j aX Mb=>absurd aX (by omega)⟩;simp only[go_sem,a26,aIf];refine dN (fun (D:aQ) (r:List Z)=>D= [(5,.bE 0),(6,.bE 1),(7,.bE 2),(27,.fO 4 1)]∧r= [.be (.map false [.int .i64] []),.be (.map false [.int .i64] []),.be (.map false [.int .i64] []),.be (.eh 0 []),.be (.eh 0 [])])
  (fun _ _=>0) ?_ ?_
 ·exact E.ac ⟨rfl,rfl⟩
 rintro D r ⟨rfl,rfl⟩;simp only[go_sem,a26,aIf];unfold Pi sa;refine⟨rfl,by decide,fun _=> ?_,fun j aX Mb=>absurd aX (by omega)⟩;simp only[go_sem,a26,aIf]
 (refine fy [2] (axW (r:= [.be (.map false [.int .i64] [])]) (a:=0)) ?_;rintro _ _ ⟨rfl,rfl⟩;simp only[go_sem])
 have du:=axy (r:= [.be (.map false [.int .i64] []),.ag 169 1 [[.bE 0]]]) (a:=0) (b:=1) (aW:=169) (ents:= []) (Y:= []) rfl rfl rfl List.nodup_nil (fun y bt=>by cases bt) (by simp);rw[show fq []= [] by unfold fq;simp] at du
 (refine fy [2,5] (du) ?_;rintro _ _ ⟨rfl,rfl⟩;simp only[go_sem])
 have dV: (cJ .i64 []).length=0:=rfl;generalize cJ .i64 []=cs at *
 try simp only[go_sem,dV]
 generalize dc: (.be (.eh 0 []):Z)=ayS;refine dN (fun (D:aQ) (r:List Z)=>D= [(5,.bE 0),(6,.bE 1),(10,.bH),(36,.pure 1 cs),(37,.int .i64 0),(38,.int .i64 0)]∧r= [.be (.map false [.int .i64] []),.be (.map false [.int .i64] []),.be (.map false [.int .i64] []),ayS,ayS,.ag 169 1 [[.bE 2]]])
  (fun _ _=>0) ?_ ?_
 ·exact E.ac ⟨rfl,rfl⟩
 rintro D r ⟨rfl,rfl⟩;simp only[go_sem,a26,aIf];exact E.bg rfl ⟨rfl,rfl⟩
end Go.Proofs.YtpincjkjoeopkaaGreatDoor
