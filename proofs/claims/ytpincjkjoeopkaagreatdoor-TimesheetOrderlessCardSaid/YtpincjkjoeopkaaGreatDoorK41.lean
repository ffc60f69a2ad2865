/- Time evaluation. -/
import Derived.Test.YtpincjkjoeopkaaGreatDoorK39
import Derived.Test.YtpincjkjoeopkaaGreatDoorK40
import Derived.Test.YtpincjkjoeopkaaGreatDoorK29
import Derived.Test.YtpincjkjoeopkaaGreatDoorK19
import Derived.Test.YtpincjkjoeopkaaGreatDoorK18
import Derived.Shelf.SlIter.Sorted
import Derived.Shelf.SlIter.Keys
set_option linter.unusedSimpArgs false
set_option linter.unusedVariables false
set_option linter.unusedSectionVars false
namespace Go.Proofs.YtpincjkjoeopkaaGreatDoor
open Go Go.Abs Go.Proofs.Tryz
set_option maxHeartbeats 4000000 in
theorem avZ (l:List Int)(hl:kx l)(aD:Int)(h0:0≤aD)(h1:aD≤l.length):aK prog 17 [.aW 0 1 0 0,.bool false] [fx l aD]
 (fun v rs=> ∃ (a:Int) (i:er) (aj:List z),v= .agg aj∧hs aj i.F∧rs= [fx l a]∧0≤a∧a≤l.length∧qd i=0∧i.ak.length≤4∧i.af.length≤3):=by
 refine hr func17 aaC (by simp[Hm,LF]) ?_;simp only[go_sem,Hm,LF,fx]
 (refine s.U ?_;simp only[go_sem])
 (refine eY [0] (asb l hl aD h0 h1) ?_;rintro _ _ ⟨aad,D,rfl,rfl,h0,h1,aS,avt⟩;simp only[go_sem])
 simp only[go_sem,fx,bZ.v]
 (refine iy [900,700,10080] (gG l hl _ (by simp) (by simp)) ?_;rintro _ aD _ _ ⟨fm,bV,rfl⟩;simp only[fA] at bV;simp only[go_sem])
 have aIB:1≤fm∧fm≤10080:=by omega
 clear bV
 (refine iy [60,0,180] (gG l hl _ (by simp) (by simp)) ?_;rintro _ aD _ _ ⟨ee,bV,rfl⟩;simp only[fA] at bV;simp only[go_sem])
 have aaD:0≤ee∧ee≤1440:=by omega
 clear bV
 (refine iy [120,0] (gG l hl _ (by simp) (by simp)) ?_;rintro _ aD _ _ ⟨ek,bV,rfl⟩;simp only[fA] at bV;simp only[go_sem])
 have LG:0≤ek∧ek≤1440:=by omega
 clear bV
 (refine eY [0] (Pr.axg l hl aD (by omega) (by omega)) ?_;rintro _ _ ⟨eT,dB,rfl,rfl,_,_,CD⟩;simp only[go_sem])
 simp only[go_sem,Pr.fx,fx,Pr.yR]
 (refine eY [0] (Ib.axh l hl eT (by omega) (by omega)) ?_;rintro _ _ ⟨a3,hI,rfl,rfl,_,_,rD⟩;simp only[go_sem])
 simp only[go_sem,Ib.fx,fx,Ib.hJ.v]
 (refine eY [0] (Pm.axi l hl false a3 (by omega) (by omega)) ?_;rintro _ _ ⟨a4,af,rfl,rfl,_,_,rP,pm⟩;simp only[go_sem])
 simp only[go_sem,fx]
 (refine eY [0] (Pm.axj l hl false a4 (by omega) (by omega)) ?_;rintro _ _ ⟨a5,ak,_,_,aIC,RF,rfl,rfl⟩;simp only[go_sem])
 have pm:=pm rfl;have RF:=RF rfl;have mi: ∀ r0 r1 cO fN eG F7 vm:R,bU [r0,r1,cO,fN,eG,.aa 229 7 (ac af),F7,vm] [some 0,some 1,some 7] [5,6] (.own 5 af.length 0 af.length)= .pure 7 (ac af):=fun _ _ _ _ _ _ _=>pO rfl rfl rfl (by rw[bO]) cw;have aaE: ∀ r0 r1 cO fN eG rn vm:R,bU [r0,r1,cO,fN,eG,rn,.aa 263 6 (ac ak),vm] [some 0,some 1,some 7] [5,6] (.own 6 ak.length 0 ak.length)= .pure 6 (ac ak):=fun _ _ _ _ _ _ _=>pO rfl rfl rfl (by rw[bO]) cw;have ag: ∀ D:bZ,eR D=0→qd ⟨D,fm,ee,ek,dB,hI,af,ak⟩=0:=fun D aS=>by
  unfold qd;rw[if_neg (by simp only;omega),if_neg (by unfold qP;simp only;omega),if_neg (by simp only;omega),if_neg (by have:=Ib.axk rD;simp only;omega)];unfold Pm.un;simp only;have axl:Pm.mz ak=0:=by unfold Pm.mz;rw[if_neg (by omega),if_pos RF]
  rw[if_pos aS,if_pos axl,if_neg (by omega),if_pos pm]
 refine s.kc [some 0,some 1,some 7] [5,6] rfl rfl (by simp only[go_sem,mi,aaE,cw]<;>rfl) ?_;simp only[go_sem,mi,aaE]
 (refine s.U ?_;simp only[go_sem])
 (refine ie (fB l hl 2 (by omega)) ?_;rintro _ aD _ _ ⟨q,rfl,_,_⟩;simp only[go_sem])
 (refine s.U ?_;simp only[go_sem])
 refine dg ?_ ?_<;>intro ao<;>simp only[bA] at ao<;>simp only[go_sem,Hm,LF]
 ·(refine iy [0,60] (gG l hl _ (by simp) (by simp)) ?_;rintro _ aD _ _ ⟨L,bV,rfl⟩;simp only[fA] at bV;simp only[go_sem])
  have bi:L=0∨L=60:=bV;clear bV;have sn:eR ⟨L,[]⟩=0:=by rcases bi with rfl|rfl<;>decide
  (repeat (first| (refine s.U ?_;simp only[go_sem])|simp only[go_sem]))
  (refine s.bw [some 0] ?_;simp only[go_sem])
  refine s.U ⟨aD,⟨⟨L,[]⟩,fm,ee,ek,dB,hI,af,ak⟩,_,rfl,?_,rfl,by omega,by omega,ag _ sn,by simp only;omega,by simp only;omega⟩;simp[er.F,hs,le,ac]
 ·(repeat (first| (refine s.U ?_;simp only[go_sem])|simp only[go_sem]))
  (refine s.bw [some 0] ?_;simp only[go_sem])
  refine s.U ⟨aD,⟨D,fm,ee,ek,dB,hI,af,ak⟩,_,rfl,?_,rfl,by omega,by omega,ag _ aS,by simp only;omega,by simp only;omega⟩;simp[er.F,hs,le,ac]
theorem avC {a b:List Ib.Ev}{n:Int}(h:Ib.jS a n=Ib.jS b n):kE a n=kE b n:=by
 unfold kE Li;generalize Ib.jS a n=A at *;subst h;rfl
theorem avD {a b:List Ib.Ev}{n:Int}(h: ∀ e,e∈a↔e∈b):Ib.jS a n=Ib.jS b n:=by
 have e:Ib.fi a=Ib.fi b:=Ib.avE h;unfold Ib.jS;rw[e]
theorem ZU {i:er}{Y:List cp}{a b:List Ib.Ev}{n:Int}(h:Ib.jS a n=Ib.jS b n)(V:Ib.cD a=Ib.cD b):
 qQ i Y a n=qQ i Y b n∧ ∀ ai o,ov i Y a ai n o=ov i Y b ai n o:=by
 have ak:=avC h;have h1:sV i Y a n=sV i Y b n:=by unfold sV;rw[ak]
 have B:qO i Y a n=qO i Y b n:=by unfold qO;rw[ak,V,h1]
 have am:oo i Y a n=oo i Y b n:=by unfold oo;rw[h1]
 have bp:fK i Y a n=fK i Y b n:=by unfold fK;rw[am]
 have cn:kX i Y a n=kX i Y b n:=by unfold kX;rw[bp]
 refine⟨by unfold qQ;rw[B,am,bp],fun ai o=> ?_⟩;have dj:my i Y a ai n o=my i Y b ai n o:=by unfold my;rw[bp,cn]
 have mM:rQ i a n o=rQ i b n o:=by unfold rQ;rw[ak]
 unfold ov;rw[dj,mM]
theorem avF {i:er}{Y:List cp}{a b:List Ib.Ev}{ai:List eS}{n J T:Int}(h:Ib.jS a n=Ib.jS b n)(V:Ib.cD a=Ib.cD b):iZ i Y a ai n J T=iZ i Y b ai n J T:=by
 have e:ov i Y a ai n=ov i Y b ai n:=funext fun o=>(ZU h V).2 ai o;unfold iZ;rw[e]
theorem ZV {Y:List cp}{bh ab:Int}: ∀ {l:List eS} {c:Nat},c≤l.length→(nf Y bh ab (l.take c)).length≤c
 |l,0,_=>by simp[nf]
 |l,c+1,h=>by
  have ih:=ZV (Y:=Y) (bh:=bh) (ab:=ab) (l:=l) (c:=c) (by omega);rw[Y7 (by omega)];split
  ·have:=ZW l[c].name (rF Y l[c]) (nf Y bh ab (l.take c));omega
  ·omega
theorem avG {i:er}{Y:List cp}{l:List Ib.Ev}{ai:List eS}{n J T:Int}(h:qQ i Y l n=0)(ad:ai.length≤100000)(ht:T≤84005)(hf:0≤J):
 (iZ i Y l ai n J T).length≤84006∧ ∀ x∈iZ i Y l ai n J T,x.fa.length≤1000000∧x.jC.length≤1000000:=by
 refine⟨?_,fun x ad=> ?_⟩
 ·unfold iZ;refine Nat.le_trans (List.length_filterMap_le _ _) ?_;rw[List.length_map,List.length_range];omega
 ·unfold iZ at ad;obtain⟨o,_,aq⟩:=List.mem_filterMap.1 ad;unfold ov at aq;split at aq
  ·cases aq
  ·cases aq;have cJ:=h;unfold qQ at cJ;split at cJ
   ·omega
   split at cJ
   ·omega
   rename_i h1 B;have h1:qO i Y l n=0:=by omega
   have B:Ib.ej (oo i Y l n)=0:=by omega
   obtain⟨mR,_,_,_,KF⟩:=Zp h1;obtain⟨_,_,_,_,iC⟩:=Le mR;have avn: (fK i Y l n).length≤4096∧(kX i Y l n).length≤65536:=by
    have bp:=cJ;unfold Pm.ug at bp;rw[if_pos iC] at bp;have cn: ((fK i Y l n).map sT).length≤4096:=by
     unfold Pm.uh at bp;split at bp
     ·cases bp
     ·omega
    obtain⟨_,_,Rb,_⟩:=Pm.Rc iC;have dj:=Zm (D:=i.D) (h:=i.ak) (O:=(fK i Y l n).map sT) Rb;have Lh:Pm.sU i.D i.ak i.af ((fK i Y l n).map sT)=kX i Y l n:=rfl;rw[Lh] at dj;rw[List.length_map] at cn dj;omega
   have E3:=Zf (fK i Y l n) o;have Iv:=List.length_filter_le (pj o) (fK i Y l n);have t3:=List.length_filter_le (fun p:Pm.Pm=>decide (p.ab=o)) (kX i Y l n);have t4:=ZV (Y:=Y) (bh:=n) (ab:=o) (l:=ai) (c:=ai.length) (Nat.le_refl _);rw[List.take_length] at t4;have t5: (ze (nf Y n o ai)).length≤(nf Y n o ai).length:=List.length_filter_le _ _;have aIq: (rQ i l n o).length≤1024:=by
    unfold rQ;rw[List.length_map];exact Nat.le_trans (List.length_filter_le _ _) KF
   refine⟨?_,by simp only;omega⟩;unfold my;simp only[List.length_append,List.length_map];split
   ·rw[List.length_map];omega
   ·simp only[List.length_nil];omega
theorem avH (E:ByteArray)(h:E=PK∨E=PL∨E=PM):aK prog 108 [.str E] [] (fun v rs=>v= .bool true∧rs= []):=by
 rcases h with rfl|rfl|rfl
 ·exact yD (aP:=zj) (aU:= []) 60 [(.bool true,[])] (by kernel_rfl) (by intro L h;rw[List.mem_singleton] at h;subst h;exact⟨rfl,rfl⟩)
 ·exact yD (aP:=zj) (aU:= []) 60 [(.bool true,[])] (by kernel_rfl) (by intro L h;rw[List.mem_singleton] at h;subst h;exact⟨rfl,rfl⟩)
 ·exact yD (aP:=zj) (aU:= []) 60 [(.bool true,[])] (by kernel_rfl) (by intro L h;rw[List.mem_singleton] at h;subst h;exact⟨rfl,rfl⟩)
theorem Lj {a:eS}(h:Km a):Kt a∧a.name.size≤maxLen∧(Lit.int .i64 a.ab).wf=true:=by
 obtain⟨h1,B,am,bp,cn⟩:=h;refine⟨by unfold Kt;omega,?_,?_⟩
 ·rcases bp with h|h|h<;>rw[h]<;>decide
 ·have bF:IntKind.i64.min= -9223372036854775808:=rfl;have bJ:IntKind.i64.max=9223372036854775807:=rfl;simp only[Lit.wf,bF,bJ];simp;omega
mutual
theorem avI: ∀ (a b:z),le a b→bE b=true→bE a=true
 | .bD,_,_,_=>rfl
 | .agg ai,.agg ys,h,k=>by
  simp only[bE] at k ⊢;simp only[le] at h;exact D4 ai ys h k
 | .bg ai,.bg ys,h,k=>by
  simp only[bE] at k ⊢;simp only[le] at h;exact D4 ai ys h k
 |a,b,h,k=>by
  unfold le at h;split at h
  ·rfl
  ·rename_i ai ys;simp only[bE] at k ⊢;exact D4 ai ys h k
  ·rename_i ai ys;simp only[bE] at k ⊢;exact D4 ai ys h k
  ·rw[h];exact k
theorem D4: ∀ (ai ys:List z),hs ai ys→bP ys=true→bP ai=true
 | [],_,_,_=>rfl
 |a::ai,b::ys,h,k=>by
  simp only[bP,Bool.and_eq_true] at k ⊢;simp only[hs] at h;exact⟨avI a b h.1 k.1,D4 ai ys h.2 k.2⟩
 |_::_,[],h,_=>by simp only[hs] at h
end
theorem avJ: ∀ (a b:z),le a b→Abs.cM b=true→Abs.cM a=true:=by
 intro a b h k;unfold le at h;split at h
 ·rfl
 ·simp[Abs.cM] at k
 ·simp[Abs.cM] at k
 ·rw[h];exact k
theorem ZX: ∀ (ai ys:List z),hs ai ys→ys.all Abs.cM=true→ai.length=ys.length∧ai.all Abs.cM=true
 | [],[],_,_=>⟨rfl,rfl⟩
 |a::ai,b::ys,h,k=>by
  simp only[hs] at h;simp only[List.all_cons,Bool.and_eq_true,List.length_cons] at k ⊢;obtain⟨h1,B⟩:=ZX ai ys h.2 k.2;exact⟨by omega,avJ a b h.1 k.1,B⟩
 | [],_::_,h,_=>by simp only[hs] at h
 |_::_,[],h,_=>by simp only[hs] at h
theorem ZY {aj:List z}{i:er}(V:hs aj i.F)(gB:bP aj=true)(hh:i.ak.length≤1000000)(aR:i.af.length≤1000000)(Y:List cp)(gm:Y.length≤1000000)(l:List Ib.Ev)(hl:l.length≤1000000){ZZ:z}(ai:List eS)
 (Lk:le ZZ (.pure 4 (ac ai))) (ad: ∀ a∈ai,Km a) (n J T:Int) (cY:D1 ai J T=0):
 aK prog 11 [.agg aj,.pure 3 (ac Y),.pure 7 (ac l),ZZ,.int .i64 n,.int .i64 J,.int .i64 T] []
  (fun v rs=>(if qQ i Y l n=0 then v= .bg [.pure 3 (ac (iZ i Y l ai n J T)),.int .i64 0] else v= .bg [.bD,.int .i64 (qQ i Y l n)])∧rs= []):=
 (avB i hh aR Y gm l hl ai (fun a aw=>atk a (Lj (ad a aw)).1 (avH _ (ad a aw).2.2.2.1)) (fun a aw=>by have:=(Lj (ad a aw)).1;unfold Kt at this;exact⟨this.2.2.2.2.1,this.2.2.2.2.2⟩) (fun a aw=>⟨(Lj (ad a aw)).2.2,(Lj (ad a aw)).2.1⟩) n J T cY).le (by simp[hs,le,V,Lk])
theorem awF (t:Int)(h0:0≤t)(h1:t≤120968639):aK prog 259 [.agg [.int .i64 0,.bD],.int .i64 t] [] (fun v rs=>v= .bg [.int .i64 t,.int .i64 0]∧rs= []):=by
 refine ((W8 ⟨0,[]⟩ rfl t h0 h1).le (args':= [.agg [.int .i64 0,.bD],.int .i64 t]) (by simp[hs,le,bZ.v,ac])).mono ?_;rintro v rs ⟨rfl,rfl⟩;exact⟨by simp[wY,yG],rfl⟩
def vB (be:Bool):List R:= [.aa 359 3 [[.bD,.bu 1,.bu 2]],.aY (.map false [.int .i64] (if be then [(.int .i64 2025,.bD),(.int .i64 2026,.bD),(.int .i64 2027,.bD)] else [])),.aY (.map false [.int .i64] (if be then [(.int .i64 20454,.bool false)] else []))]
theorem awG:aK prog 200 [.bD] [] (fun v rs=>v= .aW 0 1 0 0∧rs=vB false):=
 yD (aP:=zj) (aU:= []) 60 [(.aW 0 1 0 0,vB false)] (by kernel_rfl) (by intro L h;rw[List.mem_singleton] at h;subst h;exact⟨rfl,rfl⟩)
theorem awH:aK prog 203 [.bD,.int .i64 0] [] (fun v rs=>v= .int .i64 0∧rs= []):=
 yD (aP:=zj) (aU:=Lv) 60 [(.int .i64 0,[])] (by kernel_rfl) (by intro L h;rw[List.mem_singleton] at h;subst h;exact⟨rfl,rfl⟩)
theorem aax (be:Bool):aK prog 260 [.aW 0 1 0 0,.int .i64 20454] (vB be) (fun v rs=>v= .bool false∧rs=vB true):=by
 cases be
 ·exact yD (aP:=zj) (aU:=Lv) 60 [(.bool false,vB true)] (by kernel_rfl) (by intro L h;rw[List.mem_singleton] at h;subst h;exact⟨rfl,rfl⟩)
 ·exact yD (aP:=zj) (aU:=Lv) 60 [(.bool false,vB true)] (by kernel_rfl) (by intro L h;rw[List.mem_singleton] at h;subst h;exact⟨rfl,rfl⟩)
theorem awI (be:Bool)(t:Int)(h0:29453760≤t)(h1:t < 29455200):aK prog 201 [.agg [.int .i64 0,.bD],.aW 0 1 0 0,.int .i64 t] (vB be)
 (fun v rs=>v= .agg [.int .i64 (t-29453760),.int .i64 3,.bool false]∧rs=vB true):=by
 refine cr func201 RB (by simp[Eb,Hk]) ?_;have aq:t.tdiv 1440=20454:=by rw[Int.tdiv_eq_ediv_of_nonneg (by omega)];omega
 have hm:t.tmod 1440=t-29453760:=by rw[Int.tmod_eq_emod_of_nonneg (by omega)];omega
 have cW:IntKind.i64.wrap 20454=20454:=bf (by omega) (by omega);have gg:IntKind.i64.wrap 29453760=29453760:=bf (by omega) (by omega);have hS:IntKind.i64.wrap (t-29453760)=t-29453760:=bf (by omega) (by omega);have aC:decide (t-29453760 < 0)=false:=decide_eq_false (by omega);have bF:IntKind.i64.wrap (t-IntKind.i64.wrap (20454*1440))=t-29453760:=by
  rw[show IntKind.i64.wrap (20454*1440)=29453760 from by decide];exact hS
 have bJ: (IntKind.i64.wrap (Int.tmod 20454 7+10)).tmod 7=3:=by decide
 cases be
 all_goals
  have rB:=aax false;have aay:=aax true;unfold vB at *;simp only[if_true,Bool.false_eq_true,if_false] at rB aay ⊢;simp only[go_sem,Eb,Hk];refine bH (awF t (by omega) (by omega)) rfl rfl ?_;simp only[go_sem,aq,hm,cW,aC];refine⟨by omega,by omega,by omega,by omega,?_⟩
 ·(refine eY [0,1,2] (rB) ?_;rintro _ _ ⟨rfl,rfl⟩;simp only[go_sem])
  simp only[go_sem,bF,bJ]
  (refine s.bw [some 0,some 1,some 2] ?_;simp only[go_sem])
  exact s.U ⟨rfl,rfl⟩
 ·(refine eY [0,1,2] (aay) ?_;rintro _ _ ⟨rfl,rfl⟩;simp only[go_sem])
  simp only[go_sem,bF,bJ]
  (refine s.bw [some 0,some 1,some 2] ?_;simp only[go_sem])
  exact s.U ⟨rfl,rfl⟩
def BG:z:= .agg [.int .i64 0,.int .i64 0,.int .i64 0,.int .i64 0,.int .i64 0,.int .i64 0,.int .i64 0,.int .i64 0,.int .i64 0,.int .i64 0,.int .i64 0,.int .i64 0,.int .i64 0,.int .i64 0,.int .i64 0,.int .i64 0]
structure vC where
 ab:Int
 J:Int
 T:Int
 ep:ByteArray
instance:aG vC:=⟨fun a=> [.int .i64 a.ab,.int .i64 a.J,.int .i64 a.T,.str a.ep],4,fun _=>rfl,fun _=>rfl,fun _=>rfl⟩
theorem awJ (e:vC):aG.F e= [.int .i64 e.ab,.int .i64 e.J,.int .i64 e.T,.str e.ep]:=rfl
theorem awK:aG.N vC=4:=rfl
theorem awL (e:vC):List.take 4 (aG.F e)=aG.F e:=rfl
attribute [go_sem] awK awL
def Ly (p:vC):Prop:=p.ab=20454∧29453760≤p.J∧p.J≤p.T∧p.T≤29455200
def LA (be:Bool):List (z×z):=if be then [(.int .i64 2025,.bD),(.int .i64 2026,.bD),(.int .i64 2027,.bD)] else []
def LB (be:Bool):List (z×z):=if be then [(.int .i64 20454,.bool false)] else []
def Ec (be:Bool):List (z×z):=if be then [(.int .i64 0,.int .i64 0)] else []
def zl (be:Bool):List (z×z):=if be then [(.int .i64 20454,BG)] else []
theorem awM (be:Bool):jL (LA be)=true:=by cases be<;>rfl
theorem awN (be:Bool):jL (LB be)=true:=by cases be<;>rfl
theorem awO (be:Bool):jL (Ec be)=true:=by cases be<;>rfl
theorem awP (be:Bool):jL (zl be)=true:=by cases be<;>rfl
attribute [go_sem] awM awN awO awP
theorem awQ (be:Bool): (dd (.int .i64 20454) (zl be)).getD BG=BG:=by cases be<;>rfl
theorem awR (be:Bool):dp (.int .i64 20454) BG (zl be)=zl true:=by cases be<;>rfl
theorem awS (be:Bool):dp (.int .i64 0) (.int .i64 0) (Ec be)=Ec true:=by cases be<;>rfl
def um (be W iK:Bool):List R:= [.aa 32 2 [[.int .i64 0,.bD]],.aa 359 3 [[.bD,.bu 2,.bu 3]],.aY (.map false [.int .i64] (LA be)),.aY (.map false [.int .i64] (LB be)),
 .aY (.map false [.int .i64] (Ec W)),.aY (.map false [.int .i64] (zl iK))]
theorem awT (be:Bool)(t:Int)(h0:29453760≤t)(h1:t < 29455200):aK prog 201 [.agg [.int .i64 0,.bD],.aW 0 1 0 0,.int .i64 t] [.aa 359 3 [[.bD,.bu 1,.bu 2]],.aY (.map false [.int .i64] (LA be)),.aY (.map false [.int .i64] (LB be))]
 (fun v rs=>v= .agg [.int .i64 (t-29453760),.int .i64 3,.bool false]∧rs= [.aa 359 3 [[.bD,.bu 1,.bu 2]],.aY (.map false [.int .i64] (LA true)),.aY (.map false [.int .i64] (LB true))]):=awI be t h0 h1
theorem awU (O:List vC)(hl:O.length≤1000000)(ae: ∀ p∈O,Ly p):aK prog 115 [.agg [.int .i64 0,.bD],.bD,.bD,.pure 4 (ac O)] []
 (fun v rs=>v= .bu 0∧rs= [.aY (.map false [.int .i64] (zl (decide (0 < O.length))))]):=by
 refine cr func115 RD (by simp[hY,il]) ?_;have hA:=awG;unfold vB at hA;simp only[if_true,Bool.false_eq_true,if_false] at hA;simp only[go_sem,hY,il,bO]
 (refine vf (hA) ?_;rintro _ _ ⟨rfl,rfl⟩;simp only[go_sem])
 refine dR (fun r d=> ∃ (c:Nat) (be W:Bool),c≤O.length∧r= [(2,.bD),(4,.aW 0 1 0 0),(9,.aW 1 1 0 0),(10,.bu 4),(11,.bu 5),(27,.pure 4 (ac O)),(28,.int .i64 O.length),(29,.int .i64 c)]∧d=um be W (decide (0 < c)))
  (fun r _=>match bn r 29 with| .int _ j=>(O.length-j).toNat|_=>0) ?_ ?_
 ·exact s.U ⟨0,false,false,by omega,rfl,rfl⟩
 rintro r d ⟨c,be,W,an,rfl,rfl⟩;have fC:=dr (c:=c) (by omega)
 by_cases aC:c < O.length
 rotate_left
 ·have h1:decide ((c:Int) < O.length)=false:=decide_eq_false (by omega);obtain rfl:c=O.length:=by omega
  unfold um;simp only[go_sem,hY,il,h1]
  (refine s.bw [some 5] ?_;simp only[go_sem])
  exact s.U ⟨rfl,rfl⟩
 have h1:decide ((c:Int) < O.length)=true:=decide_eq_true (by omega);have z0: (0:Int)≤c:=by omega
 have lj: (c:Int) < O.length:=by omega
 have ao: (ac O).getD c []=aG.F O[c]:=cQ aC;obtain⟨p1,iG,Ci,aIz⟩:=ae _ (List.getElem_mem aC);generalize O[c]=p at *;generalize hG:decide (0 < c)=iK;unfold um;simp only[go_sem,hY,il,h1,z0,lj,ao,bO,awJ,p1];rw[show (z.agg [.int .i64 0,.int .i64 0,.int .i64 0,.int .i64 0,.int .i64 0,.int .i64 0,.int .i64 0,.int .i64 0,.int .i64 0,.int .i64 0,.int .i64 0,.int .i64 0,.int .i64 0,.int .i64 0,.int .i64 0,.int .i64 0])=BG from rfl,awQ];refine⟨rfl,rfl,?_⟩;rw[show cf BG= [.int .i64 0,.int .i64 0,.int .i64 0,.int .i64 0,.int .i64 0,.int .i64 0,.int .i64 0,.int .i64 0,.int .i64 0,.int .i64 0,.int .i64 0,.int .i64 0,.int .i64 0,.int .i64 0,.int .i64 0,.int .i64 0] from rfl];refine dR (fun r d=> ∃ (k:Int) (be W:Bool),p.J≤k∧k≤p.T∧r= [(2,.bD),(4,.aW 0 1 0 0),(9,.aW 1 1 0 0),(10,.bu 4),(11,.bu 5),(13,.aW 6 1 0 0),(14,.aW 7 1 0 0),(15,.int .i64 k),(27,.pure 4 (ac O)),(28,.int .i64 O.length),(29,.int .i64 c)]∧d=um be W iK++ [.aa 221 4 [[.int .i64 20454,.int .i64 p.J,.int .i64 p.T,.str p.ep]],.aa 227 16 [[.int .i64 0,.int .i64 0,.int .i64 0,.int .i64 0,.int .i64 0,.int .i64 0,.int .i64 0,.int .i64 0,.int .i64 0,.int .i64 0,.int .i64 0,.int .i64 0,.int .i64 0,.int .i64 0,.int .i64 0,.int .i64 0]]])
  (fun r _=>match bn r 15 with| .int _ j=>(p.T-j).toNat|_=>0) ?_ ?_
 ·exact s.U ⟨p.J,be,W,by omega,by omega,rfl,rfl⟩
 clear be W;rintro r d ⟨k,be,W,Bf,kq,rfl,rfl⟩;unfold um
 by_cases yQ:k < p.T
 rotate_left
 ·have B:decide (k < p.T)=false:=decide_eq_false yQ;simp only[go_sem,hY,il,B];rw[fC,show (z.agg [.int .i64 0,.int .i64 0,.int .i64 0,.int .i64 0,.int .i64 0,.int .i64 0,.int .i64 0,.int .i64 0,.int .i64 0,.int .i64 0,.int .i64 0,.int .i64 0,.int .i64 0,.int .i64 0,.int .i64 0,.int .i64 0])=BG from rfl,awR]
  (refine s.bw [some 0,some 1,some 2,some 3,some 4,some 5] ?_;simp only[go_sem])
  refine s.U ⟨⟨c+1,be,W,by omega,rfl,?_⟩,?_⟩
  ·rw[decide_eq_true (show 0 < c+1 by omega)]
  ·simp only[go_sem];omega
 have B:decide (k < p.T)=true:=decide_eq_true yQ;simp only[go_sem,hY,il,B]
 (refine eY [1,2,3] (awT be k (by omega) (by omega)) ?_;rintro _ _ ⟨rfl,rfl⟩;simp only[go_sem])
 have mV:IntKind.i64.wrap (k+1)=k+1:=bf (by omega) (by omega);refine dR (fun r d=>r= [(2,.bD),(4,.aW 0 1 0 0),(9,.aW 1 1 0 0),(10,.bu 4),(11,.bu 5),(13,.aW 6 1 0 0),(14,.aW 7 1 0 0),(15,.int .i64 k),(16,.aW 8 1 0 0),(17,.int .i64 0),(27,.pure 4 (ac O)),(28,.int .i64 O.length),(29,.int .i64 c),(51,.bD),(52,.int .i64 0),(53,.int .i64 0)]∧d=um true W iK++ [.aa 221 4 [[.int .i64 20454,.int .i64 p.J,.int .i64 p.T,.str p.ep]],.aa 227 16 [[.int .i64 0,.int .i64 0,.int .i64 0,.int .i64 0,.int .i64 0,.int .i64 0,.int .i64 0,.int .i64 0,.int .i64 0,.int .i64 0,.int .i64 0,.int .i64 0,.int .i64 0,.int .i64 0,.int .i64 0,.int .i64 0]],.aa 316 3 [[.int .i64 (k-29453760),.int .i64 3,.bool false]]])
  (fun r _=>0) ?_ ?_
 ·exact s.U ⟨rfl,rfl⟩
 rintro r d ⟨rfl,rfl⟩;unfold um;simp only[go_sem,hY,il];cases W
 ·rw[show dd (.int .i64 0) (Ec false)=none from rfl];simp only[go_sem,hY,il];refine bH awH rfl rfl ?_;simp only[go_sem,hY,il,awS];refine dR (fun r d=>r= [(2,.bD),(4,.aW 0 1 0 0),(9,.aW 1 1 0 0),(10,.bu 4),(11,.bu 5),(13,.aW 6 1 0 0),(14,.aW 7 1 0 0),(15,.int .i64 k),(20,.int .i64 0),(27,.pure 4 (ac O)),(28,.int .i64 O.length),(29,.int .i64 c),(81,.int .i64 0),(82,.int .i64 0)]∧d=um true true iK++ [.aa 221 4 [[.int .i64 20454,.int .i64 p.J,.int .i64 p.T,.str p.ep]],.aa 227 16 [[.int .i64 0,.int .i64 0,.int .i64 0,.int .i64 0,.int .i64 0,.int .i64 0,.int .i64 0,.int .i64 0,.int .i64 0,.int .i64 0,.int .i64 0,.int .i64 0,.int .i64 0,.int .i64 0,.int .i64 0,.int .i64 0]],.aa 316 3 [[.int .i64 (k-29453760),.int .i64 3,.bool false]]])
   (fun r _=>0) ?_ ?_
  ·exact s.U ⟨rfl,rfl⟩
  rintro r d ⟨rfl,rfl⟩;unfold um;simp only[go_sem,hY,il,mV]
  (refine s.bw [some 0,some 1,some 2,some 3,some 4,some 5,some 6,some 7] ?_;simp only[go_sem])
  refine s.U ⟨⟨k+1,true,true,by omega,by omega,rfl,rfl⟩,?_⟩;simp only[go_sem];omega
 ·rw[show dd (.int .i64 0) (Ec true)=some (.int .i64 0) from rfl];simp only[go_sem,hY,il];refine dR (fun r d=>r= [(2,.bD),(4,.aW 0 1 0 0),(9,.aW 1 1 0 0),(10,.bu 4),(11,.bu 5),(13,.aW 6 1 0 0),(14,.aW 7 1 0 0),(15,.int .i64 k),(20,.int .i64 0),(27,.pure 4 (ac O)),(28,.int .i64 O.length),(29,.int .i64 c),(81,.int .i64 0),(82,.int .i64 0)]∧d=um true true iK++ [.aa 221 4 [[.int .i64 20454,.int .i64 p.J,.int .i64 p.T,.str p.ep]],.aa 227 16 [[.int .i64 0,.int .i64 0,.int .i64 0,.int .i64 0,.int .i64 0,.int .i64 0,.int .i64 0,.int .i64 0,.int .i64 0,.int .i64 0,.int .i64 0,.int .i64 0,.int .i64 0,.int .i64 0,.int .i64 0,.int .i64 0]],.aa 316 3 [[.int .i64 (k-29453760),.int .i64 3,.bool false]]])
   (fun r _=>0) ?_ ?_
  ·exact s.U ⟨rfl,rfl⟩
  rintro r d ⟨rfl,rfl⟩;unfold um;simp only[go_sem,hY,il,mV]
  (refine s.bw [some 0,some 1,some 2,some 3,some 4,some 5,some 6,some 7] ?_;simp only[go_sem])
  refine s.U ⟨⟨k+1,true,true,by omega,by omega,rfl,rfl⟩,?_⟩;simp only[go_sem];omega
theorem aK.awV {P:Program}{f:FuncId}{args:List z}{d:List R}{K:z→List R→Prop}(h:tG P f args d K):aK P f args d K:=by
 intro C du G ar hG dk;subst G;exact Fr ar hG dk h
theorem awW (aP:TypeId)(O:List vC)(hl:O.length≤1000000)(ae: ∀ p∈O,Ly p):aK prog 115 [.agg [.int .i64 0,.bD],.bD,.bD,.own 0 O.length 0 O.length] [.aa aP 4 (ac O)]
 (fun v rs=>v= .bu 1∧rs= [.aa aP 4 (ac O),.aY (.map false [.int .i64] (zl (decide (0 < O.length))))]):=by
 refine aK.awV ⟨[],[0],[],by simp,rfl,?_⟩;have Z:dV [.aa aP 4 (ac O)] (([]:List Nat).map some) [0] [.agg [.int .i64 0,.bD],.bD,.bD,.own 0 O.length 0 O.length]= [.agg [.int .i64 0,.bD],.bD,.bD,.pure 4 (ac O)]:=by
  have:bU [.aa aP 4 (ac O)] [] [0] (.own 0 O.length 0 O.length)= .pure 4 (ac O):=pO rfl rfl rfl bO.symm cw;simp only[List.map_nil,dV,this];rfl
 rw[Z];refine (awU O hl ae).mono ?_;rintro v rs ⟨rfl,rfl⟩;refine⟨.inr ⟨rfl,by cases decide (0 < O.length)<;>rfl⟩,rfl,?_⟩;cases decide (0 < O.length)<;>rfl
def LC:List (List z)→Option (List vC)
 | []=>some []
 | [.int .i64 o,.int .i64 f,.int .i64 t,.str b]::l=>match LC l with|some O=>some (⟨o,f,t,b⟩::O)|none=>none
 |_::_=>none
theorem aaz: ∀ {l:List (List z)} {O:List vC},LC l=some O→l=ac O
 | [],O,h=>by cases h;rfl
 |x::l,O,h=>by
  unfold LC at h;split at h
  ·cases ‹_::_= []›
  ·rename_i lB;cases lB;split at h
   ·rename_i aIA aQ;cases h;rw[aaz aQ];rfl
   ·cases h
  ·cases h
instance (p:vC):Decidable (Ly p):=inferInstanceAs (Decidable (p.ab=20454∧29453760≤p.J∧p.J≤p.T∧p.T≤29455200))
def RE (args:List z)(d:List R):Option (z×List R):=
 match args,d with
 | [.agg [.int .i64 0,.bD],.bD,.bD,.own 0 n 0 m],[.aa aP 4 ah]=>
  match LC ah with
  |some O=>if n=O.length∧m=O.length∧O.length≤1000∧O.all (fun p=>decide (Ly p))=true then some (.bu 1,[.aa aP 4 ah,.aY (.map false [.int .i64] (zl (decide (0 < O.length))))]) else none
  |none=>none
 |_,_=>none
theorem awX (args:List z)(d:List R)(v:z)(rs:List R)(h:RE args d=some (v,rs)):aK prog 115 args d fun gq gX=>gq=v∧gX=rs:=by
 unfold RE at h;split at h
 ·split at h
  ·rename_i O jO;split at h
   ·rename_i V;simp only[Option.some.injEq,Prod.mk.injEq] at h;obtain⟨rfl,rfl⟩:=h;obtain⟨rfl,rfl,am,bp⟩:=V;rw[aaz jO];exact awW _ O (by omega) (fun p ae=>of_decide_eq_true (List.all_eq_true.1 bp p ae))
   ·cases h
  ·cases h
 ·cases h
def awB:List (tU prog):=⟨115,RE,awX⟩::Lv
open Go.Maps
open Go.RowKit (Below)
def avO:Go.Shelf.Ren:=
 {f:=fun x=>match x with|125=>158|128=>241|129=>242|190=>188|258=>251|302=>303|303=>304|304=>305|305=>306|306=>307|307=>308|308=>309|309=>310|310=>311|329=>290|330=>291|333=>346|334=>347|335=>348|336=>208|344=>364|n=>n,
  t:=fun x=>match x with|0=>0|3=>3|4=>4|5=>5|9=>9|31=>166|46=>284|51=>347|53=>349|131=>206|182=>340|183=>341|218=>376|222=>380|228=>412|229=>308|n=>n,
  g:=fun n=>n}
set_option maxRecDepth 100000 in
theorem Z3:Lays.n190 prog avO where
 mixed:=by kernel_rfl
 f125:=Eq.trans func158 (congrArg some (by kernel_rfl))
 f128:=Eq.trans func241 (congrArg some (by kernel_rfl))
 f129:=Eq.trans func242 (congrArg some (by kernel_rfl))
 f190:=Eq.trans func188 (congrArg some (by kernel_rfl))
 f258:=Eq.trans func251 (congrArg some (by kernel_rfl))
 f302:=Eq.trans func303 (congrArg some (by kernel_rfl))
 f303:=Eq.trans func304 (congrArg some (by kernel_rfl))
 f304:=Eq.trans func305 (congrArg some (by kernel_rfl))
 f305:=Eq.trans func306 (congrArg some (by kernel_rfl))
 f306:=Eq.trans func307 (congrArg some (by kernel_rfl))
 f307:=Eq.trans func308 (congrArg some (by kernel_rfl))
 f308:=Eq.trans func309 (congrArg some (by kernel_rfl))
 f309:=Eq.trans func310 (congrArg some (by kernel_rfl))
 f310:=Eq.trans func311 (congrArg some (by kernel_rfl))
 f329:=Eq.trans func290 (congrArg some (by kernel_rfl))
 f330:=Eq.trans func291 (congrArg some (by kernel_rfl))
 f333:=Eq.trans func346 (congrArg some (by kernel_rfl))
 f334:=Eq.trans func347 (congrArg some (by kernel_rfl))
 f335:=Eq.trans func348 (congrArg some (by kernel_rfl))
 f336:=Eq.trans func208 (congrArg some (by kernel_rfl))
 f344:=Eq.trans func364 (congrArg some (by kernel_rfl))
 t0:=underlying0
 a0:=isAgg0
 z0:=sizeOf0
 v0:=zeroValue0
 t3:=underlying3
 a3:=isAgg3
 z3:=sizeOf3
 v3:=zeroValue3
 t4:=underlying4
 a4:=isAgg4
 z4:=sizeOf4
 v4:=zeroValue4
 t5:=underlying5
 a5:=isAgg5
 z5:=sizeOf5
 v5:=zeroValue5
 t9:=underlying9
 a9:=isAgg9
 z9:=sizeOf9
 v9:=zeroValue9
 t31:=underlying166
 a31:=isAgg166
 z31:=sizeOf166
 v31:=zeroValue166
 t46:=underlying284
 a46:=isAgg284
 z46:=sizeOf284
 v46:=zeroValue284
 t51:=underlying347
 a51:=isAgg347
 z51:=sizeOf347
 v51:=zeroValue347
 t53:=underlying349
 a53:=isAgg349
 z53:=sizeOf349
 v53:=zeroValue349
 t131:=underlying206
 a131:=isAgg206
 z131:=sizeOf206
 v131:=zeroValue206
 t182:=underlying340
 a182:=isAgg340
 z182:=sizeOf340
 v182:=zeroValue340
 t183:=underlying341
 a183:=isAgg341
 z183:=sizeOf341
 v183:=zeroValue341
 t218:=underlying376
 a218:=isAgg376
 z218:=sizeOf376
 v218:=zeroValue376
 t222:=underlying380
 a222:=isAgg380
 z222:=sizeOf380
 v222:=zeroValue380
 t228:=underlying412
 a228:=isAgg412
 z228:=sizeOf412
 v228:=zeroValue412
 t229:=underlying308
 a229:=isAgg308
 z229:=sizeOf308
 v229:=zeroValue308
def Z4:Go.Shelf.Ren:=
 {f:=fun x=>match x with|6=>104|8=>187|9=>188|11=>250|n=>n,
  t:=fun x=>match x with|26=>9|28=>204|24=>166|0=>0|3=>3|4=>4|33=>208|n=>n,
  g:=fun n=>n}
set_option maxRecDepth 100000 in
theorem avP:SlLaysZ.n6 prog Z4 where
 mixed:=by kernel_rfl
 f6:=⟨"slices.Sorted[string]",by decide,Eq.trans func104 (congrArg some (by kernel_rfl))⟩
 f8:=⟨"slices.Collect[string]",by decide,Eq.trans func187 (congrArg some (by kernel_rfl))⟩
 f11:=⟨"slices.AppendSeq[[]string,string]",by decide,Eq.trans func250 (congrArg some (by kernel_rfl))⟩
 t0:=underlying0
 a0:=isAgg0
 z0:=sizeOf0
 v0:=zeroValue0
 t24:=underlying166
 a24:=isAgg166
 z24:=sizeOf166
 v24:=zeroValue166
 t26:=underlying9
 a26:=isAgg9
 z26:=sizeOf9
 v26:=zeroValue9
 t28:=underlying204
 a28:=isAgg204
 z28:=sizeOf204
 v28:=zeroValue204
 i26:=by kernel_rfl
def Z5:Go.Shelf.Ren:=
 {f:=fun x=>match x with|7=>105|10=>189|n=>n,
  t:=fun x=>match x with|23=>201|26=>9|3=>3|28=>204|0=>0|27=>203|33=>208|4=>4|n=>n,
  g:=fun n=>n}
set_option maxRecDepth 100000 in
theorem avQ:SlLaysZ.n7 prog Z5 where
 mixed:=by kernel_rfl
 f7:=⟨"maps.Keys[map[string]int,string,int]",by decide,Eq.trans func105 (congrArg some (by kernel_rfl))⟩
 f10:=⟨"maps.Keys[map[string]int,string,int]$1",by decide,Eq.trans func189 (congrArg some (by kernel_rfl))⟩
 t0:=underlying0
 a0:=isAgg0
 z0:=sizeOf0
 v0:=zeroValue0
 t4:=underlying4
 a4:=isAgg4
 z4:=sizeOf4
 v4:=zeroValue4
 t23:=underlying201
 a23:=isAgg201
 z23:=sizeOf201
 v23:=zeroValue201
 t26:=underlying9
 a26:=isAgg9
 z26:=sizeOf9
 v26:=zeroValue9
 t27:=underlying203
 a27:=isAgg203
 z27:=sizeOf203
 v27:=zeroValue203
 t28:=underlying204
 a28:=isAgg204
 z28:=sizeOf204
 v28:=zeroValue204
 t33:=underlying208
 a33:=isAgg208
 z33:=sizeOf208
 v33:=zeroValue208
theorem avR (m:Nat):AnyZ.SortsIn prog Z4 Fence.wide m:=
 ⟨fun mn off cap bN W rB so dt=>callsIn_wide.2 (Any.slices_Sort_string Z3 mn off cap bN W rB so dt),
  fun p cap W=>callsIn_wide.2 (calls_of_every_depth fun ax=>AnyS.slices_Sort_string_none_in Z3 ax p cap W)⟩
def D6 (x:List UInt8):ByteArray:=⟨x.toArray⟩
def xs (l:List ByteArray):List (List z):=l.map fun E=> [.str E]
theorem avS (l:List ByteArray): (xs l).length=l.length:=by simp[xs]
def Ll (M:List ByteArray):List ByteArray:=((M.map fun E=>E.data.toList).mergeSort leB).map D6
theorem Z6 {C:bv}{b:Nat}: ∀ (bQ:List (List UInt8)) (L:Nat),(∀ c (h:c < bQ.length),C.w.cell? ⟨b,L+c,none⟩=some (encStr bQ[c]))→cT C b L 1 (xs (bQ.map D6))
 | [],L,_=>by simp[xs,cT]
 |D::bQ,L,h=>by
  rw[List.map_cons,xs,List.map_cons,cT];refine⟨rfl,?_,Z6 bQ (L+1) fun c an=> ?_⟩
  ·rw[dn];refine⟨⟨encStr D,h 0 (Nat.zero_lt_succ _),rfl,by rw[Rep];rfl⟩,by rw[dn];trivial⟩
  ·have:=h (c+1) (by simpa using an);rw[show L+1+c=L+(c+1) by omega];simpa using this
theorem Z7 {C:bv}: ∀ {bQ:List ByteArray} {vs:List Value},ay C (bQ.map (z.str ·)) vs→vs=bQ.map (Value.string ·)
 | [],vs,h=>by simpa[ay] using h
 |D::bQ,vs,h=>by
  rw[List.map_cons,ay] at h;obtain⟨v,bW,rfl,ag,G⟩:=h;rw[Rep] at ag;rw[List.map_cons,←Z7 G,ag]
def avT:Value→List UInt8
 | .string E=>E.data.toList
 |_=> []
theorem avU {d:List R}{a b:Nat}{aP:TypeId}{ents:List (z×z)}{M:List ByteArray}(aw:d[a]? =some (.aY (.map false [.str] ents)))(Z:d[b]? =some (.aa aP 1 [[.bu a]]))(I:ents.map (·.1)=M.map (z.str ·))(pU:M.Nodup)(je: ∀ x∈M,x.size≤maxLen)(cB:M.length≤1000000):
 aK prog 104 [.fn 189 [.aW b 1 0 0]] d
  (fun v rs=>v= .pure 1 (xs (Ll M))∧rs=d):=by
 refine aK.JE (fun h=>h) ?_;intro C du G ar hG dk;have hM:C.d[a]? =some (.aY (.map false [.str] ents)):=by rw[G];exact aw
 have iA:C.d[b]? =some (.aa aP 1 [[.bu a]]):=by rw[G];exact Z
 rw[ay] at dk;obtain⟨v0,bW,rfl,ag,aB⟩:=dk;rw[ay] at aB;subst aB;rw[Rep] at ag;obtain⟨vs,rfl,jz⟩:=ag;rw[ay] at jz;obtain⟨KY,bW,xm,ae,aB⟩:=jz;rw[ay] at aB;subst aB;rw[Rep] at ae;obtain⟨gV,_,_,hall⟩:=ae;obtain⟨_,B⟩:=hall _ _ _ iA;obtain⟨_,Bm,F,oP,rfl⟩:=B rfl;obtain rfl:vs= #[.pointer (some ⟨Bm,0,none⟩)]:=by
  apply Array.toList_inj.1;rw[xm]
 rcases ar.aa iA with ⟨_,nV⟩|⟨b1,cap,aj,hn,wO,lF,es,tA,ed,cY⟩
 ·cases nV
 rw[oP] at hn;simp only[Option.some.injEq,Prod.mk.injEq] at hn;obtain⟨rfl,rfl⟩:=hn;rw[cT,dn] at cY;obtain⟨⟨KZ,lz,_,iC⟩,_⟩:=cY.2.1;rw[Rep] at iC;obtain⟨_,_,_,iC⟩:=iC;obtain⟨b0,c0,xn,rfl⟩:=iC _ hM;have kD:=ar.d _ _ hM;rw[dA] at kD;obtain⟨K0,K1,al,nc,K2,lY,oJ,ty,Cf,Cg⟩:=kD;rw[xn] at nc;simp only[Option.some.injEq,Prod.mk.injEq] at nc;obtain⟨rfl,rfl⟩:=nc;have fP:al.toList.map (·.key)=M.map (Value.string ·):=Z7 (by rw[←I];exact ty);have dt:al.size=M.length:=by
  have:=congrArg List.length fP;simpa using this
 let az:Value→Option (DataW Unit×List MemPlace):=fun _=>some (.nil,[])
 have BC:prog.underlying 9=some .string:=underlying9;have qc: ∀ x∈al.toList,∃ D:ByteArray,x.key= .string D∧D∈M∧Go.WideElems.rd prog 9 az x=some (.string D.data.toList,.nil):=by
  intro x ad;have:x.key∈M.map (Value.string ·):=by rw[←fP];exact List.mem_map_of_mem ad
  obtain⟨D,aS,pg⟩:=List.mem_map.1 this;refine⟨D,pg.symm,aS,?_⟩;unfold Go.WideElems.rd;have ak:=je D aS;have GK:keyOf prog 9 (.string D)=some (.string D.data.toList):=by
   have yh:D.data.size≤maxLen:=ak;simp[keyOf,BC,mapKey,ak,yh]
  rw[←pg,GK];rfl
 have rl:Go.WideElems.Fit prog 9 az al al.size:=by
  refine⟨by rw[dt];unfold maxLen;omega,⟨fun x ad=> ?_,?_,?_⟩,fun x ad=> ?_⟩
  ·obtain⟨c,an,rfl⟩:=List.getElem_of_mem ad;have:=oJ c _ (by rw[←Array.getElem?_toList,List.getElem?_eq_getElem an]);rw[this];simpa using an
  ·have:al.toList.map (·.born)=List.range al.size:=by
    refine List.ext_getElem? fun c=> ?_
    by_cases an:c < al.size
    ·rw[List.getElem?_map,Array.getElem?_toList,Array.getElem?_eq_getElem an,List.getElem?_range an];simp[oJ c _ (Array.getElem?_eq_getElem an)]
    ·rw[List.getElem?_eq_none (by simp;omega),List.getElem?_eq_none (by simp;omega)]
   rw[this];exact List.nodup_range
  ·rw[fP];exact List.pairwise_map.2 (pU.imp fun h e=>h (by simpa using e))
  ·obtain⟨D,_,_,h⟩:=qc x ad;exact⟨_,h⟩
 let dM:=al.toList.map (Go.WideElems.rg prog 9 az)
 let ax:DataW Unit:= .map (dM.foldr DataW.insert [])
 have nB:C.w.ownsMap prog 9 az b0 al.size ax:=⟨al,al.size,lY,rl,Nat.le_refl _,rfl⟩;have sX:dM.map (fun p=>strOf p.1)=M.map fun E=>E.data.toList:=by
  have: ∀ x∈al.toList,((fun p:Lit×DataW Unit=>strOf p.1)∘Go.WideElems.rg prog 9 az) x=(avT∘fun x:MapEntry=>x.key) x:=by
   intro x ad;obtain⟨D,h1,_,B⟩:=qc x ad;simp only[Function.comp_apply];rw[Go.WideElems.rg_of B,h1];rfl
  show List.map _ (List.map _ al.toList)=_;rw[List.map_map,List.map_congr_left this,←List.map_map,fP,List.map_map];rfl
 have jN: (strKeys ax).Perm (M.map fun E=>E.data.toList):=by
  rw[←sX];exact (Go.WideShapes.sorted_perm dM).map _
 have fu:Maps.size ax=M.length:=by
  show (dM.foldr DataW.insert []).length=_;rw[length_sorted,List.length_map,Array.length_toList,dt]
 have rN:SeqGives Fence.wide 2 prog 189 #[.pointer (some ⟨Bm,0,none⟩)] encStr (fun bN=>bN.Perm (strKeys ax)) (Maps.size ax) C.w:=
  AnyZ.keys_gives (ρ:=Z5) {avQ with} Fence.wide _ trivial rfl (by omega) Bm b0 al.size ax C.w (Array.getElem?_eq_some_iff.1 lF).1 lz nB
 have xo:=AnyZ.sorted_in avP Fence.wide 5 trivial trivial trivial trivial rfl (by omega) (avR _) (enters_of func188 (by kernel_rfl) rfl) 189 #[.pointer (some ⟨Bm,0,none⟩)] trivial (enters_of func189 (by kernel_rfl) rfl) _ (Maps.size ax) (by rw[fu];unfold maxLen;omega) (by rw[fu];omega) C.w rN;refine (callsIn_wide.1 xo).mono ?_;rintro e w' ⟨v,bN,rfl,de,hrow,iq,Z⟩;obtain⟨aU,hL⟩: ∃ aU,aU=(M.map fun E=>E.data.toList).mergeSort leB:=⟨_,rfl⟩;have vy: (bN.mergeSort leB)=aU:=by rw[hL];exact mergeSort_of_perm (de.trans jN)
 have fd:bN.length=aU.length:=by rw[←vy,List.length_mergeSort]
 refine⟨v,.pure 1 (xs (aU.map D6)),rfl,Z,fun Ai=> ?_,by unfold Ll;rw[hL],by rw[←G]⟩;have Hc: (xs (aU.map D6)).length=bN.length:=by rw[avS,List.length_map,fd]
 rw[Rep];rcases hrow.2 with ⟨rfl,aS⟩|⟨g,cap,mS,rfl,Hd,qN,r1,cO,fN,eG⟩
 ·exact⟨none,0,by rw[Hc,aS],by rw[Hc,aS];exact Nat.le_refl _,.inl (by rw[Hc,aS])⟩
 ·refine⟨_,cap,by rw[Hc],by rw[Hc];exact r1,.inr ⟨g,0,rfl,⟨(Array.getElem?_eq_some_iff.1 qN).1,fun bi=> ?_,fun i F h=> ?_⟩,?_⟩⟩
  ·have:=ar.bS _ bi;omega
  ·have:=ar.lt h;omega
  ·refine Z6 (C:=bv.p _) _ _ fun c an=> ?_;have h1: (mS.toList.take (bN.length*1))[c]? =((bN.mergeSort leB).map encStr)[c]? :=by rw[eG]
   rw[List.getElem?_take_of_lt (by rw[Nat.mul_one,fd];exact an),List.getElem?_map,vy,List.getElem?_eq_getElem an,Array.getElem?_toList] at h1;show World.cell? w' _=_;simp only[World.cell?,qN,Nat.zero_add];simpa using h1
end Go.Proofs.YtpincjkjoeopkaaGreatDoor
