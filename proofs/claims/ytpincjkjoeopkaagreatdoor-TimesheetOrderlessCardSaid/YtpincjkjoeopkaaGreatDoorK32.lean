/- Presences and working time. -/
import Derived.Test.YtpincjkjoeopkaaGreatDoorK31
set_option linter.unusedSimpArgs false
set_option linter.unusedVariables false
set_option linter.unusedSectionVars false
namespace Go.Proofs.YtpincjkjoeopkaaGreatDoor.Pr
open Go Go.Abs
def ra:Int→List bs→Int
 |e,[]=>e
 |_,b::i=>ra b.T i
theorem Tp: ∀ {l:List bs} {e:Int} {b:bs},ra e (l++ [b])=b.T
 | [],_,_=>rfl
 |x::i,_,b=>by rw[List.cons_append,ra,Tp]
theorem xN: ∀ {l:List bs} {e t sG:Int},cV e t l=true→t≤sG→cV e sG l=true
 | [],_,_,_,_,_=>rfl
 |b::i,e,t,sG,h,ht=>by
  simp only[cV,hz,Bool.and_eq_true,decide_eq_true_eq] at h ⊢;exact⟨by omega,xN h.2 ht⟩
theorem Tq: ∀ {l:List bs} {e t:Int} {b:bs},cV e t l=true→ra e l≤b.J→b.J < b.T→b.T≤t→cV e t (l++ [b])=true
 | [],e,t,b,_,h1,B,am=>by
  simp only[ra] at h1;simp only[List.nil_append,cV,hz,Bool.and_true,decide_eq_true_eq];omega
 |x::i,e,t,b,h,h1,B,am=>by
  simp only[cV,Bool.and_eq_true] at h;simp only[List.cons_append,cV,Bool.and_eq_true];exact⟨h.1,Tq h.2 h1 B am⟩
def lf:Int→List dx→Int
 |e,[]=>e
 |_,p::i=>lf p.T i
theorem ahH: ∀ {l:List dx} {e:Int} {p:dx},lf e (l++ [p])=p.T
 | [],_,_=>rfl
 |x::i,_,p=>by rw[List.cons_append,lf,ahH]
theorem ahI: ∀ {l:List dx} {e:Int} {p:dx},hX e l=true→sN (lf e l) p=true→hX e (l++ [p])=true
 | [],e,p,_,h=>by simp only[List.nil_append,hX,Bool.and_true];exact h
 |x::i,e,p,h,h1=>by
  simp only[hX,Bool.and_eq_true] at h;simp only[List.cons_append,hX,Bool.and_eq_true];exact⟨h.1,ahI h.2 h1⟩
structure Tr (aU:List Stamp) (n:Int) (p:dx):Prop where
 len:p.T-p.J≤n
 J:qZ aU p.J 1=true
 T:qZ aU p.T 2=true
 en: ∀ b∈p.en,qZ aU b.J 3=true∧(qZ aU b.T 4=true∨b.T=p.T)
structure Ig (aU:List Stamp) (n:Int) (k:Nat) (t:Int) (p:bG):Prop where
 aIW:p.uz=n
 bq:p.state=0∨p.state=1∨p.state=2
 t0:0≤t
 ok:hX 0 p.fE=true
 aEY: ∀ q∈p.fE,Tr aU n q
 bb:lf 0 p.fE≤t
 GJ:p.fE.length+p.mH.length+(if p.state=0 then 0 else 1)≤k
 fE:p.state≠0→lf 0 p.fE≤p.aI8∧p.aI8≤t∧0≤p.aI8∧qZ aU p.aI8 1=true∧cV p.aI8 t p.jV=true∧p.jV.length≤k∧p.aI8≤ra p.aI8 p.jV∧ra p.aI8 p.jV≤t∧ ∀ b∈p.jV,qZ aU b.J 3=true∧qZ aU b.T 4=true
 aIX:p.state=2→ra p.aI8 p.jV≤p.kH∧p.kH≤t∧qZ aU p.kH 3=true
theorem Ts {aU:List Stamp}{n:Int}{k:Nat}{t:Int}{p:bG}(I:k+1≤1024)(oD:p.uz=n)(ar:hX 0 p.fE=true)(lQ: ∀ q∈p.fE,Tr aU n q)(xO:p.fE.length+p.mH.length≤k)
 (mo:lf 0 p.fE≤p.aI8) (ht:p.aI8≤t) (Dt:t≤120968639) (h0:0≤p.aI8) (aEZ:qZ aU p.aI8 1=true) (aE0:qZ aU t 2=true) (pe:cV p.aI8 t p.jV=true) (pd:p.jV.length≤1024)
 (aE1: ∀ b∈p.jV,qZ aU b.J 3=true∧(qZ aU b.T 4=true∨b.T=t)):Ig aU n (k+1) t (p.qq t):=by
 unfold bG.qq bG.dP;split
 ·exact⟨oD,.inl rfl,by omega,ar,lQ,by show lf 0 p.fE≤t;omega,by simp[bG.eE];omega,fun h=>(h rfl).elim,fun h=>by simp at h⟩
 ·split
  ·refine⟨oD,.inl rfl,by omega,?_,?_,?_,by simp;omega,fun h=>(h rfl).elim,fun h=>by simp at h⟩
   ·refine ahI ar ?_;simp only[sN,hz,Bool.and_eq_true,decide_eq_true_eq];exact⟨⟨by omega,pd⟩,pe⟩
   ·intro q aQ;simp only[List.mem_append,List.mem_singleton] at aQ;rcases aQ with aQ|rfl
    ·exact lQ q aQ
    ·exact⟨by simp only;omega,aEZ,aE0,aE1⟩
   ·show lf 0 (p.fE++ [_])≤t;rw[ahH];exact Int.le_refl _
  ·exact⟨oD,.inl rfl,by omega,ar,lQ,by show lf 0 p.fE≤t;omega,by simp;omega,fun h=>(h rfl).elim,fun h=>by simp at h⟩
theorem aE2 {aU:List Stamp}{E:Stamp}(h:E∈aU):qZ aU E.time E.cH=true:=by
 simp only[qZ,List.any_eq_true,Bool.and_eq_true,decide_eq_true_eq];exact⟨E,h,rfl,rfl⟩
theorem aE3 {aU:List Stamp}{n:Int}{k:Nat}{t:Int}{p:bG}(h:Ig aU n k t p)(I:k+1≤1024){E:Stamp}(ak:E∈aU)(ht:t≤E.time)(Dt:E.time≤120968639)(aIY:1≤E.cH∧E.cH≤4):Ig aU n (k+1) E.time (p.iS E):=by
 have hm:=aE2 ak;obtain⟨uz,state,aI8,kH,jV,fE,mH⟩:=p;obtain⟨oD,ce,yH,ar,lQ,mo,xO,Tt,ahJ⟩:=h;simp only at oD ce ar lQ mo xO Tt ahJ;unfold bG.iS;rcases ce with rfl|rfl|rfl
 ·simp only[if_true] at xO;simp only[if_true];split
  ·rename_i kq;rw[kq] at hm;exact⟨oD,.inr (.inl rfl),by omega,ar,lQ,by show lf 0 fE≤E.time;omega,by simp[bG.enter];omega,
    fun _=>⟨by show lf 0 fE≤E.time;omega,Int.le_refl _,by show 0≤E.time;omega,hm,rfl,by simp[bG.enter],by simp[bG.enter,ra],by simp[bG.enter,ra],by simp[bG.enter]⟩,fun h=>by simp[bG.enter] at h⟩
  ·exact⟨oD,.inl rfl,by omega,ar,lQ,by show lf 0 fE≤E.time;omega,by simp[bG.eE];omega,fun h=>(h rfl).elim,fun h=>by simp[bG.eE] at h⟩
 ·obtain⟨cz,eT,a3,a4,a5,LN,sY,LO,a9⟩:=Tt (by decide);have V:fE.length+mH.length+1≤k:=by simpa using xO
  simp only[show ¬((1:Int)=0) by decide,if_false,if_true];split
  ·rename_i kq;rw[kq] at hm;exact⟨oD,.inr (.inl rfl),by omega,ar,lQ,by show lf 0 fE≤E.time;omega,by simp[bG.enter,bG.eE];omega,
    fun _=>⟨by show lf 0 fE≤E.time;omega,Int.le_refl _,by show 0≤E.time;omega,hm,rfl,by simp[bG.enter],by simp[bG.enter,ra],by simp[bG.enter,ra],by simp[bG.enter]⟩,fun h=>by simp[bG.enter,bG.eE] at h⟩
  ·split
   ·rename_i rq;rw[rq] at hm;exact Ts I oD ar lQ (by simp only;omega) cz (by simp only;omega) Dt a3 a4 hm (xN a5 ht) (by simp only;omega) (fun b Z=>⟨(a9 b Z).1,.inl (a9 b Z).2⟩)
   ·split
    ·rename_i vx;rw[vx] at hm;exact⟨oD,.inr (.inr rfl),by omega,ar,lQ,by show lf 0 fE≤E.time;omega,by simp;omega,
      fun _=>⟨cz,by simp only;omega,a3,a4,xN a5 ht,by simp only;omega,sY,by simp only;omega,a9⟩,fun _=>⟨by simp only;omega,Int.le_refl _,hm⟩⟩
    ·exact⟨oD,.inr (.inl rfl),by omega,ar,lQ,by show lf 0 fE≤E.time;omega,by simp[bG.eE];omega,
      fun _=>⟨cz,by simp only[bG.eE];omega,a3,a4,xN a5 ht,by simp only[bG.eE];omega,sY,by simp only[bG.eE];omega,a9⟩,fun h=>by simp[bG.eE] at h⟩
 ·obtain⟨cz,eT,a3,a4,a5,LN,sY,LO,a9⟩:=Tt (by decide);obtain⟨b1,eA,ls⟩:=ahJ rfl;have V:fE.length+mH.length+1≤k:=by simpa using xO
  simp only[show ¬((2:Int)=0) by decide,show ¬((2:Int)=1) by decide,if_false];split
  ·rename_i kq;rw[kq] at hm;exact⟨oD,.inr (.inl rfl),by omega,ar,lQ,by show lf 0 fE≤E.time;omega,by simp[bG.enter,bG.eE];omega,
    fun _=>⟨by show lf 0 fE≤E.time;omega,Int.le_refl _,by show 0≤E.time;omega,hm,rfl,by simp[bG.enter],by simp[bG.enter,ra],by simp[bG.enter,ra],by simp[bG.enter]⟩,fun h=>by simp[bG.enter,bG.eE] at h⟩
  ·split
   ·rename_i rq;rw[rq] at hm;unfold bG.px bG.eE;simp only;split
    ·refine Ts I oD ar lQ (by simp only[List.length_append,List.length_cons,List.length_nil];omega) cz (by simp only;omega) Dt a3 a4 hm (Tq (xN a5 ht) (by simp only;omega) (by simp only;omega) (by simp only;omega)) (by simp only[List.length_append,List.length_cons,List.length_nil];omega) (fun b Z=> ?_);simp only[List.mem_append,List.mem_singleton] at Z;rcases Z with Z|rfl
     ·exact⟨(a9 b Z).1,.inl (a9 b Z).2⟩
     ·exact⟨ls,.inr rfl⟩
    ·exact Ts I oD ar lQ (by simp only[List.length_append,List.length_cons,List.length_nil];omega) cz (by simp only;omega) Dt a3 a4 hm (xN a5 ht) (by simp only;omega) (fun b Z=>⟨(a9 b Z).1,.inl (a9 b Z).2⟩)
   ·split
    ·rename_i vx;rw[vx] at hm;exact⟨oD,.inr (.inr rfl),by omega,ar,lQ,by show lf 0 fE≤E.time;omega,by simp[bG.eE];omega,
      fun _=>⟨cz,by simp only[bG.eE];omega,a3,a4,xN a5 ht,by simp only[bG.eE];omega,sY,by simp only[bG.eE];omega,a9⟩,fun _=>⟨by simp only[bG.eE];omega,Int.le_refl _,hm⟩⟩
    ·have Qy:E.cH=4:=by omega
     rw[Qy] at hm;unfold bG.px;simp only;split
     ·refine⟨oD,.inr (.inl rfl),by omega,ar,lQ,by show lf 0 fE≤E.time;omega,by simp;omega,
       fun _=>⟨cz,by simp only;omega,a3,a4,Tq (xN a5 ht) (by simp only;omega) (by simp only;omega) (by simp only;omega),by simp only[List.length_append,List.length_cons,List.length_nil];omega,by simp only[Tp];omega,by simp only[Tp];omega,fun b Z=> ?_⟩,fun h=>by simp at h⟩
      simp only[List.mem_append,List.mem_singleton] at Z;rcases Z with Z|rfl
      ·exact a9 b Z
      ·exact⟨ls,hm⟩
     ·exact⟨oD,.inr (.inl rfl),by omega,ar,lQ,by show lf 0 fE≤E.time;omega,by simp;omega,
       fun _=>⟨cz,by simp only;omega,a3,a4,xN a5 ht,by simp only;omega,sY,by simp only;omega,a9⟩,fun h=>by simp at h⟩
theorem ahK {aU:List Stamp}{n:Int}: ∀ {l:List Stamp} {k:Nat} {t:Int} {p:bG},Ig aU n k t p→(∀ E∈l,E∈aU)→qe t l=true→k+l.length≤1024→Ig aU n (k+l.length) (ahG t l) (l.foldl bG.iS p)
 | [],_,_,_,h,_,_,_=>h
 |E::i,k,t,p,h,hL,ak,I=>by
  simp only[qe,Bool.and_eq_true,decide_eq_true_eq] at ak;simp only[List.length_cons] at I ⊢;have:=ahK (l:=i) (aE3 h (by omega) (hL E (by simp)) (by omega) (by omega) ⟨by omega,by omega⟩) (fun x ad=>hL x (by simp[ad])) ak.2 (by omega);rw[show k+(i.length+1)=k+1+i.length from by omega];exact this
theorem Zq {aU:List Stamp}{n:Int}(hL:qe 0 aU=true)(cB:aU.length≤1024)(aB:1≤n)(FH:n≤10080):
 kF aU n=0∧kV (ng aU n)=0∧(∀ p∈ng aU n,Tr aU n p)∧(ng aU n).length+(sW aU n).length≤aU.length:=by
 have V:kF aU n=0:=by rw[kF,if_neg (by omega),if_neg (by omega),if_pos hL]
 have h:=ahK (aU:=aU) (n:=n) (l:=aU) (k:=0) (t:=0) (p:=qr n) ⟨rfl,.inl rfl,by omega,rfl,by simp[qr],by simp[qr,lf],by simp[qr],fun h=>(h rfl).elim,fun h=>by simp[qr] at h⟩ (fun _ h=>h) hL (by omega);have bF: (qs aU n).bb.fE=(qs aU n).fE:=by unfold bG.bb;split<;>rfl
 have xO:=h.GJ;have iT:aU.foldl bG.iS (qr n)=qs aU n:=rfl;rw[iT] at h xO;have bJ: (qs aU n).fE.length+(qs aU n).bb.mH.length≤aU.length:=by
  unfold bG.bb;split
  ·rename_i aS;rw[if_pos aS] at xO;omega
  ·rename_i aS;rw[if_neg aS] at xO;simp[bG.eE];omega
 refine⟨V,?_,?_,?_⟩
 ·rw[ng,if_pos V,bF,kV,if_neg (by omega),if_pos h.ok]
 ·rw[ng,if_pos V,bF];exact h.aEY
 ·rw[ng,if_pos V,sW,if_pos V,bF];exact bJ
theorem KE: ∀ {l:List dx} {e:Int},hX e l=true→0≤e→ ∀ p∈l,0≤p.J∧p.J < p.T∧p.T≤120968640∧p.en.length≤1024∧cV p.J p.T p.en=true
 | [],_,_,_,p,ae=>by simp at ae
 |x::i,e,h,he,p,ae=>by
  simp only[hX,sN,hz,Bool.and_eq_true,decide_eq_true_eq] at h;rcases List.mem_cons.1 ae with rfl|ae
  ·exact⟨by omega,by omega,by omega,h.1.1.2,h.1.2⟩
  ·exact KE h.2 (by omega) p ae
theorem KD {l:List dx}(h:kV l=0):hX 0 l=true:=by
 unfold kV at h;split at h
 ·omega
 ·split at h
  ·assumption
  ·omega
open Go.Proofs.Tryz
theorem ahW {i:gz}(G:i.py){t:Int}(e:Bool)(h0:0≤t):0≤tn i t e∧t-60≤tn i t e∧tn i t e≤t+60:=by
 rw[tn];split
 ·omega
 ·have hm:1≤i.ez∧i.ez≤60:=by unfold gz.py at G;omega
  have iz:0≤t / i.ez:=Int.ediv_nonneg h0 (by omega);have oe:0≤t / i.ez*i.ez:=Int.mul_nonneg iz (by omega);have jv:t / i.ez*i.ez≤t:=Int.ediv_mul_le _ (by omega);have kO:t < (t / i.ez+1)*i.ez:=Int.lt_ediv_add_one_mul_self _ (by omega);rw[Int.add_mul,Int.one_mul] at kO;split
  ·omega
  ·split<;>omega
def GD (Y:bs):Prop:=(Y.J=0∧Y.T=0)∨hz Y 0 120968640=true
theorem X9 (i:gz)(G:i.py)(Y:bs)(As:GD Y)(O:List dx)(jO:hX 0 O=true)(gm:O.length≤1024):aK prog 228 [.agg (aG.F i),.agg (aG.F Y),.pure 3 (ac O)] []
 (fun v rs=>v= .pure 2 (ac (kg i Y 0 O))∧rs= []):=by
 refine hr func228 adS (by simp[a228,vW]) ?_;have gV:=KE jO (by omega);simp only[go_sem,a228,vW,yR,eM]
 repeat (refine s.U ?_;simp only[go_sem])
 have TG: (!(Y.J==0&&Y.T==0))=true↔ ¬(Y.J=0∧Y.T=0):=by simp;omega
 generalize (!(Y.J==0&&Y.T==0))=sq at TG ⊢;refine gY (fun r d=> ∃ (c:Nat) (last:Int) (bq:List bs),c≤O.length∧kg i Y 0 O=bq++kg i Y last (O.drop c)∧0≤last∧last≤120968640∧bq.length≤c∧
  r= [(3,.aW 0 1 0 0),(4,.aW 1 1 0 0),(7,.own 2 bq.length 0 bq.length),(8,.bool sq),(9,.int .i64 last),(16,.pure 3 (ac O)),(17,.int .i64 O.length),(18,.int .i64 c)]∧
  d= [.aa 35 4 [[.int .i64 i.ez,.int .i64 i.kU,.int .i64 i.ll,.pure 2 (ac i.ij)]],.aa 64 2 [[.int .i64 Y.J,.int .i64 Y.T]],.aa 64 2 (ac bq)])
  (fun r _=>match bn r 18 with| .int _ j=>(O.length-j).toNat|_=>0) ?_ ?_
 ·(refine s.iI 7 64 2 rfl (s.eW [3,4,7,8,9,16,17,18] ?_);simp only[go_sem])
  exact s.U ⟨0,0,[],by omega,by simp,by omega,by omega,by simp,rfl,rfl⟩
 ·rintro r d ⟨c,last,bq,jY,ce,oe,jv,fd,rfl,rfl⟩;simp only[go_sem,a228,vW]
  (refine s.U ?_;simp only[go_sem])
  refine dg ?_ ?_<;>intro dL<;>simp only[bA] at dL<;>simp only[go_sem,a228,vW]
  ·have aC:c < O.length:=by omega
   have nk: (0:Int)≤c:=by omega
   have uC: (c:Int) < O.length:=by omega
   have eI: (ac O).getD c []= [.int .i64 O[c].J,.int .i64 O[c].T,.pure 2 (ac O[c].en)]:=by rw[cQ aC,GV]
   have ae:=gV _ (List.getElem_mem aC);have cW:=dr (c:=c) (by omega);rw[nM aC,kg] at ce;generalize O[c]=p at eI ae ce;obtain⟨g1,bM,dh⟩:=ahW G (t:=p.J) false (by omega);obtain⟨gC,tN,aI4⟩:=ahW G (t:=p.T) true (by omega);have aFo:=ahR i G p.J false (by omega) (by omega);have RM:=ahR i G p.T true (by omega) (by omega);generalize uE:tn i p.J false=zM at *;generalize yH:tn i p.T true=t0 at *
   (refine s.U ?_;simp only[go_sem])
   simp only[go_sem,nk,uC,eI]
   (refine s.U ?_;simp only[go_sem])
   refine jd aFo rfl rfl ?_;simp only[go_sem];refine jd RM rfl rfl ?_;simp only[go_sem]
   (refine s.U ?_;simp only[go_sem])
   cases sq with
   |false=>
    have B9:Y.J=0∧Y.T=0:=by simpa using TG
    try simp only[go_sem]
    repeat (refine s.U ?_;try simp only[go_sem])
    have gT:lJ i Y last p=⟨max zM last,min t0 120968640⟩:=by rw[lJ];simp[uE,yH,B9]
    rw[gT] at ce;simp only at ce
    repeat (refine s.U ?_;try simp only[go_sem])
    refine dg ?_ ?_<;>intro ck<;>simp only[bA] at ck<;>simp only[go_sem,a228,vW]
    ·rw[if_pos ck] at ce;refine⟨by omega,?_⟩
     (refine s.U ?_;simp only[go_sem])
     rw[cW]
     (refine s.bw [some 0,some 1,some 2] ?_;simp only[go_sem])
     refine s.U ⟨⟨c+1,_,bq++ [⟨max zM last,min t0 120968640⟩],by omega,by rw[ce,List.append_assoc];rfl,by omega,by omega,by simp;omega,by simp,by simp⟩,?_⟩;simp only[go_sem];omega
    ·rw[if_neg (by omega)] at ce
     (refine s.U ?_;simp only[go_sem])
     rw[cW]
     (refine s.bw [some 0,some 1,some 2] ?_;simp only[go_sem])
     refine s.U ⟨⟨c+1,_,bq,by omega,ce,by omega,by omega,by omega,rfl,rfl⟩,?_⟩;simp only[go_sem];omega
   |true=>
    have B9: ¬(Y.J=0∧Y.T=0):=TG.1 rfl;have aI5:0≤Y.J∧Y.J < Y.T∧Y.T≤120968640:=by
     rcases As with h|h
     ·exact absurd h B9
     ·simpa[hz] using h
    simp only[go_sem];refine bH (Mq p.J Y.J i.ll (by omega) (by omega)) rfl rfl ?_;have ahX:=Mq p.T Y.T i.ll (by omega) (by omega)
    by_cases E1:p.J-Y.J≤i.ll∧Y.J-p.J≤i.ll
    ·rw[decide_eq_true E1];simp only[go_sem]
     repeat (refine s.U ?_;try simp only[go_sem])
     refine bH ahX rfl rfl ?_
     by_cases xR:p.T-Y.T≤i.ll∧Y.T-p.T≤i.ll
     ·rw[decide_eq_true xR];simp only[go_sem];have gT:lJ i Y last p=⟨max Y.J last,min Y.T 120968640⟩:=by rw[lJ];simp[B9,E1,xR]
      rw[gT] at ce;simp only at ce
      repeat (refine s.U ?_;try simp only[go_sem])
      refine dg ?_ ?_<;>intro ck<;>simp only[bA] at ck<;>simp only[go_sem,a228,vW]
      ·rw[if_pos ck] at ce;refine⟨by omega,?_⟩
       (refine s.U ?_;simp only[go_sem])
       rw[cW]
       (refine s.bw [some 0,some 1,some 2] ?_;simp only[go_sem])
       refine s.U ⟨⟨c+1,_,bq++ [⟨max Y.J last,min Y.T 120968640⟩],by omega,by rw[ce,List.append_assoc];rfl,by omega,by omega,by simp;omega,by simp,by simp⟩,?_⟩;simp only[go_sem];omega
      ·rw[if_neg (by omega)] at ce
       (refine s.U ?_;simp only[go_sem])
       rw[cW]
       (refine s.bw [some 0,some 1,some 2] ?_;simp only[go_sem])
       refine s.U ⟨⟨c+1,_,bq,by omega,ce,by omega,by omega,by omega,rfl,rfl⟩,?_⟩;simp only[go_sem];omega
     ·rw[decide_eq_false xR];simp only[go_sem];have gT:lJ i Y last p=⟨max Y.J last,min t0 120968640⟩:=by rw[lJ];simp[B9,E1,xR,yH]
      rw[gT] at ce;simp only at ce
      repeat (refine s.U ?_;try simp only[go_sem])
      refine dg ?_ ?_<;>intro ck<;>simp only[bA] at ck<;>simp only[go_sem,a228,vW]
      ·rw[if_pos ck] at ce;refine⟨by omega,?_⟩
       (refine s.U ?_;simp only[go_sem])
       rw[cW]
       (refine s.bw [some 0,some 1,some 2] ?_;simp only[go_sem])
       refine s.U ⟨⟨c+1,_,bq++ [⟨max Y.J last,min t0 120968640⟩],by omega,by rw[ce,List.append_assoc];rfl,by omega,by omega,by simp;omega,by simp,by simp⟩,?_⟩;simp only[go_sem];omega
      ·rw[if_neg (by omega)] at ce
       (refine s.U ?_;simp only[go_sem])
       rw[cW]
       (refine s.bw [some 0,some 1,some 2] ?_;simp only[go_sem])
       refine s.U ⟨⟨c+1,_,bq,by omega,ce,by omega,by omega,by omega,rfl,rfl⟩,?_⟩;simp only[go_sem];omega
    ·rw[decide_eq_false E1];simp only[go_sem]
     repeat (refine s.U ?_;try simp only[go_sem])
     refine bH ahX rfl rfl ?_
     by_cases xR:p.T-Y.T≤i.ll∧Y.T-p.T≤i.ll
     ·rw[decide_eq_true xR];simp only[go_sem];have gT:lJ i Y last p=⟨max zM last,min Y.T 120968640⟩:=by rw[lJ];simp[B9,E1,xR,uE]
      rw[gT] at ce;simp only at ce
      repeat (refine s.U ?_;try simp only[go_sem])
      refine dg ?_ ?_<;>intro ck<;>simp only[bA] at ck<;>simp only[go_sem,a228,vW]
      ·rw[if_pos ck] at ce;refine⟨by omega,?_⟩
       (refine s.U ?_;simp only[go_sem])
       rw[cW]
       (refine s.bw [some 0,some 1,some 2] ?_;simp only[go_sem])
       refine s.U ⟨⟨c+1,_,bq++ [⟨max zM last,min Y.T 120968640⟩],by omega,by rw[ce,List.append_assoc];rfl,by omega,by omega,by simp;omega,by simp,by simp⟩,?_⟩;simp only[go_sem];omega
      ·rw[if_neg (by omega)] at ce
       (refine s.U ?_;simp only[go_sem])
       rw[cW]
       (refine s.bw [some 0,some 1,some 2] ?_;simp only[go_sem])
       refine s.U ⟨⟨c+1,_,bq,by omega,ce,by omega,by omega,by omega,rfl,rfl⟩,?_⟩;simp only[go_sem];omega
     ·rw[decide_eq_false xR];simp only[go_sem];have gT:lJ i Y last p=⟨max zM last,min t0 120968640⟩:=by rw[lJ];simp[B9,E1,xR,uE,yH]
      rw[gT] at ce;simp only at ce
      repeat (refine s.U ?_;try simp only[go_sem])
      refine dg ?_ ?_<;>intro ck<;>simp only[bA] at ck<;>simp only[go_sem,a228,vW]
      ·rw[if_pos ck] at ce;refine⟨by omega,?_⟩
       (refine s.U ?_;simp only[go_sem])
       rw[cW]
       (refine s.bw [some 0,some 1,some 2] ?_;simp only[go_sem])
       refine s.U ⟨⟨c+1,_,bq++ [⟨max zM last,min t0 120968640⟩],by omega,by rw[ce,List.append_assoc];rfl,by omega,by omega,by simp;omega,by simp,by simp⟩,?_⟩;simp only[go_sem];omega
      ·rw[if_neg (by omega)] at ce
       (refine s.U ?_;simp only[go_sem])
       rw[cW]
       (refine s.bw [some 0,some 1,some 2] ?_;simp only[go_sem])
       refine s.U ⟨⟨c+1,_,bq,by omega,ce,by omega,by omega,by omega,rfl,rfl⟩,?_⟩;simp only[go_sem];omega
  ·have uD:c=O.length:=by omega
   rw[uD,List.drop_length,kg,List.append_nil] at ce
   (refine s.kp [] [2] ?_;simp only[go_sem])
   (refine s.U ?_;simp only[go_sem])
   (refine s.U ?_;simp only[go_sem])
   refine s.U ⟨?_,rfl⟩;rw[ce];rfl
theorem GG {i:gz}{Y:bs}: ∀ {O:List dx} {last:Int},cV last 120968640 (kg i Y last O)=true
 | [],_=>rfl
 |p::O,last=>by
  have ih:=GG (i:=i) (Y:=Y) (O:=O) (last:=max last (lJ i Y last p).T);have h1:last≤(lJ i Y last p).J:=by simp only[lJ];omega
  have B: (lJ i Y last p).T≤120968640:=by simp only[lJ];omega
  rw[kg];split
  ·rw[cV,Bool.and_eq_true];exact⟨by simp only[hz,decide_eq_true_eq];omega,E0 ih (by omega)⟩
  ·exact E0 ih (by omega)
theorem xu: ∀ {l i:List bs} {e t aP:Int},cV e t l=true→cV t aP i=true→e≤t→t≤aP→cV e aP (l++i)=true
 | [],i,e,t,aP,_,h,he,_=>E0 h he
 |b::l,i,e,t,aP,h,B,he,hv=>by
  simp only[cV,hz,Bool.and_eq_true,decide_eq_true_eq] at h;rw[List.cons_append,cV,Bool.and_eq_true];exact⟨by simp only[hz,decide_eq_true_eq];omega,xu h.2 B (by omega) hv⟩
theorem G5: ∀ {O:List dx} {e:Int},hX e O=true→cV e 120968640 (ms O)=true
 | [],_,_=>rfl
 |p::O,e,h=>by
  simp only[hX,sN,hz,Bool.and_eq_true,decide_eq_true_eq] at h;have ih:=G5 h.2;show cV e 120968640 (p.en++ms O)=true;exact xu (t:=p.T) (E0 h.1.2 (by omega)) ih (by omega) (by omega)
theorem ahY: ∀ {O:List dx},(∀ p∈O,p.en.length≤1024)→(ms O).length≤1024*O.length
 | [],_=>by simp[ms]
 |p::O,h=>by
  have ih:=ahY (O:=O) (fun q aQ=>h q (by simp[aQ]));have ae:=h p (by simp);show (p.en++ms O).length≤_;rw[List.length_append,List.length_cons];omega
theorem KC {i:gz}(h:lK i=0):i.py∧kW (-1) 0 i.ij=true∧i.ij.length≤16:=by
 unfold lK at h;split at h
 ·omega
 ·split at h
  ·rename_i h1;exact⟨h1.1,h1.2,by omega⟩
  ·omega
theorem Q4 {i:gz}{Y:bs}{O:List dx}(h:pV i Y O=0):lK i=0∧GD Y∧kV O=0∧cR (kg i Y 0 O)≤100000:=by
 unfold pV at h;split at h
 ·omega
 ·rename_i h1;split at h
  ·omega
  ·rename_i B;split at h
   ·omega
   ·rename_i am;split at h
    ·omega
    ·refine⟨by omega,?_,by omega,by omega⟩;unfold GD
     by_cases aS:Y.J=0∧Y.T=0
     ·exact .inl aS
     ·right
      cases pW:hz Y 0 120968640
      ·exact absurd ⟨aS,pW⟩ B
      ·rfl
theorem atB (i:gz)(Y:bs)(bK ab:Int)(O:List dx)(h:pV i Y O=0):aK prog 156 [.agg (aG.F i),.agg (aG.F Y),.agg [.int .i64 bK,.int .i64 ab,.pure 3 (ac O)]] []
 (fun v rs=>v= .bg [.agg [.int .i64 ab,.pure 2 (ac (oh i Y O))],.int .i64 0]∧rs= []):=by
 obtain⟨h1,B,am,bp⟩:=Q4 h;obtain⟨xg,kB,pd⟩:=KC h1;have sJ:=KD am;have gV:=KE sJ (by omega);have cB:O.length≤1024:=by unfold kV at am;split at am<;>omega
 refine cr func156 Qd (by simp[DN,GF]) ?_;simp only[go_sem,DN,GF,yR,eM];refine bH (Qe i) rfl rfl ?_;rw[h1];simp only[go_sem];have hA:=X9 i xg Y B O sJ cB;have oG:=GG (i:=i) (Y:=Y) (O:=O) (last:=0);have DO:=Qf oG (by omega);have KF:=nd DO;have hv:=KG _ DO (by omega);have gU:=G5 sJ;have cL:=aFb O cB (fun p ae=>(gV p ae).2.2.2.1);have aI6:=ahY (O:=O) (fun p ae=>(gV p ae).2.2.2.1);have hW:=aFd _ _ DO bp gU (by omega);obtain⟨fC,D0⟩:=Q5 (i:= []) gU (by omega) DO (by simp[gn]);have cY:=aFj i.ij _ pd kB fC (by simp only[cR] at D0;omega);have mV:oh i Y O=if (lL (kg i Y 0 O) (ms O) []).isEmpty then [] else pi i.ij (uf (lL (kg i Y 0 O) (ms O) [])) (lL (kg i Y 0 O) (ms O) []):=rfl
 generalize kg i Y 0 O=bq at *;generalize ms O=Nq at *;generalize lL bq Nq []=aI7 at *;have aq:decide (100000 < cR bq)=false:=decide_eq_false (by omega)
 by_cases aS:Y.J=0∧Y.T=0
 ·have Z: (!(Y.J==0&&Y.T==0))=false:=by simp[aS.1,aS.2]
  simp only[go_sem,Z];refine bH (mY O (by omega)) rfl rfl ?_;rw[am];simp only[go_sem];refine bH hA rfl rfl ?_;simp only[go_sem];refine bH hv rfl rfl ?_;simp only[go_sem,aq];refine jd cL rfl rfl ?_;simp only[go_sem];refine jd hW rfl rfl ?_;simp only[go_sem];refine jd cY rfl rfl ?_;simp only[go_sem];exact s.bb rfl ⟨by rw[mV],rfl⟩
 ·have Z: (!(Y.J==0&&Y.T==0))=true:=by simp;omega
  have pW:hz ⟨Y.J,Y.T⟩ 0 120968640=true:=by rcases B with B|B;exact absurd B aS;exact B
  simp only[go_sem,Z];refine bH (Yb Y.J Y.T) rfl rfl ?_;rw[pW];simp only[go_sem];refine bH (mY O (by omega)) rfl rfl ?_;rw[am];simp only[go_sem];refine bH hA rfl rfl ?_;simp only[go_sem];refine bH hv rfl rfl ?_;simp only[go_sem,aq];refine jd cL rfl rfl ?_;simp only[go_sem];refine jd hW rfl rfl ?_;simp only[go_sem];refine jd cY rfl rfl ?_;simp only[go_sem];exact s.bb rfl ⟨by rw[mV],rfl⟩
end Go.Proofs.YtpincjkjoeopkaaGreatDoor.Pr
