/- Time evaluation. -/
import Derived.Test.YtpincjkjoeopkaaGreatDoorW15
import Derived.Test.YtpincjkjoeopkaaGreatDoorW4
import Derived.Shelf.Sort.Plain
import Derived.Shelf.Slices.In.SortNone
import Derived.Shelf.Slices.CompactI
import Derived.Lib.SlicesCompact
import Derived.Shelf.SlIterI.Sorted
import Derived.Shelf.SlIterI.Keys
set_option linter.all false
namespace Go.Proofs.YtpincjkjoeopkaaGreatDoor
open Go Go.Abs Go.Proofs.Tryz
structure sr where
 R:Int
 ab:Int
instance:aJ sr:=⟨fun a=> [.int .i64 a.R,.int .i64 a.ab],2,fun _=>rfl,fun _=>rfl,fun _=>rfl⟩
theorem zT (e:sr):aJ.J e= [.int .i64 e.R,.int .i64 e.ab]:=rfl
theorem auf:aJ.U sr=2:=rfl
theorem aug (e:sr):List.take 2 (aJ.J e)=aJ.J e:=rfl
attribute [go_sem] auf aug
theorem auh {bj:Type}[aJ bj]{l:List bj}{k:Nat}{u:bj}(h:l[k]? =some u): (ai l).getD k []=aJ.J u:=by
 rw[List.getD_eq_getElem?_getD];unfold ai;rw[List.getElem?_map,h];rfl
def yh (I:cw):Prop:=(0≤I.ah∧I.ah≤84005)∧(0≤I.bw∧I.bw < 1440)∧1≤I.cN∧I.cN≤1440
instance (I:cw):Decidable (yh I):=inferInstanceAs (Decidable ((0≤I.ah∧I.ah≤84005)∧(0≤I.bw∧I.bw < 1440)∧1≤I.cN∧I.cN≤1440))
def qB (M:cc)(I:cw):Int:=uY M (I.ah*1440+I.bw)
def ew (M:cc)(I:cw):Int:=if fe M=0 then if yh I then if qB M I+I.cN>120968640 then 2 else 0 else 2 else fe M
def fW (M:cc)(I:cw):sr:=if ew M I=0 then ⟨qB M I,qB M I+I.cN⟩ else ⟨0,0⟩
theorem YH (M:cc)(I:cw):aO prog 155 [M.v,.agg (aJ.J I)] [] (fun v rs=>v= .bo [.agg (aJ.J (fW M I)),.int .i64 (ew M I)]∧rs= []):=by
 have hV:=Ch M;refine cu func155 YI (by simp[zU,Cj]) ?_;have hF:=fun h: -1000000000≤I.ah*1440+I.bw=>atV M (I.ah*1440+I.bw) h
 by_cases h:fe M=0
 rotate_left
 ·have e:ew M I=fe M:=by unfold ew;rw[if_neg h]
  have bK:fW M I=⟨0,0⟩:=by unfold fW;rw[e,if_neg h]
  have cR: (fe M != 0)=true:=bne_iff_ne.2 h;rw[e,bK];unfold cc.v at *;simp only[go_sem,zU,Cj,uZ,zT];refine bM hV rfl rfl ?_;simp only[go_sem,cR];exact E.bg rfl ⟨rfl,rfl⟩
 by_cases ao:yh I
 rotate_left
 ·have e:ew M I=2:=by unfold ew;rw[if_pos h,if_neg ao]
  have bK:fW M I=⟨0,0⟩:=by unfold fW;rw[e,if_neg (by decide)]
  rw[e,bK];unfold cc.v at *;rw[h] at hV;unfold yh at ao;simp only[go_sem,zU,Cj,uZ,zT];refine bM hV rfl rfl ?_;simp only[go_sem,bne_self_eq_false];clear hF hV e bK
  repeat' ((first|refine gv ?_ ?_|refine gw ?_ ?_|refine cf ?_ ?_|refine dj ?_ ?_)<;>intro aw<;>(have ak:=aw;try simp only[bC] at ak)<;>(first|omega| (simp only[go_sem,aw,zU,Cj];clear aw)))
  all_goals exact E.bg rfl ⟨rfl,rfl⟩
 have af:=Yy (wv h) (I.ah*1440+I.bw);have xC:=ao;unfold yh at xC
 replace hF:=hF (by omega)
 rw[if_pos h] at hF;have d1:decide (I.ah < 0)=false:=decide_eq_false (by omega);have ky:decide (84005 < I.ah)=false:=decide_eq_false (by omega);have vZ:decide (I.bw < 0)=false:=decide_eq_false (by omega);have zC:decide (1440≤I.bw)=false:=decide_eq_false (by omega);have Hw:decide (I.cN < 1)=false:=decide_eq_false (by omega);have Hx:decide (1440 < I.cN)=false:=decide_eq_false (by omega);have dn:IntKind.i64.wrap (I.ah*1440)=I.ah*1440:=bl (by omega) (by omega);have gI:IntKind.i64.wrap (I.ah*1440+I.bw)=I.ah*1440+I.bw:=bl (by omega) (by omega);have ik:IntKind.i64.wrap (qB M I+I.cN)=qB M I+I.cN:=by unfold qB;exact bl (by omega) (by omega)
 by_cases ad:qB M I+I.cN>120968640
 ·have e:ew M I=2:=by unfold ew;rw[if_pos h,if_pos ao,if_pos ad]
  have bK:fW M I=⟨0,0⟩:=by unfold fW;rw[e,if_neg (by decide)]
  have kS:120968640 < qB M I+I.cN:=ad;rw[e,bK];unfold cc.v at *;rw[h] at hV;simp only[go_sem,zU,Cj,uZ,zT];refine bM hV rfl rfl ?_;simp only[go_sem,bne_self_eq_false,d1,ky,vZ,zC,Hw,Hx,dn,gI];refine bM hF rfl rfl ?_;rw[show uY M (I.ah*1440+I.bw)=qB M I from rfl];simp only[go_sem,ik,kS];exact E.bg rfl ⟨rfl,rfl⟩
 ·have e:ew M I=0:=by unfold ew;rw[if_pos h,if_pos ao,if_neg ad]
  have bK:fW M I=⟨qB M I,qB M I+I.cN⟩:=by unfold fW;rw[if_pos e]
  have kS:decide (120968640 < qB M I+I.cN)=false:=decide_eq_false ad;rw[e,bK];unfold cc.v at *;rw[h] at hV;simp only[go_sem,zU,Cj,uZ,zT];refine bM hV rfl rfl ?_;simp only[go_sem,bne_self_eq_false,d1,ky,vZ,zC,Hw,Hx,dn,gI];refine bM hF rfl rfl ?_;rw[show uY M (I.ah*1440+I.bw)=qB M I from rfl];simp only[go_sem,ik,kS,bne_self_eq_false];exact E.bg rfl ⟨rfl,rfl⟩
def ou (M:cc):Int→List cw→Int
 |_,[]=>0
 |e,I::bV=>if ew M I=0 then if (fW M I).R < e then 1 else ou M (fW M I).ab bV else ew M I
def jd (M:cc)(ae:List cw):Int:=if 1024 < ae.length then 3 else if fe M=0 then ou M 0 ae else fe M
theorem aui {M:cc}{e:Int}{l:List cw}{c:Nat}(h:c < l.length):ou M e (l.drop c)=if ew M l[c]=0 then if (fW M l[c]).R < e then 1 else ou M (fW M l[c]).ab (l.drop (c+1)) else ew M l[c]:=by
 rw[List.drop_eq_getElem_cons h,ou]
theorem QN {M:cc}{I:cw}(h:ew M I=0):0≤(fW M I).R∧(fW M I).R < (fW M I).ab∧(fW M I).ab≤120968640:=by
 unfold fW;rw[if_pos h];unfold ew at h
 by_cases ba:fe M=0
 rotate_left
 ·rw[if_neg ba] at h;exact absurd h ba
 rw[if_pos ba] at h
 by_cases ao:yh I
 rotate_left
 ·rw[if_neg ao] at h;exact absurd h (by decide)
 rw[if_pos ao] at h;have af:=Yy (wv ba) (I.ah*1440+I.bw);unfold yh at ao;split at h
 ·cases h
 ·unfold qB at *;simp only;omega
def zV (M:cc)(ae:List cw)(v:F)(rs:List Z):Prop:=
 if jd M ae=0 then v= .bo [.own 0 ae.length 0 ae.length,.int .i64 0]∧rs= [.ag 64 2 (ai (ae.map (fW M)))] else v= .bo [.bH,.int .i64 (jd M ae)]∧rs= []
theorem LH (M:cc)(ae:List cw)(hl:ae.length≤9223372036854775806):aO prog 143 [M.v,.pure 3 (ai ae)] [] (zV M ae):=by
 have hV:=Ch M;have du:=YH M;refine cu func143 YJ (by simp[EP,Hy]) ?_;unfold cc.v at *;simp only[go_sem,EP,Hy,bT]
 by_cases h1:1024 < ae.length
 ·have ii: (1024:Int) < ae.length:=by omega
  have e:jd M ae=3:=by unfold jd;rw[if_pos h1]
  simp only[go_sem,ii];exact E.bg rfl (by unfold zV;rw[e,if_neg (by decide)];exact⟨rfl,rfl⟩)
 have ii:decide ((1024:Int) < ae.length)=false:=decide_eq_false (by omega);simp only[go_sem,ii];refine bM hV rfl rfl ?_
 by_cases h:fe M=0
 rotate_left
 ·have cR: (fe M != 0)=true:=bne_iff_ne.2 h;have e:jd M ae=fe M:=by unfold jd;rw[if_neg h1,if_neg h]
  simp only[go_sem,cR];exact E.bg rfl (by unfold zV;rw[e,if_neg h];exact⟨rfl,rfl⟩)
 have e:jd M ae=ou M 0 ae:=by unfold jd;rw[if_neg h1,if_pos h]
 rw[h];simp only[go_sem,bne_self_eq_false];refine dN (fun D r=> ∃ (c:Nat) (e:Int),c≤ae.length∧(c=0→e=0)∧(∀ k,c=k+1→((ae.take c).map (fW M))[k]?.map sr.ab=some e)∧ou M 0 ae=ou M e (ae.drop c)∧D= [(2,.bd 0 1 0 0),(7,.own 1 c 0 c),(20,.pure 3 (ai ae)),(21,.int .i64 ae.length),(22,.int .i64 c)]∧r= [.ag 32 2 [[.int .i64 M.off,.pure 2 (ai M.cS)]],.ag 64 2 (ai ((ae.take c).map (fW M)))])
  (fun D _=>match bs D 22 with| .int _ j=>(ae.length-j).toNat|_=>0) ?_ ?_
 ·(refine E.iv 7 64 2 rfl (E.eW [2,7,20,21,22] ?_);simp only[go_sem])
  exact E.ac ⟨0,0,by omega,fun _=>rfl,fun k O=>by omega,rfl,rfl,rfl⟩
 rintro D r ⟨c,x,av,auj,QO,ay,rfl,rfl⟩;have aP:=dB (c:=c) (by omega);have hL: (ai ((ae.take c).map (fW M))).length=c:=by rw[bT,List.length_map,List.length_take];omega
 by_cases aI:c < ae.length
 rotate_left
 ·have h1:decide ((c:Int) < ae.length)=false:=decide_eq_false (by omega);obtain rfl:c=ae.length:=by omega
  simp only[go_sem,EP,Hy,h1]
  (refine E.bB [some 1] ?_;simp only[go_sem])
  rw[List.drop_length,ou] at ay;refine E.ac ?_;unfold xP zV;rw[e,if_pos ay];try rw[List.take_length]
  exact⟨rfl,rfl⟩
 have h1:decide ((c:Int) < ae.length)=true:=decide_eq_true (by omega);have z0: (0:Int)≤c:=by omega
 have mn: (c:Int) < ae.length:=by omega
 have aw: (ai ae).getD c []=aJ.J ae[c]:=cT aI;rw[aui aI] at ay;have qC:ai ((ae.take c).map (fW M))++ [aJ.J (fW M ae[c])]=ai ((ae.take (c+1)).map (fW M)):=by
  rw[kT,List.take_succ_eq_append_getElem aI,List.map_append];rfl
 have YK: ((ae.take (c+1)).map (fW M))[c]? =some (fW M ae[c]):=by
  rw[List.getElem?_map,List.getElem?_take,if_pos (by omega),List.getElem?_eq_getElem aI];rfl
 have YL:=du ae[c];have so:=QN (M:=M) (I:=ae[c]);generalize qs:ae[c]=I at *;generalize aJD:fW M I=v at *;rw[zT] at qC YL;simp only[go_sem,EP,Hy,h1,z0,mn,aw,bT,uZ];refine bM YL rfl rfl ?_
 by_cases he:ew M I=0
 rotate_left
 ·have cR: (ew M I != 0)=true:=bne_iff_ne.2 he;rw[if_neg he] at ay;simp only[go_sem,cR];refine E.bg rfl ?_;unfold zV;rw[e,ay,if_neg he];exact⟨rfl,rfl⟩
 rw[if_pos he] at ay;rw[he];simp only[go_sem,bne_self_eq_false];cases c with
 |zero=>
  obtain rfl:x=0:=auj rfl;rw[if_neg (by have:=so he;omega)] at ay;have ak:decide ((0:Int) < ((0:Nat):Int))=false:=rfl;have auk:ai ([]:List sr)++ [[.int .i64 v.R,.int .i64 v.ab]]=ai ((ae.take (0+1)).map (fW M)):=qC;have aul:IntKind.i64.wrap (0+1)=((0+1:Nat):Int):=aP;simp only[go_sem,ak,hL,auk,aul]
  (refine E.bB [some 0,some 1] ?_;simp only[go_sem])
  refine E.ac ⟨⟨0+1,v.ab,by omega,fun h=>by omega,fun k O=> ?_,ay,rfl,?_⟩,?_⟩
  ·obtain rfl:k=0:=by omega
   rw[YK];rfl
  ·rfl
  ·simp only[go_sem];omega
 |succ k=>
  have ak:decide ((0:Int) < ((k+1:Nat):Int))=true:=decide_eq_true (by omega);have dn:IntKind.i64.wrap (((k+1:Nat):Int)-1)=(k:Int):=by rw[bl (by omega) (by omega)];omega
  obtain⟨u,bc,rfl⟩: ∃ u,((ae.take (k+1)).map (fW M))[k]? =some u∧u.ab=x:=by
   have h:=QO k rfl;rw[Option.map_eq_some_iff] at h;exact h
  have aum:=auh bc;simp only[go_sem,ak,hL,dn];refine⟨by omega,by omega,?_⟩;simp only[go_sem,aum,zT]
  by_cases ad:v.R < u.ab
  ·rw[if_pos ad] at ay;simp only[go_sem,ad];refine E.bg rfl ?_;unfold zV;rw[e,ay,if_neg (by decide)];exact⟨rfl,rfl⟩
  ·rw[if_neg ad] at ay;have kS:decide (v.R < u.ab)=false:=decide_eq_false ad;simp only[go_sem,kS,hL,qC,aP];refine⟨by omega,?_⟩
   (refine E.bB [some 0,some 1] ?_;simp only[go_sem])
   refine E.ac ⟨⟨k+1+1,v.ab,by omega,fun h=>by omega,fun q aV=> ?_,ay,rfl,rfl⟩,?_⟩
   ·obtain rfl:q=k+1:=by omega
    rw[YK];rfl
   ·simp only[go_sem];omega
theorem YM {M:cc}{ae:List cw}(h:jd M ae=0):ae.length≤1024:=by
 unfold jd at h;split at h
 ·cases h
 ·omega
theorem aun {M:cc}{ae:List cw}(h:jd M ae=0):fe M=0:=by
 unfold jd at h;split at h
 ·cases h
 split at h
 ·assumption
 ·rename_i G;exact absurd h G
theorem YN {M:cc}: ∀ {l:List cw} {e:Int},ou M e l=0→ ∀ I∈l,ew M I=0
 | [],_,_,I,ao=>by simp at ao
 |x::l,e,h,I,ao=>by
  rw[ou] at h
  by_cases aj:ew M x=0
  ·rw[if_pos aj] at h;split at h
   ·cases h
   ·rcases List.mem_cons.1 ao with rfl|ao
    ·exact aj
    ·exact YN h I ao
  ·rw[if_neg aj] at h;exact absurd h aj
theorem QP {M:cc}{ae:List cw}(h:jd M ae=0): ∀ I∈ae,ew M I=0:=by
 unfold jd at h;split at h
 ·cases h
 split at h
 ·exact YN h
 ·rename_i G;exact absurd h G
theorem auo (M:cc)(ae:List cw)(hl:ae.length≤9223372036854775806):aO prog 66 [M.v,.pure 3 (ai ae)] [] (fun v rs=>v= .int .i64 (jd M ae)∧rs= []):=by
 have du:=LH M ae hl;refine cu func66 YO (by simp[a66,QQ]) ?_;unfold cc.v at *;simp only[go_sem,a66,QQ];refine om [] [] (by simp) rfl (qw _ (by first|rfl|simp only[go_sem,ck])) du ?_;rintro v rs aV;unfold zV at aV;refine⟨.inl rfl,?_⟩
 by_cases h:jd M ae=0
 ·rw[if_pos h] at aV;obtain⟨rfl,rfl⟩:=aV;simp only[go_sem];rw[h];exact E.bg rfl ⟨rfl,rfl⟩
 ·rw[if_neg h] at aV;obtain⟨rfl,rfl⟩:=aV;simp only[go_sem];exact E.bg rfl ⟨rfl,rfl⟩
def tB (b e l:Int):Nat→List sr→Int×Int→Int×Int
 |_,[],a=>a
 |c,v::vs,a=>tB b e l (c+1) vs (if ((-e≤b-v.R∧b-v.R≤l)∨(0≤b-v.R∧b < v.ab))∧(a.1 < 0∨max (b-v.R) (-(b-v.R)) < a.2) then ((c:Int),max (b-v.R) (-(b-v.R))) else a)
theorem aup {b e l:Int}{vs:List sr}{c:Nat}{a:Int×Int}(h:c < vs.length):tB b e l c (vs.drop c) a=tB b e l (c+1) (vs.drop (c+1)) (if ((-e≤b-vs[c].R∧b-vs[c].R≤l)∨(0≤b-vs[c].R∧b < vs[c].ab))∧(a.1 < 0∨max (b-vs[c].R) (-(b-vs[c].R)) < a.2) then ((c:Int),max (b-vs[c].R) (-(b-vs[c].R))) else a):=by
 rw[List.drop_eq_getElem_cons h,tB]
theorem QR {b e l:Int}: ∀ {vs:List sr} {c:Nat} {a:Int×Int},-1≤a.1→a.1 < c→ -1≤(tB b e l c vs a).1∧(tB b e l c vs a).1 < c+vs.length
 | [],c,a,h0,h1=>by rw[tB];simp;omega
 |v::vs,c,a,h0,h1=>by
  rw[tB,List.length_cons];split
  ·have:=QR (b:=b) (e:=e) (l:=l) (vs:=vs) (c:=c+1) (a:=((c:Int),max (b-v.R) (-(b-v.R)))) (by simp only;omega) (by simp only;omega);omega
  ·have:=QR (b:=b) (e:=e) (l:=l) (vs:=vs) (c:=c+1) (a:=a) h0 (by omega);omega
def bel (b e l:Int)(vs:List sr):Int:=(tB b e l 0 vs (-1,0)).1
theorem YP (b e l:Int)(vs:List sr): -1≤bel b e l vs∧bel b e l vs < vs.length:=by
 have:=QR (b:=b) (e:=e) (l:=l) (vs:=vs) (c:=0) (a:=(-1,0)) (by decide) (by decide);unfold bel;omega
theorem auq (vs:List sr)(hl:vs.length≤1024)(an: ∀ v∈vs,0≤v.R∧v.R≤120968640)(b e l:Int)(af:0≤b∧b≤120968640)(he:0≤e∧e≤1440):aO prog 153 [.pure 2 (ai vs),.int .i64 b,.int .i64 e,.int .i64 l] [] (fun v rs=>v= .int .i64 (bel b e l vs)∧rs= []):=by
 refine cu func153 YQ (by simp[EQ,Hz]) ?_;simp only[go_sem,EQ,Hz,bT]
 try rw[show Int.negSucc 0= -1 from rfl]
 refine dN (fun D r=> ∃ (c:Nat) (a0 cH:Int),c≤vs.length∧ -1≤a0∧a0 < c∧tB b e l 0 vs (-1,0)=tB b e l c (vs.drop c) (a0,cH)∧D= [(1,.int .i64 b),(2,.int .i64 e),(3,.int .i64 l),(9,.int .i64 a0),(10,.int .i64 cH),(16,.pure 2 (ai vs)),(17,.int .i64 vs.length),(18,.int .i64 c)]∧r= [])
  (fun D _=>match bs D 18 with| .int _ j=>(vs.length-j).toNat|_=>0) ?_ ?_
 ·exact E.ac ⟨0,-1,0,by omega,by omega,by omega,rfl,rfl,rfl⟩
 rintro D r ⟨c,a0,cH,av,YR,BT,ay,rfl,rfl⟩;have aP:=dB (c:=c) (by omega)
 by_cases aI:c < vs.length
 rotate_left
 ·have h1:decide ((c:Int) < vs.length)=false:=decide_eq_false (by omega);obtain rfl:c=vs.length:=by omega
  simp only[go_sem,EQ,Hz,h1];rw[List.drop_length,tB] at ay;exact E.bg rfl ⟨by unfold bel;rw[ay],rfl⟩
 have h1:decide ((c:Int) < vs.length)=true:=decide_eq_true (by omega);have z0: (0:Int)≤c:=by omega
 have mn: (c:Int) < vs.length:=by omega
 have aw: (ai vs).getD c []=aJ.J vs[c]:=cT aI;rw[aup aI] at ay;have LI:=an vs[c] (List.getElem_mem aI);generalize vs[c]=v at *;obtain⟨aD,fC⟩: ∃ aD,aD=b-v.R:=⟨_,rfl⟩;rw[←fC] at ay;have dn:IntKind.i64.wrap (b-v.R)=aD:=by rw[bl (by omega) (by omega),fC]
 have gI:IntKind.i64.wrap (0-e)= -e:=by rw[bl (by omega) (by omega)];omega
 have ik:IntKind.i64.wrap (0-aD)= -aD:=by rw[bl (by omega) (by omega)];omega
 simp only[go_sem,EQ,Hz,h1,z0,mn,aw,bT,zT,dn,gI,ik]
 by_cases c1: (-e≤aD∧aD≤l)∨(0≤aD∧b < v.ab)
 ·by_cases c2:a0 < 0∨max aD (-aD) < cH
  ·rw[if_pos ⟨c1,c2⟩] at ay
   repeat' ((first|refine gv ?_ ?_|refine gw ?_ ?_|refine cf ?_ ?_|refine dj ?_ ?_)<;>intro aw<;>(have ak:=aw;try simp only[bC] at ak)<;>(first|omega| (simp only[go_sem,aw,aP,dn,gI,ik];clear aw)))
   all_goals ((refine E.bB [] ?_;simp only[go_sem]);refine E.ac ⟨⟨c+1,c,max aD (-aD),by omega,by omega,by omega,ay,rfl,rfl⟩,?_⟩;simp only[go_sem];omega)
  ·rw[if_neg (fun h=>c2 h.2)] at ay
   repeat' ((first|refine gv ?_ ?_|refine gw ?_ ?_|refine cf ?_ ?_|refine dj ?_ ?_)<;>intro aw<;>(have ak:=aw;try simp only[bC] at ak)<;>(first|omega| (simp only[go_sem,aw,aP,dn,gI,ik];clear aw)))
   all_goals ((refine E.bB [] ?_;simp only[go_sem]);refine E.ac ⟨⟨c+1,a0,cH,by omega,by omega,by omega,ay,rfl,rfl⟩,?_⟩;simp only[go_sem];omega)
 ·rw[if_neg (fun h=>c1 h.1)] at ay
  repeat' ((first|refine gv ?_ ?_|refine gw ?_ ?_|refine cf ?_ ?_|refine dj ?_ ?_)<;>intro aw<;>(have ak:=aw;try simp only[bC] at ak)<;>(first|omega| (simp only[go_sem,aw,aP,dn,gI,ik];clear aw)))
  all_goals ((refine E.bB [] ?_;simp only[go_sem]);refine E.ac ⟨⟨c+1,a0,cH,by omega,by omega,by omega,ay,rfl,rfl⟩,?_⟩;simp only[go_sem];omega)
open Go.RowKit (Below)
def auI:Go.Shelf.Ren:=
 {f:=fun x=>match x with|189=>127|125=>158|257=>211|128=>241|129=>242|294=>263|295=>264|296=>265|297=>266|298=>267|299=>268|216=>269|300=>270|301=>271|328=>333|329=>290|330=>291|331=>334|332=>335|215=>159|343=>357|n=>n,
  t:=fun x=>match x with|28=>47|3=>3|46=>284|0=>0|51=>347|53=>349|4=>4|183=>341|182=>340|131=>206|5=>5|9=>9|218=>376|222=>380|228=>412|229=>308|n=>n,
  g:=fun n=>n}
set_option maxRecDepth 100000 in
theorem LJ:Lays.n189 prog auI where
 mixed:=by kernel_rfl
 f125:=Eq.trans func158 (congrArg some (by kernel_rfl))
 f128:=Eq.trans func241 (congrArg some (by kernel_rfl))
 f129:=Eq.trans func242 (congrArg some (by kernel_rfl))
 f189:=Eq.trans func127 (congrArg some (by kernel_rfl))
 f215:=Eq.trans func159 (congrArg some (by kernel_rfl))
 f216:=Eq.trans func269 (congrArg some (by kernel_rfl))
 f257:=Eq.trans func211 (congrArg some (by kernel_rfl))
 f294:=Eq.trans func263 (congrArg some (by kernel_rfl))
 f295:=Eq.trans func264 (congrArg some (by kernel_rfl))
 f296:=Eq.trans func265 (congrArg some (by kernel_rfl))
 f297:=Eq.trans func266 (congrArg some (by kernel_rfl))
 f298:=Eq.trans func267 (congrArg some (by kernel_rfl))
 f299:=Eq.trans func268 (congrArg some (by kernel_rfl))
 f300:=Eq.trans func270 (congrArg some (by kernel_rfl))
 f301:=Eq.trans func271 (congrArg some (by kernel_rfl))
 f328:=Eq.trans func333 (congrArg some (by kernel_rfl))
 f329:=Eq.trans func290 (congrArg some (by kernel_rfl))
 f330:=Eq.trans func291 (congrArg some (by kernel_rfl))
 f331:=Eq.trans func334 (congrArg some (by kernel_rfl))
 f332:=Eq.trans func335 (congrArg some (by kernel_rfl))
 f343:=Eq.trans func357 (congrArg some (by kernel_rfl))
 t0:=underlying0
 a0:=isAgg0
 z0:=sizeOf0
 v0:=zeroValue0
 t3:=underlying3
 a3:=isAgg3
 z3:=sizeOf3
 v3:=zeroValue3
 t4:=underlying4
 a4:=isAgg4
 z4:=sizeOf4
 v4:=zeroValue4
 t5:=underlying5
 a5:=isAgg5
 z5:=sizeOf5
 v5:=zeroValue5
 t9:=underlying9
 a9:=isAgg9
 z9:=sizeOf9
 v9:=zeroValue9
 t28:=underlying47
 a28:=isAgg47
 z28:=sizeOf47
 v28:=zeroValue47
 t46:=underlying284
 a46:=isAgg284
 z46:=sizeOf284
 v46:=zeroValue284
 t51:=underlying347
 a51:=isAgg347
 z51:=sizeOf347
 v51:=zeroValue347
 t53:=underlying349
 a53:=isAgg349
 z53:=sizeOf349
 v53:=zeroValue349
 t131:=underlying206
 a131:=isAgg206
 z131:=sizeOf206
 v131:=zeroValue206
 t182:=underlying340
 a182:=isAgg340
 z182:=sizeOf340
 v182:=zeroValue340
 t183:=underlying341
 a183:=isAgg341
 z183:=sizeOf341
 v183:=zeroValue341
 t218:=underlying376
 a218:=isAgg376
 z218:=sizeOf376
 v218:=zeroValue376
 t222:=underlying380
 a222:=isAgg380
 z222:=sizeOf380
 v222:=zeroValue380
 t228:=underlying412
 a228:=isAgg412
 z228:=sizeOf412
 v228:=zeroValue412
 t229:=underlying308
 a229:=isAgg308
 z229:=sizeOf308
 v229:=zeroValue308
def fq (ce:List Int):List Int:=ce.mergeSort fun x d=>decide (x≤d)
theorem zY (ce:List Int): (fq ce).length=ce.length:=by unfold fq;exact List.length_mergeSort ce
open Go.Maps
def abv:Go.Shelf.Ren:=
 {f:=fun x=>match x with|6=>47|8=>126|9=>127|11=>210|13=>158|12=>211|23=>241|24=>242|14=>263|15=>264|16=>265|17=>266|18=>267|19=>268|20=>269|21=>270|22=>271|25=>333|26=>290|27=>291|28=>334|29=>335|30=>159|31=>357|n=>n,
  t:=fun x=>match x with|26=>3|28=>125|24=>47|0=>0|3=>3|37=>284|48=>347|50=>349|4=>4|40=>341|39=>340|45=>206|5=>5|9=>9|51=>376|55=>380|57=>412|58=>308|33=>244|n=>n,
  g:=fun n=>n}
set_option maxRecDepth 100000 in
theorem Sr:SlLaysZI.n6 prog abv where
 mixed:=by kernel_rfl
 f6:=⟨"slices.Sorted[int]",by decide,Eq.trans func47 (congrArg some (by kernel_rfl))⟩
 f8:=⟨"slices.Collect[int]",by decide,Eq.trans func126 (congrArg some (by kernel_rfl))⟩
 f11:=⟨"slices.AppendSeq[[]int,int]",by decide,Eq.trans func210 (congrArg some (by kernel_rfl))⟩
 t0:=underlying0
 a0:=isAgg0
 z0:=sizeOf0
 v0:=zeroValue0
 t24:=underlying47
 a24:=isAgg47
 z24:=sizeOf47
 v24:=zeroValue47
 t26:=underlying3
 a26:=isAgg3
 z26:=sizeOf3
 v26:=zeroValue3
 t28:=underlying125
 a28:=isAgg125
 z28:=sizeOf125
 v28:=zeroValue125
 i26:=by kernel_rfl
theorem My {C:bD}{b:Nat}: ∀ (ce:List Int) (o:Nat),(∀ c (h:c < ce.length),C.w.cell? ⟨b,o+c,none⟩=some (.int .i64 ce[c]))→dh C b o 1 (cJ .i64 ce)
 | [],o,_=>by simp[cJ,dh]
 |M::ce,o,h=>by
  rw[cJ,List.map_cons,dh];refine⟨rfl,?_,My ce (o+1) fun c av=> ?_⟩
  ·rw[dC];refine⟨⟨.int .i64 M,h 0 (Nat.zero_lt_succ _),rfl,by rw[Rep]⟩,by rw[dC];trivial⟩
  ·have:=h (c+1) (by simpa using av);rw[show o+1+c=o+(c+1) by omega];simpa using this
theorem BZ {C:bD}: ∀ {ce:List Int} {vs:List Value},aE C (ce.map (F.int .i64 ·)) vs→vs=ce.map (Value.int .i64 ·)
 | [],vs,h=>by simpa[aE] using h
 |M::ce,vs,h=>by
  rw[List.map_cons,aE] at h;obtain⟨v,bS,rfl,an,N⟩:=h;rw[Rep] at an;rw[List.map_cons,←BZ N,an]
theorem Ss (m:Nat):AnyZI.SortsIn prog abv Fence.wide m:=
 ⟨fun oq off cap bV W uQ vL dJ=>callsIn_wide.2 (Any.slices_Sort_int LJ oq off cap bV W uQ vL dJ),
  fun p cap W=>callsIn_wide.2 (calls_of_every_depth fun aD=>AnyS.slices_Sort_int_none_in LJ aD p cap W)⟩
def Su:Value→Int
 | .int _ M=>M
 |_=>0
def abw:Go.Shelf.Ren:=
 {f:=fun x=>match x with|7=>48|10=>128|n=>n,
  t:=fun x=>match x with|23=>116|26=>3|3=>76|28=>125|0=>0|27=>124|33=>244|4=>4|n=>n,
  g:=fun n=>n}
set_option maxRecDepth 100000 in
theorem axw:SlLaysZI.n7 prog abw where
 mixed:=by kernel_rfl
 f7:=⟨"maps.Keys[map[int]payroll/api.DayResult,int,payroll/api.DayResult]",by decide,Eq.trans func48 (congrArg some (by kernel_rfl))⟩
 f10:=⟨"maps.Keys[map[int]payroll/api.DayResult,int,payroll/api.DayResult]$1",by decide,Eq.trans func128 (congrArg some (by kernel_rfl))⟩
 t0:=underlying0
 a0:=isAgg0
 z0:=sizeOf0
 v0:=zeroValue0
 t4:=underlying4
 a4:=isAgg4
 z4:=sizeOf4
 v4:=zeroValue4
 t23:=underlying116
 a23:=isAgg116
 z23:=sizeOf116
 v23:=zeroValue116
 t26:=underlying3
 a26:=isAgg3
 z26:=sizeOf3
 v26:=zeroValue3
 t27:=underlying124
 a27:=isAgg124
 z27:=sizeOf124
 v27:=zeroValue124
 t28:=underlying125
 a28:=isAgg125
 z28:=sizeOf125
 v28:=zeroValue125
 t33:=underlying244
 a33:=isAgg244
 z33:=sizeOf244
 v33:=zeroValue244
theorem aba {r:List Z}{a b:Nat}{aW:TypeId}{s:List (F×F)}{Y:List Int}(aC:r[a]? =some (.be (.map false [.int .i64] s)))(af:r[b]? =some (.ag aW 1 [[.bE a]]))(O:s.map (·.1)=Y.map (F.int .i64 ·))(ss:Y.Nodup)(ki: ∀ x∈Y,(Lit.int .i64 x).wf=true)(cK:Y.length≤1000000):
 aO prog 47 [.fn 128 [.bd b 1 0 0]] r
  (fun v rs=>v= .pure 1 (cJ .i64 (fq Y))∧rs=r):=by
 refine aO.P5 (fun h=>h) ?_;intro C dA N aA hG dv;have iV:C.r[a]? =some (.be (.map false [.int .i64] s)):=by rw[N];exact aC
 have jS:C.r[b]? =some (.ag aW 1 [[.bE a]]):=by rw[N];exact af
 rw[aE] at dv;obtain⟨v0,bS,rfl,an,aH⟩:=dv;rw[aE] at aH;subst aH;rw[Rep] at an;obtain⟨vs,rfl,kU⟩:=an;rw[aE] at kU;obtain⟨RX,bS,Cz,ak,aH⟩:=kU;rw[aE] at aH;subst aH;rw[Rep] at ak;obtain⟨hC,_,_,hall⟩:=ak;obtain⟨_,G⟩:=hall _ _ _ jS;obtain⟨_,Bm,J,rl,rfl⟩:=G rfl;obtain rfl:vs= #[.pointer (some ⟨Bm,0,none⟩)]:=by
  apply Array.toList_inj.1;rw[Cz]
 rcases aA.ag jS with ⟨_,qo⟩|⟨b1,cap,ap,iK,zG,nE,eK,vK,eA,dp⟩
 ·cases qo
 rw[rl] at iK;simp only[Option.some.injEq,Prod.mk.injEq] at iK;obtain⟨rfl,rfl⟩:=iK;rw[dh,dC] at dp;obtain⟨⟨RY,nw,_,kD⟩,_⟩:=dp.2.1;rw[Rep] at kD;obtain⟨_,_,_,kD⟩:=kD;obtain⟨b0,c0,CA,rfl⟩:=kD _ iV;have mr:=aA.r _ _ iV;rw[dQ] at mr;obtain⟨RZ,R0,ar,qK,R1,lZ,sb,xq,Gh,Gi⟩:=mr;rw[CA] at qK;simp only[Option.some.injEq,Prod.mk.injEq] at qK;obtain⟨rfl,rfl⟩:=qK;have gO:ar.toList.map (·.key)=Y.map (Value.int .i64 ·):=BZ (by rw[←O];exact xq);have dJ:ar.size=Y.length:=by
  have:=congrArg List.length gO;simpa using this
 let aF:Value→Option (DataW Unit×List MemPlace):=fun _=>some (.nil,[])
 have Io:prog.underlying 3=some (.int .i64):=underlying3;have tP: ∀ x∈ar.toList,∃ M:Int,x.key= .int .i64 M∧M∈Y∧Go.WideElems.rd prog 3 aF x=some (.int .i64 M,.nil):=by
  intro x aj;have:x.key∈Y.map (Value.int .i64 ·):=by rw[←gO];exact List.mem_map_of_mem aj
  obtain⟨M,ba,sD⟩:=List.mem_map.1 this;refine⟨M,sD.symm,ba,?_⟩;unfold Go.WideElems.rd;rw[←sD,keyOf_int_mk Io (ki M ba)];rfl
 have uA:Go.WideElems.Fit prog 3 aF ar ar.size:=by
  refine⟨by rw[dJ];unfold maxLen;omega,⟨fun x aj=> ?_,?_,?_⟩,fun x aj=> ?_⟩
  ·obtain⟨c,av,rfl⟩:=List.getElem_of_mem aj;have:=sb c _ (by rw[←Array.getElem?_toList,List.getElem?_eq_getElem av]);rw[this];simpa using av
  ·have:ar.toList.map (·.born)=List.range ar.size:=by
    refine List.ext_getElem? fun c=> ?_
    by_cases av:c < ar.size
    ·rw[List.getElem?_map,Array.getElem?_toList,Array.getElem?_eq_getElem av,List.getElem?_range av];simp[sb c _ (Array.getElem?_eq_getElem av)]
    ·rw[List.getElem?_eq_none (by simp;omega),List.getElem?_eq_none (by simp;omega)]
   rw[this];exact List.nodup_range
  ·rw[gO];exact List.pairwise_map.2 (ss.imp fun h e=>h (by simpa using e))
  ·obtain⟨M,_,_,h⟩:=tP x aj;exact⟨_,h⟩
 let el:=ar.toList.map (Go.WideElems.rg prog 3 aF)
 let aD:DataW Unit:= .map (el.foldr DataW.insert [])
 have pK:C.w.ownsMap prog 3 aF b0 ar.size aD:=⟨ar,ar.size,lZ,uA,Nat.le_refl _,rfl⟩;have wF:el.map (fun p=>Go.intOf p.1)=Y:=by
  have: ∀ x∈ar.toList,((fun p:Lit×DataW Unit=>Go.intOf p.1)∘Go.WideElems.rg prog 3 aF) x=(Su∘fun x:MapEntry=>x.key) x:=by
   intro x aj;obtain⟨M,h1,_,G⟩:=tP x aj;simp only[Function.comp_apply];rw[Go.WideElems.rg_of G,h1];rfl
  show List.map _ (List.map _ ar.toList)=Y;rw[List.map_map,List.map_congr_left this,←List.map_map,gO,List.map_map];exact List.map_id' Y
 have kV: (intKeys aD).Perm Y:=by
  rw[←wF];exact (Go.WideShapes.sorted_perm el).map _
 have fS:Maps.size aD=Y.length:=by
  show (el.foldr DataW.insert []).length=_;rw[length_sorted,List.length_map,Array.length_toList,dJ]
 have vf:SeqGives Fence.wide 2 prog 128 #[.pointer (some ⟨Bm,0,none⟩)] encZ (fun bV:List Int=>bV.Perm (intKeys aD)) (Maps.size aD) C.w:=
  AnyZI.keys_gives (ρ:=abw) {axw with} Fence.wide _ trivial rfl (by omega) Bm b0 ar.size aD C.w (Array.getElem?_eq_some_iff.1 nE).1 nw pK
 have CB:=AnyZI.sorted_in Sr Fence.wide 5 trivial trivial trivial trivial rfl (by omega) (Ss _) (enters_of func127 (by kernel_rfl) rfl) 128 #[.pointer (some ⟨Bm,0,none⟩)] trivial (enters_of func128 (by kernel_rfl) rfl) _ _ (by rw[fS];unfold maxLen;omega) (by rw[fS];omega) _ vf;refine (callsIn_wide.1 CB).mono ?_;rintro e w' ⟨v,bV,rfl,du,y,iW,af⟩;have CC: (bV.mergeSort leI)=fq Y:=mergeSort_of_perm_i (du.trans kV);have fF:bV.length=(fq Y).length:=by rw[zY];exact (du.trans kV).length_eq
 refine⟨v,_,rfl,af,fun Dp=> ?_,rfl,by rw[←N]⟩;rw[Rep];rcases y.2 with ⟨rfl,ba⟩|⟨g,cap,oZ,rfl,Mz,ve,r1,cY,fY,fc⟩
 ·exact⟨none,0,by rw[mV,←fF,ba],by rw[mV,←fF,ba];exact Nat.le_refl _,.inl (by rw[mV,←fF,ba])⟩
 ·refine⟨_,cap,by rw[mV,←fF],by rw[mV,←fF];exact r1,.inr ⟨g,0,rfl,⟨(Array.getElem?_eq_some_iff.1 ve).1,fun bp=> ?_,fun z J h=> ?_⟩,?_⟩⟩
  ·have:=aA.bY _ bp;omega
  ·have:=aA.lt h;omega
  ·refine My (C:=bD.p _) _ _ fun c av=> ?_;have h1: (oZ.toList.take (bV.length*1))[c]? =((bV.mergeSort leI).map encZ)[c]? :=by rw[fc]
   rw[List.getElem?_take_of_lt (by rw[Nat.mul_one,fF];exact av),List.getElem?_map,CC,List.getElem?_eq_getElem av,Array.getElem?_toList] at h1;show World.cell? w' _=_;simp only[World.cell?,ve,Nat.zero_add];simpa using h1
def abx:Go.Shelf.Ren:=
 {f:=fun x=>match x with|7=>82|10=>168|n=>n,
  t:=fun x=>match x with|23=>169|26=>3|3=>4|28=>125|0=>0|27=>124|33=>244|4=>4|n=>n,
  g:=fun n=>n}
set_option maxRecDepth 100000 in
theorem axx:SlLaysZI.n7 prog abx where
 mixed:=by kernel_rfl
 f7:=⟨"maps.Keys[map[int]bool,int,bool]",by decide,Eq.trans func82 (congrArg some (by kernel_rfl))⟩
 f10:=⟨"maps.Keys[map[int]bool,int,bool]$1",by decide,Eq.trans func168 (congrArg some (by kernel_rfl))⟩
 t0:=underlying0
 a0:=isAgg0
 z0:=sizeOf0
 v0:=zeroValue0
 t4:=underlying4
 a4:=isAgg4
 z4:=sizeOf4
 v4:=zeroValue4
 t23:=underlying169
 a23:=isAgg169
 z23:=sizeOf169
 v23:=zeroValue169
 t26:=underlying3
 a26:=isAgg3
 z26:=sizeOf3
 v26:=zeroValue3
 t27:=underlying124
 a27:=isAgg124
 z27:=sizeOf124
 v27:=zeroValue124
 t28:=underlying125
 a28:=isAgg125
 z28:=sizeOf125
 v28:=zeroValue125
 t33:=underlying244
 a33:=isAgg244
 z33:=sizeOf244
 v33:=zeroValue244
theorem axy {r:List Z}{a b:Nat}{aW:TypeId}{s:List (F×F)}{Y:List Int}(aC:r[a]? =some (.be (.map false [.int .i64] s)))(af:r[b]? =some (.ag aW 1 [[.bE a]]))(O:s.map (·.1)=Y.map (F.int .i64 ·))(ss:Y.Nodup)(ki: ∀ x∈Y,(Lit.int .i64 x).wf=true)(cK:Y.length≤1000000):
 aO prog 47 [.fn 168 [.bd b 1 0 0]] r
  (fun v rs=>v= .pure 1 (cJ .i64 (fq Y))∧rs=r):=by
 refine aO.P5 (fun h=>h) ?_;intro C dA N aA hG dv;have iV:C.r[a]? =some (.be (.map false [.int .i64] s)):=by rw[N];exact aC
 have jS:C.r[b]? =some (.ag aW 1 [[.bE a]]):=by rw[N];exact af
 rw[aE] at dv;obtain⟨v0,bS,rfl,an,aH⟩:=dv;rw[aE] at aH;subst aH;rw[Rep] at an;obtain⟨vs,rfl,kU⟩:=an;rw[aE] at kU;obtain⟨RX,bS,Cz,ak,aH⟩:=kU;rw[aE] at aH;subst aH;rw[Rep] at ak;obtain⟨hC,_,_,hall⟩:=ak;obtain⟨_,G⟩:=hall _ _ _ jS;obtain⟨_,Bm,J,rl,rfl⟩:=G rfl;obtain rfl:vs= #[.pointer (some ⟨Bm,0,none⟩)]:=by
  apply Array.toList_inj.1;rw[Cz]
 rcases aA.ag jS with ⟨_,qo⟩|⟨b1,cap,ap,iK,zG,nE,eK,vK,eA,dp⟩
 ·cases qo
 rw[rl] at iK;simp only[Option.some.injEq,Prod.mk.injEq] at iK;obtain⟨rfl,rfl⟩:=iK;rw[dh,dC] at dp;obtain⟨⟨RY,nw,_,kD⟩,_⟩:=dp.2.1;rw[Rep] at kD;obtain⟨_,_,_,kD⟩:=kD;obtain⟨b0,c0,CA,rfl⟩:=kD _ iV;have mr:=aA.r _ _ iV;rw[dQ] at mr;obtain⟨RZ,R0,ar,qK,R1,lZ,sb,xq,Gh,Gi⟩:=mr;rw[CA] at qK;simp only[Option.some.injEq,Prod.mk.injEq] at qK;obtain⟨rfl,rfl⟩:=qK;have gO:ar.toList.map (·.key)=Y.map (Value.int .i64 ·):=BZ (by rw[←O];exact xq);have dJ:ar.size=Y.length:=by
  have:=congrArg List.length gO;simpa using this
 let aF:Value→Option (DataW Unit×List MemPlace):=fun _=>some (.nil,[])
 have Io:prog.underlying 3=some (.int .i64):=underlying3;have tP: ∀ x∈ar.toList,∃ M:Int,x.key= .int .i64 M∧M∈Y∧Go.WideElems.rd prog 3 aF x=some (.int .i64 M,.nil):=by
  intro x aj;have:x.key∈Y.map (Value.int .i64 ·):=by rw[←gO];exact List.mem_map_of_mem aj
  obtain⟨M,ba,sD⟩:=List.mem_map.1 this;refine⟨M,sD.symm,ba,?_⟩;unfold Go.WideElems.rd;rw[←sD,keyOf_int_mk Io (ki M ba)];rfl
 have uA:Go.WideElems.Fit prog 3 aF ar ar.size:=by
  refine⟨by rw[dJ];unfold maxLen;omega,⟨fun x aj=> ?_,?_,?_⟩,fun x aj=> ?_⟩
  ·obtain⟨c,av,rfl⟩:=List.getElem_of_mem aj;have:=sb c _ (by rw[←Array.getElem?_toList,List.getElem?_eq_getElem av]);rw[this];simpa using av
  ·have:ar.toList.map (·.born)=List.range ar.size:=by
    refine List.ext_getElem? fun c=> ?_
    by_cases av:c < ar.size
    ·rw[List.getElem?_map,Array.getElem?_toList,Array.getElem?_eq_getElem av,List.getElem?_range av];simp[sb c _ (Array.getElem?_eq_getElem av)]
    ·rw[List.getElem?_eq_none (by simp;omega),List.getElem?_eq_none (by simp;omega)]
   rw[this];exact List.nodup_range
  ·rw[gO];exact List.pairwise_map.2 (ss.imp fun h e=>h (by simpa using e))
  ·obtain⟨M,_,_,h⟩:=tP x aj;exact⟨_,h⟩
 let el:=ar.toList.map (Go.WideElems.rg prog 3 aF)
 let aD:DataW Unit:= .map (el.foldr DataW.insert [])
 have pK:C.w.ownsMap prog 3 aF b0 ar.size aD:=⟨ar,ar.size,lZ,uA,Nat.le_refl _,rfl⟩;have wF:el.map (fun p=>Go.intOf p.1)=Y:=by
  have: ∀ x∈ar.toList,((fun p:Lit×DataW Unit=>Go.intOf p.1)∘Go.WideElems.rg prog 3 aF) x=(Su∘fun x:MapEntry=>x.key) x:=by
   intro x aj;obtain⟨M,h1,_,G⟩:=tP x aj;simp only[Function.comp_apply];rw[Go.WideElems.rg_of G,h1];rfl
  show List.map _ (List.map _ ar.toList)=Y;rw[List.map_map,List.map_congr_left this,←List.map_map,gO,List.map_map];exact List.map_id' Y
 have kV: (intKeys aD).Perm Y:=by
  rw[←wF];exact (Go.WideShapes.sorted_perm el).map _
 have fS:Maps.size aD=Y.length:=by
  show (el.foldr DataW.insert []).length=_;rw[length_sorted,List.length_map,Array.length_toList,dJ]
 have vf:SeqGives Fence.wide 2 prog 168 #[.pointer (some ⟨Bm,0,none⟩)] encZ (fun bV:List Int=>bV.Perm (intKeys aD)) (Maps.size aD) C.w:=
  AnyZI.keys_gives (ρ:=abx) {axx with} Fence.wide _ trivial rfl (by omega) Bm b0 ar.size aD C.w (Array.getElem?_eq_some_iff.1 nE).1 nw pK
 have CB:=AnyZI.sorted_in Sr Fence.wide 5 trivial trivial trivial trivial rfl (by omega) (Ss _) (enters_of func127 (by kernel_rfl) rfl) 168 #[.pointer (some ⟨Bm,0,none⟩)] trivial (enters_of func168 (by kernel_rfl) rfl) _ _ (by rw[fS];unfold maxLen;omega) (by rw[fS];omega) _ vf;refine (callsIn_wide.1 CB).mono ?_;rintro e w' ⟨v,bV,rfl,du,y,iW,af⟩;have CC: (bV.mergeSort leI)=fq Y:=mergeSort_of_perm_i (du.trans kV);have fF:bV.length=(fq Y).length:=by rw[zY];exact (du.trans kV).length_eq
 refine⟨v,_,rfl,af,fun Dp=> ?_,rfl,by rw[←N]⟩;rw[Rep];rcases y.2 with ⟨rfl,ba⟩|⟨g,cap,oZ,rfl,Mz,ve,r1,cY,fY,fc⟩
 ·exact⟨none,0,by rw[mV,←fF,ba],by rw[mV,←fF,ba];exact Nat.le_refl _,.inl (by rw[mV,←fF,ba])⟩
 ·refine⟨_,cap,by rw[mV,←fF],by rw[mV,←fF];exact r1,.inr ⟨g,0,rfl,⟨(Array.getElem?_eq_some_iff.1 ve).1,fun bp=> ?_,fun z J h=> ?_⟩,?_⟩⟩
  ·have:=aA.bY _ bp;omega
  ·have:=aA.lt h;omega
  ·refine My (C:=bD.p _) _ _ fun c av=> ?_;have h1: (oZ.toList.take (bV.length*1))[c]? =((bV.mergeSort leI).map encZ)[c]? :=by rw[fc]
   rw[List.getElem?_take_of_lt (by rw[Nat.mul_one,fF];exact av),List.getElem?_map,CC,List.getElem?_eq_getElem av,Array.getElem?_toList] at h1;show World.cell? w' _=_;simp only[World.cell?,ve,Nat.zero_add];simpa using h1
def QU:Go.Shelf.Ren:=
 {f:=fun x=>match x with|7=>116|10=>204|n=>n,
  t:=fun x=>match x with|23=>224|26=>3|3=>227|28=>125|0=>0|27=>124|33=>244|4=>4|n=>n,
  g:=fun n=>n}
set_option maxRecDepth 100000 in
theorem YV:SlLaysZI.n7 prog QU where
 mixed:=by kernel_rfl
 f7:=⟨"maps.Keys[map[int][16]int,int,[16]int]",by decide,Eq.trans func116 (congrArg some (by kernel_rfl))⟩
 f10:=⟨"maps.Keys[map[int][16]int,int,[16]int]$1",by decide,Eq.trans func204 (congrArg some (by kernel_rfl))⟩
 t0:=underlying0
 a0:=isAgg0
 z0:=sizeOf0
 v0:=zeroValue0
 t4:=underlying4
 a4:=isAgg4
 z4:=sizeOf4
 v4:=zeroValue4
 t23:=underlying224
 a23:=isAgg224
 z23:=sizeOf224
 v23:=zeroValue224
 t26:=underlying3
 a26:=isAgg3
 z26:=sizeOf3
 v26:=zeroValue3
 t27:=underlying124
 a27:=isAgg124
 z27:=sizeOf124
 v27:=zeroValue124
 t28:=underlying125
 a28:=isAgg125
 z28:=sizeOf125
 v28:=zeroValue125
 t33:=underlying244
 a33:=isAgg244
 z33:=sizeOf244
 v33:=zeroValue244
theorem YW {r:List Z}{a b:Nat}{aW:TypeId}{s:List (F×F)}{Y:List Int}(aC:r[a]? =some (.be (.map false [.int .i64] s)))(af:r[b]? =some (.ag aW 1 [[.bE a]]))(O:s.map (·.1)=Y.map (F.int .i64 ·))(ss:Y.Nodup)(ki: ∀ x∈Y,(Lit.int .i64 x).wf=true)(cK:Y.length≤1000000):
 aO prog 47 [.fn 204 [.bd b 1 0 0]] r
  (fun v rs=>v= .pure 1 (cJ .i64 (fq Y))∧rs=r):=by
 refine aO.P5 (fun h=>h) ?_;intro C dA N aA hG dv;have iV:C.r[a]? =some (.be (.map false [.int .i64] s)):=by rw[N];exact aC
 have jS:C.r[b]? =some (.ag aW 1 [[.bE a]]):=by rw[N];exact af
 rw[aE] at dv;obtain⟨v0,bS,rfl,an,aH⟩:=dv;rw[aE] at aH;subst aH;rw[Rep] at an;obtain⟨vs,rfl,kU⟩:=an;rw[aE] at kU;obtain⟨RX,bS,Cz,ak,aH⟩:=kU;rw[aE] at aH;subst aH;rw[Rep] at ak;obtain⟨hC,_,_,hall⟩:=ak;obtain⟨_,G⟩:=hall _ _ _ jS;obtain⟨_,Bm,J,rl,rfl⟩:=G rfl;obtain rfl:vs= #[.pointer (some ⟨Bm,0,none⟩)]:=by
  apply Array.toList_inj.1;rw[Cz]
 rcases aA.ag jS with ⟨_,qo⟩|⟨b1,cap,ap,iK,zG,nE,eK,vK,eA,dp⟩
 ·cases qo
 rw[rl] at iK;simp only[Option.some.injEq,Prod.mk.injEq] at iK;obtain⟨rfl,rfl⟩:=iK;rw[dh,dC] at dp;obtain⟨⟨RY,nw,_,kD⟩,_⟩:=dp.2.1;rw[Rep] at kD;obtain⟨_,_,_,kD⟩:=kD;obtain⟨b0,c0,CA,rfl⟩:=kD _ iV;have mr:=aA.r _ _ iV;rw[dQ] at mr;obtain⟨RZ,R0,ar,qK,R1,lZ,sb,xq,Gh,Gi⟩:=mr;rw[CA] at qK;simp only[Option.some.injEq,Prod.mk.injEq] at qK;obtain⟨rfl,rfl⟩:=qK;have gO:ar.toList.map (·.key)=Y.map (Value.int .i64 ·):=BZ (by rw[←O];exact xq);have dJ:ar.size=Y.length:=by
  have:=congrArg List.length gO;simpa using this
 let aF:Value→Option (DataW Unit×List MemPlace):=fun _=>some (.nil,[])
 have Io:prog.underlying 3=some (.int .i64):=underlying3;have tP: ∀ x∈ar.toList,∃ M:Int,x.key= .int .i64 M∧M∈Y∧Go.WideElems.rd prog 3 aF x=some (.int .i64 M,.nil):=by
  intro x aj;have:x.key∈Y.map (Value.int .i64 ·):=by rw[←gO];exact List.mem_map_of_mem aj
  obtain⟨M,ba,sD⟩:=List.mem_map.1 this;refine⟨M,sD.symm,ba,?_⟩;unfold Go.WideElems.rd;rw[←sD,keyOf_int_mk Io (ki M ba)];rfl
 have uA:Go.WideElems.Fit prog 3 aF ar ar.size:=by
  refine⟨by rw[dJ];unfold maxLen;omega,⟨fun x aj=> ?_,?_,?_⟩,fun x aj=> ?_⟩
  ·obtain⟨c,av,rfl⟩:=List.getElem_of_mem aj;have:=sb c _ (by rw[←Array.getElem?_toList,List.getElem?_eq_getElem av]);rw[this];simpa using av
  ·have:ar.toList.map (·.born)=List.range ar.size:=by
    refine List.ext_getElem? fun c=> ?_
    by_cases av:c < ar.size
    ·rw[List.getElem?_map,Array.getElem?_toList,Array.getElem?_eq_getElem av,List.getElem?_range av];simp[sb c _ (Array.getElem?_eq_getElem av)]
    ·rw[List.getElem?_eq_none (by simp;omega),List.getElem?_eq_none (by simp;omega)]
   rw[this];exact List.nodup_range
  ·rw[gO];exact List.pairwise_map.2 (ss.imp fun h e=>h (by simpa using e))
  ·obtain⟨M,_,_,h⟩:=tP x aj;exact⟨_,h⟩
 let el:=ar.toList.map (Go.WideElems.rg prog 3 aF)
 let aD:DataW Unit:= .map (el.foldr DataW.insert [])
 have pK:C.w.ownsMap prog 3 aF b0 ar.size aD:=⟨ar,ar.size,lZ,uA,Nat.le_refl _,rfl⟩;have wF:el.map (fun p=>Go.intOf p.1)=Y:=by
  have: ∀ x∈ar.toList,((fun p:Lit×DataW Unit=>Go.intOf p.1)∘Go.WideElems.rg prog 3 aF) x=(Su∘fun x:MapEntry=>x.key) x:=by
   intro x aj;obtain⟨M,h1,_,G⟩:=tP x aj;simp only[Function.comp_apply];rw[Go.WideElems.rg_of G,h1];rfl
  show List.map _ (List.map _ ar.toList)=Y;rw[List.map_map,List.map_congr_left this,←List.map_map,gO,List.map_map];exact List.map_id' Y
 have kV: (intKeys aD).Perm Y:=by
  rw[←wF];exact (Go.WideShapes.sorted_perm el).map _
 have fS:Maps.size aD=Y.length:=by
  show (el.foldr DataW.insert []).length=_;rw[length_sorted,List.length_map,Array.length_toList,dJ]
 have vf:SeqGives Fence.wide 2 prog 204 #[.pointer (some ⟨Bm,0,none⟩)] encZ (fun bV:List Int=>bV.Perm (intKeys aD)) (Maps.size aD) C.w:=
  AnyZI.keys_gives (ρ:=QU) {YV with} Fence.wide _ trivial rfl (by omega) Bm b0 ar.size aD C.w (Array.getElem?_eq_some_iff.1 nE).1 nw pK
 have CB:=AnyZI.sorted_in Sr Fence.wide 5 trivial trivial trivial trivial rfl (by omega) (Ss _) (enters_of func127 (by kernel_rfl) rfl) 204 #[.pointer (some ⟨Bm,0,none⟩)] trivial (enters_of func204 (by kernel_rfl) rfl) _ _ (by rw[fS];unfold maxLen;omega) (by rw[fS];omega) _ vf;refine (callsIn_wide.1 CB).mono ?_;rintro e w' ⟨v,bV,rfl,du,y,iW,af⟩;have CC: (bV.mergeSort leI)=fq Y:=mergeSort_of_perm_i (du.trans kV);have fF:bV.length=(fq Y).length:=by rw[zY];exact (du.trans kV).length_eq
 refine⟨v,_,rfl,af,fun Dp=> ?_,rfl,by rw[←N]⟩;rw[Rep];rcases y.2 with ⟨rfl,ba⟩|⟨g,cap,oZ,rfl,Mz,ve,r1,cY,fY,fc⟩
 ·exact⟨none,0,by rw[mV,←fF,ba],by rw[mV,←fF,ba];exact Nat.le_refl _,.inl (by rw[mV,←fF,ba])⟩
 ·refine⟨_,cap,by rw[mV,←fF],by rw[mV,←fF];exact r1,.inr ⟨g,0,rfl,⟨(Array.getElem?_eq_some_iff.1 ve).1,fun bp=> ?_,fun z J h=> ?_⟩,?_⟩⟩
  ·have:=aA.bY _ bp;omega
  ·have:=aA.lt h;omega
  ·refine My (C:=bD.p _) _ _ fun c av=> ?_;have h1: (oZ.toList.take (bV.length*1))[c]? =((bV.mergeSort leI).map encZ)[c]? :=by rw[fc]
   rw[List.getElem?_take_of_lt (by rw[Nat.mul_one,fF];exact av),List.getElem?_map,CC,List.getElem?_eq_getElem av,Array.getElem?_toList] at h1;show World.cell? w' _=_;simp only[World.cell?,ve,Nat.zero_add];simpa using h1
end Go.Proofs.YtpincjkjoeopkaaGreatDoor
