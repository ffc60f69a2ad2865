/- Presences and working time. -/
import Derived.Test.YtpincjkjoeopkaaGreatDoorK24
import Derived.Test.YtpincjkjoeopkaaGreatDoorK29
import Derived.Test.YtpincjkjoeopkaaGreatDoorK19
import Derived.Test.YtpincjkjoeopkaaGreatDoorK15
set_option linter.unusedSimpArgs false
set_option linter.unusedVariables false
set_option linter.unusedSectionVars false
namespace Go.Proofs.YtpincjkjoeopkaaGreatDoor.Pr
open Go Go.Abs Go.Proofs.Tryz
def hz (v:bs)(a b:Int):Bool:=decide (a≤v.J∧v.J < v.T∧v.T≤b)
def cV:Int→Int→List bs→Bool
 |_,_,[]=>true
 |e,t,b::i=>hz b e t&&cV b.T t i
def sN (e:Int)(p:dx):Bool:=hz ⟨p.J,p.T⟩ e 120968640&&decide (p.en.length≤1024)&&cV p.J p.T p.en
def hX:Int→List dx→Bool
 |_,[]=>true
 |e,p::i=>sN e p&&hX p.T i
def kV (l:List dx):Int:=if 1024 < l.length then 1 else if hX 0 l then 0 else 1
theorem ahL (f t a b:Int):aK prog 225 [.agg [.int .i64 f,.int .i64 t],.int .i64 a,.int .i64 b] [] (fun v rs=>v= .bool (hz ⟨f,t⟩ a b)∧rs= []):=by
 refine cr func225 adQ (by simp[Hv,M7]) ?_;simp only[go_sem,Hv,M7]
 repeat' ((first|refine gF ?_ ?_|refine gP ?_ ?_|refine cg ?_ ?_|refine dg ?_ ?_)<;>intro ao<;>(have ae:=ao;try simp only[bA] at ae)<;>(first|omega| (simp only[go_sem,ao,Hv,M7];clear ao)))
 all_goals (refine s.bb rfl ⟨congrArg z.bool ?_,rfl⟩;rw[hz,Bool.eq_iff_iff];simp only[bA,Bool.false_eq_true,false_iff];omega)
theorem mY (l:List dx)(hl:l.length≤9223372036854775806):aK prog 152 [.pure 3 (ac l)] [] (fun v rs=>v= .int .i64 (kV l)∧rs= []):=by
 refine cr func152 acK (by simp[rR,tl]) ?_;simp only[go_sem,rR,tl];refine cg ?_ ?_<;>intro dL<;>simp only[bA] at dL<;>simp only[go_sem,rR,tl]
 ·exact s.bb rfl ⟨by rw[kV,if_pos (by omega)],rfl⟩
 have pa:kV l=if hX 0 l then 0 else 1:=by rw[kV,if_neg (by omega)]
 refine dR (fun r d=> ∃ (c:Nat) (e:Int),c≤l.length∧hX 0 l=hX e (l.drop c)∧r= [(3,.int .i64 e),(11,.pure 3 (ac l)),(12,.int .i64 l.length),(13,.int .i64 c)]∧d= [])
  (fun r _=>match bn r 13 with| .int _ j=>(l.length-j).toNat|_=>0) ?_ ?_
 ·exact s.U ⟨0,0,by omega,by simp,rfl,rfl⟩
 ·rintro r d ⟨c,e,an,Z,rfl,rfl⟩;simp only[go_sem,rR,tl];refine cg ?_ ?_<;>intro ck<;>simp only[bA] at ck<;>simp only[go_sem,rR,tl]
  ·have aC:c < l.length:=by omega
   refine⟨by omega,by omega,?_⟩
   try simp only[Int.toNat_natCast]
   rw[cQ aC,GV];rw[nM aC,hX] at Z;generalize l[c]=p at Z ⊢;simp only[go_sem,rR,tl];refine bH (ahL p.J p.T e 120968640) rfl rfl ?_;simp only[go_sem]
   repeat' ((first|refine gF ?_ ?_|refine gP ?_ ?_|refine cg ?_ ?_|refine dg ?_ ?_)<;>intro ao<;>(have ae:=ao;try simp only[bA] at ae)<;>(first|omega| (simp only[go_sem,ao,rR,tl];clear ao)))
   ·exact s.bb rfl ⟨by rw[pa,Z,sN,ae];simp,rfl⟩
   ·exact s.bb rfl ⟨by rw[pa,Z,sN,decide_eq_false (p:=p.en.length≤1024) (by omega)];simp,rfl⟩
   rename_i uO;refine dR (fun r d=> ∃ (k:Nat) (e:Int),k≤p.en.length∧cV p.J p.T p.en=cV e p.T (p.en.drop k)∧r= [(3,.int .i64 e),(5,.aW 0 1 0 0),(11,.pure 3 (ac l)),(12,.int .i64 l.length),(13,.int .i64 c),(32,.pure 2 (ac p.en)),(33,.int .i64 p.en.length),(34,.int .i64 k)]∧d= [.aa 88 3 [[.int .i64 p.J,.int .i64 p.T,.pure 2 (ac p.en)]]])
    (fun r _=>match bn r 34 with| .int _ j=>(p.en.length-j).toNat|_=>0) ?_ ?_
   ·exact s.U ⟨0,p.J,by omega,by simp,rfl,rfl⟩
   ·rintro r d ⟨k,e,I,pe,rfl,rfl⟩;simp only[go_sem,rR,tl];refine cg ?_ ?_<;>intro fQ<;>simp only[bA] at fQ<;>simp only[go_sem,rR,tl]
    ·have yQ:k < p.en.length:=by omega
     refine⟨by omega,by omega,?_⟩
     try simp only[Int.toNat_natCast]
     rw[cQ yQ,eM];rw[nM yQ,cV] at pe;generalize p.en[k]=b at pe ⊢;simp only[go_sem,rR,tl];refine bH (ahL b.J b.T e p.T) rfl rfl ?_;simp only[go_sem];have aR:=dr (c:=k) (by omega);refine cg ?_ ?_<;>intro oj<;>simp only[bA] at oj<;>simp only[go_sem,rR,tl,aR]
     ·refine s.bb rfl ⟨?_,rfl⟩;rw[pa,Z,sN,pe];rw[show hz b e p.T=false from oj];simp
     ·(refine s.bw [some 0] ?_;simp only[go_sem])
      refine s.U ⟨⟨k+1,b.T,by omega,?_,rfl,rfl⟩,?_⟩
      ·rw[pe,show hz b e p.T=true from oj,Bool.true_and]
      ·simp only[go_sem];omega
    ·have xA:k=p.en.length:=by omega
     rw[xA,List.drop_length,cV] at pe;have aR:=dr (c:=c) (by omega);rw[aR]
     (refine s.bw [] ?_;simp only[go_sem])
     refine s.U ⟨⟨c+1,p.T,by omega,?_,rfl,rfl⟩,?_⟩
     ·rw[Z,sN,uO,pe,decide_eq_true (p:=p.en.length≤1024) (by omega)];simp
     ·simp only[go_sem];omega
  ·have:c=l.length:=by omega
   subst this;exact s.bb rfl ⟨by rw[pa,Z];simp[hX],rfl⟩
end Go.Proofs.YtpincjkjoeopkaaGreatDoor.Pr
namespace Go.Proofs.YtpincjkjoeopkaaGreatDoor
open Go Go.Abs Go.Proofs.Tryz
set_option maxRecDepth 20000 in
theorem auF:aK prog 154 [.pure 2 []] [] (fun v rs=>v= .pure 2 []∧rs= []):=by
 refine aK.FT fun C du G ar hG dk=> ?_;rw[ay] at dk;obtain⟨v,bW,rfl,h1,B⟩:=dk;rw[ay] at B;subst B;rw[Rep] at h1;obtain⟨ct,cap,rfl,_,_⟩:=h1;have aR: (Go.RowKit.Below C.w.heap.size C.w C.w∧C.w.drawn≤C.w.drawn):=⟨Go.RowKit.Below.refl _ _,Nat.le_refl _⟩
 go_enter func154,ntmps154
 cases ct with
 |none=>
  go_wp2
  rw[auG]
  go_wp2
  go_ret
  exact⟨_,.pure 2 [],rfl,aR,fun av _=>(by rw[Rep];exact⟨none,0,rfl,Nat.le_refl _,.inl rfl⟩),rfl,trivial⟩
 |some a=>
  go_wp2
  rw[auH]
  go_wp2
  go_ret
  exact⟨_,.pure 2 [],rfl,⟨aR.1.alloc (Nat.le_refl _) _,aR.2⟩,fun av _=>(by rw[Rep];exact⟨_,_,rfl,Nat.le_refl _,.inl rfl⟩),rfl,trivial⟩
theorem KT (l:List Pr.bs)(hl:l.length≤100000):aK prog 154 [.pure 2 (ac l)] [] (fun v rs=>v= .pure 2 (ac l)∧rs= []):=by
 by_cases h:l= []
 ·subst h;exact auF
 have ae:0 < l.length:=List.length_pos_iff.2 h;refine cr func154 YP (by simp[K3,QV]) ?_;simp only[go_sem,K3,QV,bO];refine⟨ae,by omega,?_⟩;have mZ:bU [.aa 64 2 (ac l)] [] [0] (.own 0 l.length 0 l.length)= .pure 2 (ac l):=pO rfl rfl rfl (by rw[bO]) cw;refine s.kc [] [0] rfl rfl (by simp only[go_sem]<;>rfl) ?_;have mT:List.take l.length (ac l)=ac l:=List.take_of_length_le (by rw[bO];exact Nat.le_refl _);simp only[go_sem,mZ,bO,cw,mT];exact s.U ⟨rfl,rfl⟩
structure rE where
 J:Int
 T:Int
instance:aG rE:=⟨fun a=> [.int .i64 a.J,.int .i64 a.T],2,fun _=>rfl,fun _=>rfl,fun _=>rfl⟩
theorem yJ (e:rE):aG.F e= [.int .i64 e.J,.int .i64 e.T]:=rfl
theorem ast:aG.N rE=2:=rfl
theorem asu (e:rE):List.take 2 (aG.F e)=aG.F e:=rfl
attribute [go_sem] ast asu
theorem asv {bd:Type}[aG bd]{l:List bd}{k:Nat}{u:bd}(h:l[k]? =some u): (ac l).getD k []=aG.F u:=by
 rw[List.getD_eq_getElem?_getD];unfold ac;rw[List.getElem?_map,h];rfl
def xa (E:cp):Prop:=(0≤E.ab∧E.ab≤84005)∧(0≤E.bq∧E.bq < 1440)∧1≤E.cF∧E.cF≤1440
instance (E:cp):Decidable (xa E):=inferInstanceAs (Decidable ((0≤E.ab∧E.ab≤84005)∧(0≤E.bq∧E.bq < 1440)∧1≤E.cF∧E.cF≤1440))
def pS (D:bZ)(E:cp):Int:=tY D (E.ab*1440+E.bq)
def ej (D:bZ)(E:cp):Int:=if eR D=0 then if xa E then if pS D E+E.cF>120968640 then 2 else 0 else 2 else eR D
def fO (D:bZ)(E:cp):rE:=if ej D E=0 then ⟨pS D E,pS D E+E.cF⟩ else ⟨0,0⟩
theorem Xs (D:bZ)(E:cp):aK prog 155 [D.v,.agg (aG.F E)] [] (fun v rs=>v= .bg [.agg (aG.F (fO D E)),.int .i64 (ej D E)]∧rs= []):=by
 have hV:=Ba D;refine cr func155 Xt (by simp[yK,Bc]) ?_;have hF:=fun h: -1000000000≤E.ab*1440+E.bq=>ash D (E.ab*1440+E.bq) h
 by_cases h:eR D=0
 rotate_left
 ·have e:ej D E=eR D:=by unfold ej;rw[if_neg h]
  have bJ:fO D E=⟨0,0⟩:=by unfold fO;rw[e,if_neg h]
  have cJ: (eR D != 0)=true:=bne_iff_ne.2 h;rw[e,bJ];unfold bZ.v at *;simp only[go_sem,yK,Bc,tZ,yJ];refine bH hV rfl rfl ?_;simp only[go_sem,cJ];exact s.bb rfl ⟨rfl,rfl⟩
 by_cases ak:xa E
 rotate_left
 ·have e:ej D E=2:=by unfold ej;rw[if_pos h,if_neg ak]
  have bJ:fO D E=⟨0,0⟩:=by unfold fO;rw[e,if_neg (by decide)]
  rw[e,bJ];unfold bZ.v at *;rw[h] at hV;unfold xa at ak;simp only[go_sem,yK,Bc,tZ,yJ];refine bH hV rfl rfl ?_;simp only[go_sem,bne_self_eq_false];clear hF hV e bJ
  repeat' ((first|refine gF ?_ ?_|refine gP ?_ ?_|refine cg ?_ ?_|refine dg ?_ ?_)<;>intro ao<;>(have ae:=ao;try simp only[bA] at ae)<;>(first|omega| (simp only[go_sem,ao,yK,Bc];clear ao)))
  all_goals exact s.bb rfl ⟨rfl,rfl⟩
 have Z:=Xj (vo h) (E.ab*1440+E.bq);have yh:=ak;unfold xa at yh
 replace hF:=hF (by omega)
 rw[if_pos h] at hF;have d1:decide (E.ab < 0)=false:=decide_eq_false (by omega);have kd:decide (84005 < E.ab)=false:=decide_eq_false (by omega);have uY:decide (E.bq < 0)=false:=decide_eq_false (by omega);have yr:decide (1440≤E.bq)=false:=decide_eq_false (by omega);have Gm:decide (E.cF < 1)=false:=decide_eq_false (by omega);have Gn:decide (1440 < E.cF)=false:=decide_eq_false (by omega);have cW:IntKind.i64.wrap (E.ab*1440)=E.ab*1440:=bf (by omega) (by omega);have gg:IntKind.i64.wrap (E.ab*1440+E.bq)=E.ab*1440+E.bq:=bf (by omega) (by omega);have hS:IntKind.i64.wrap (pS D E+E.cF)=pS D E+E.cF:=by unfold pS;exact bf (by omega) (by omega)
 by_cases V:pS D E+E.cF>120968640
 ·have e:ej D E=2:=by unfold ej;rw[if_pos h,if_pos ak,if_pos V]
  have bJ:fO D E=⟨0,0⟩:=by unfold fO;rw[e,if_neg (by decide)]
  have ky:120968640 < pS D E+E.cF:=V;rw[e,bJ];unfold bZ.v at *;rw[h] at hV;simp only[go_sem,yK,Bc,tZ,yJ];refine bH hV rfl rfl ?_;simp only[go_sem,bne_self_eq_false,d1,kd,uY,yr,Gm,Gn,cW,gg];refine bH hF rfl rfl ?_;rw[show tY D (E.ab*1440+E.bq)=pS D E from rfl];simp only[go_sem,hS,ky];exact s.bb rfl ⟨rfl,rfl⟩
 ·have e:ej D E=0:=by unfold ej;rw[if_pos h,if_pos ak,if_neg V]
  have bJ:fO D E=⟨pS D E,pS D E+E.cF⟩:=by unfold fO;rw[if_pos e]
  have ky:decide (120968640 < pS D E+E.cF)=false:=decide_eq_false V;rw[e,bJ];unfold bZ.v at *;rw[h] at hV;simp only[go_sem,yK,Bc,tZ,yJ];refine bH hV rfl rfl ?_;simp only[go_sem,bne_self_eq_false,d1,kd,uY,yr,Gm,Gn,cW,gg];refine bH hF rfl rfl ?_;rw[show tY D (E.ab*1440+E.bq)=pS D E from rfl];simp only[go_sem,hS,ky,bne_self_eq_false];exact s.bb rfl ⟨rfl,rfl⟩
def nD (D:bZ):Int→List cp→Int
 |_,[]=>0
 |e,E::bN=>if ej D E=0 then if (fO D E).J < e then 1 else nD D (fO D E).T bN else ej D E
def iN (D:bZ)(Y:List cp):Int:=if 1024 < Y.length then 3 else if eR D=0 then nD D 0 Y else eR D
theorem asw {D:bZ}{e:Int}{l:List cp}{c:Nat}(h:c < l.length):nD D e (l.drop c)=if ej D l[c]=0 then if (fO D l[c]).J < e then 1 else nD D (fO D l[c]).T (l.drop (c+1)) else ej D l[c]:=by
 rw[List.drop_eq_getElem_cons h,nD]
theorem PQ {D:bZ}{E:cp}(h:ej D E=0):0≤(fO D E).J∧(fO D E).J < (fO D E).T∧(fO D E).T≤120968640:=by
 unfold fO;rw[if_pos h];unfold ej at h
 by_cases aS:eR D=0
 rotate_left
 ·rw[if_neg aS] at h;exact absurd h aS
 rw[if_pos aS] at h
 by_cases ak:xa E
 rotate_left
 ·rw[if_neg ak] at h;exact absurd h (by decide)
 rw[if_pos ak] at h;have Z:=Xj (vo aS) (E.ab*1440+E.bq);unfold xa at ak;split at h
 ·cases h
 ·unfold pS at *;simp only;omega
def yL (D:bZ)(Y:List cp)(v:z)(rs:List R):Prop:=
 if iN D Y=0 then v= .bg [.own 0 Y.length 0 Y.length,.int .i64 0]∧rs= [.aa 64 2 (ac (Y.map (fO D)))] else v= .bg [.bD,.int .i64 (iN D Y)]∧rs= []
theorem Kq (D:bZ)(Y:List cp)(hl:Y.length≤9223372036854775806):aK prog 143 [D.v,.pure 3 (ac Y)] [] (yL D Y):=by
 have hV:=Ba D;have de:=Xs D;refine cr func143 Xu (by simp[DB,Gp]) ?_;unfold bZ.v at *;simp only[go_sem,DB,Gp,bO]
 by_cases h1:1024 < Y.length
 ·have hP: (1024:Int) < Y.length:=by omega
  have e:iN D Y=3:=by unfold iN;rw[if_pos h1]
  simp only[go_sem,hP];exact s.bb rfl (by unfold yL;rw[e,if_neg (by decide)];exact⟨rfl,rfl⟩)
 have hP:decide ((1024:Int) < Y.length)=false:=decide_eq_false (by omega);simp only[go_sem,hP];refine bH hV rfl rfl ?_
 by_cases h:eR D=0
 rotate_left
 ·have cJ: (eR D != 0)=true:=bne_iff_ne.2 h;have e:iN D Y=eR D:=by unfold iN;rw[if_neg h1,if_neg h]
  simp only[go_sem,cJ];exact s.bb rfl (by unfold yL;rw[e,if_neg h];exact⟨rfl,rfl⟩)
 have e:iN D Y=nD D 0 Y:=by unfold iN;rw[if_neg h1,if_pos h]
 rw[h];simp only[go_sem,bne_self_eq_false];refine dR (fun r d=> ∃ (c:Nat) (e:Int),c≤Y.length∧(c=0→e=0)∧(∀ k,c=k+1→((Y.take c).map (fO D))[k]?.map rE.T=some e)∧nD D 0 Y=nD D e (Y.drop c)∧r= [(2,.aW 0 1 0 0),(7,.own 1 c 0 c),(20,.pure 3 (ac Y)),(21,.int .i64 Y.length),(22,.int .i64 c)]∧d= [.aa 32 2 [[.int .i64 D.off,.pure 2 (ac D.cK)]],.aa 64 2 (ac ((Y.take c).map (fO D)))])
  (fun r _=>match bn r 22 with| .int _ j=>(Y.length-j).toNat|_=>0) ?_ ?_
 ·(refine s.iI 7 64 2 rfl (s.eW [2,7,20,21,22] ?_);simp only[go_sem])
  exact s.U ⟨0,0,by omega,fun _=>rfl,fun k I=>by omega,rfl,rfl,rfl⟩
 rintro r d ⟨c,x,an,asx,PR,aq,rfl,rfl⟩;have aR:=dr (c:=c) (by omega);have hL: (ac ((Y.take c).map (fO D))).length=c:=by rw[bO,List.length_map,List.length_take];omega
 by_cases aC:c < Y.length
 rotate_left
 ·have h1:decide ((c:Int) < Y.length)=false:=decide_eq_false (by omega);obtain rfl:c=Y.length:=by omega
  simp only[go_sem,DB,Gp,h1]
  (refine s.bw [some 1] ?_;simp only[go_sem])
  rw[List.drop_length,nD] at aq;refine s.U ?_;unfold wI yL;rw[e,if_pos aq];try rw[List.take_length]
  exact⟨rfl,rfl⟩
 have h1:decide ((c:Int) < Y.length)=true:=decide_eq_true (by omega);have z0: (0:Int)≤c:=by omega
 have lj: (c:Int) < Y.length:=by omega
 have ao: (ac Y).getD c []=aG.F Y[c]:=cQ aC;rw[asw aC] at aq;have pT:ac ((Y.take c).map (fO D))++ [aG.F (fO D Y[c])]=ac ((Y.take (c+1)).map (fO D)):=by
  rw[kz,List.take_succ_eq_append_getElem aC,List.map_append];rfl
 have Xv: ((Y.take (c+1)).map (fO D))[c]? =some (fO D Y[c]):=by
  rw[List.getElem?_map,List.getElem?_take,if_pos (by omega),List.getElem?_eq_getElem aC];rfl
 have Xw:=de Y[c];have rD:=PQ (D:=D) (E:=Y[c]);generalize pJ:Y[c]=E at *;generalize aH7:fO D E=v at *;rw[yJ] at pT Xw;simp only[go_sem,DB,Gp,h1,z0,lj,ao,bO,tZ];refine bH Xw rfl rfl ?_
 by_cases he:ej D E=0
 rotate_left
 ·have cJ: (ej D E != 0)=true:=bne_iff_ne.2 he;rw[if_neg he] at aq;simp only[go_sem,cJ];refine s.bb rfl ?_;unfold yL;rw[e,aq,if_neg he];exact⟨rfl,rfl⟩
 rw[if_pos he] at aq;rw[he];simp only[go_sem,bne_self_eq_false];cases c with
 |zero=>
  obtain rfl:x=0:=asx rfl;rw[if_neg (by have:=rD he;omega)] at aq;have ae:decide ((0:Int) < ((0:Nat):Int))=false:=rfl;have asy:ac ([]:List rE)++ [[.int .i64 v.J,.int .i64 v.T]]=ac ((Y.take (0+1)).map (fO D)):=pT;have asz:IntKind.i64.wrap (0+1)=((0+1:Nat):Int):=aR;simp only[go_sem,ae,hL,asy,asz]
  (refine s.bw [some 0,some 1] ?_;simp only[go_sem])
  refine s.U ⟨⟨0+1,v.T,by omega,fun h=>by omega,fun k I=> ?_,aq,rfl,?_⟩,?_⟩
  ·obtain rfl:k=0:=by omega
   rw[Xv];rfl
  ·rfl
  ·simp only[go_sem];omega
 |succ k=>
  have ae:decide ((0:Int) < ((k+1:Nat):Int))=true:=decide_eq_true (by omega);have cW:IntKind.i64.wrap (((k+1:Nat):Int)-1)=(k:Int):=by rw[bf (by omega) (by omega)];omega
  obtain⟨u,aZ,rfl⟩: ∃ u,((Y.take (k+1)).map (fO D))[k]? =some u∧u.T=x:=by
   have h:=PR k rfl;rw[Option.map_eq_some_iff] at h;exact h
  have asA:=asv aZ;simp only[go_sem,ae,hL,cW];refine⟨by omega,by omega,?_⟩;simp only[go_sem,asA,yJ]
  by_cases V:v.J < u.T
  ·rw[if_pos V] at aq;simp only[go_sem,V];refine s.bb rfl ?_;unfold yL;rw[e,aq,if_neg (by decide)];exact⟨rfl,rfl⟩
  ·rw[if_neg V] at aq;have ky:decide (v.J < u.T)=false:=decide_eq_false V;simp only[go_sem,ky,hL,pT,aR];refine⟨by omega,?_⟩
   (refine s.bw [some 0,some 1] ?_;simp only[go_sem])
   refine s.U ⟨⟨k+1+1,v.T,by omega,fun h=>by omega,fun q aQ=> ?_,aq,rfl,rfl⟩,?_⟩
   ·obtain rfl:q=k+1:=by omega
    rw[Xv];rfl
   ·simp only[go_sem];omega
theorem Xx {D:bZ}{Y:List cp}(h:iN D Y=0):Y.length≤1024:=by
 unfold iN at h;split at h
 ·cases h
 ·omega
theorem asB {D:bZ}{Y:List cp}(h:iN D Y=0):eR D=0:=by
 unfold iN at h;split at h
 ·cases h
 split at h
 ·assumption
 ·rename_i B;exact absurd h B
theorem Xy {D:bZ}: ∀ {l:List cp} {e:Int},nD D e l=0→ ∀ E∈l,ej D E=0
 | [],_,_,E,ak=>by simp at ak
 |x::l,e,h,E,ak=>by
  rw[nD] at h
  by_cases ad:ej D x=0
  ·rw[if_pos ad] at h;split at h
   ·cases h
   ·rcases List.mem_cons.1 ak with rfl|ak
    ·exact ad
    ·exact Xy h E ak
  ·rw[if_neg ad] at h;exact absurd h ad
theorem PS {D:bZ}{Y:List cp}(h:iN D Y=0): ∀ E∈Y,ej D E=0:=by
 unfold iN at h;split at h
 ·cases h
 split at h
 ·exact Xy h
 ·rename_i B;exact absurd h B
theorem asC (D:bZ)(Y:List cp)(hl:Y.length≤9223372036854775806):aK prog 66 [D.v,.pure 3 (ac Y)] [] (fun v rs=>v= .int .i64 (iN D Y)∧rs= []):=by
 have de:=Kq D Y hl;refine cr func66 Xz (by simp[a66,PT]) ?_;unfold bZ.v at *;simp only[go_sem,a66,PT];refine oW [] [] (by simp) rfl (pN _ (by first|rfl|simp only[go_sem,cw])) de ?_;rintro v rs aQ;unfold yL at aQ;refine⟨.inl rfl,?_⟩
 by_cases h:iN D Y=0
 ·rw[if_pos h] at aQ;obtain⟨rfl,rfl⟩:=aQ;simp only[go_sem];rw[h];exact s.bb rfl ⟨rfl,rfl⟩
 ·rw[if_neg h] at aQ;obtain⟨rfl,rfl⟩:=aQ;simp only[go_sem];exact s.bb rfl ⟨rfl,rfl⟩
def sF (b e l:Int):Nat→List rE→Int×Int→Int×Int
 |_,[],a=>a
 |c,v::vs,a=>sF b e l (c+1) vs (if ((-e≤b-v.J∧b-v.J≤l)∨(0≤b-v.J∧b < v.T))∧(a.1 < 0∨max (b-v.J) (-(b-v.J)) < a.2) then ((c:Int),max (b-v.J) (-(b-v.J))) else a)
theorem asD {b e l:Int}{vs:List rE}{c:Nat}{a:Int×Int}(h:c < vs.length):sF b e l c (vs.drop c) a=sF b e l (c+1) (vs.drop (c+1)) (if ((-e≤b-vs[c].J∧b-vs[c].J≤l)∨(0≤b-vs[c].J∧b < vs[c].T))∧(a.1 < 0∨max (b-vs[c].J) (-(b-vs[c].J)) < a.2) then ((c:Int),max (b-vs[c].J) (-(b-vs[c].J))) else a):=by
 rw[List.drop_eq_getElem_cons h,sF]
theorem PU {b e l:Int}: ∀ {vs:List rE} {c:Nat} {a:Int×Int},-1≤a.1→a.1 < c→ -1≤(sF b e l c vs a).1∧(sF b e l c vs a).1 < c+vs.length
 | [],c,a,h0,h1=>by rw[sF];simp;omega
 |v::vs,c,a,h0,h1=>by
  rw[sF,List.length_cons];split
  ·have:=PU (b:=b) (e:=e) (l:=l) (vs:=vs) (c:=c+1) (a:=((c:Int),max (b-v.J) (-(b-v.J)))) (by simp only;omega) (by simp only;omega);omega
  ·have:=PU (b:=b) (e:=e) (l:=l) (vs:=vs) (c:=c+1) (a:=a) h0 (by omega);omega
def bel (b e l:Int)(vs:List rE):Int:=(sF b e l 0 vs (-1,0)).1
theorem XA (b e l:Int)(vs:List rE): -1≤bel b e l vs∧bel b e l vs < vs.length:=by
 have:=PU (b:=b) (e:=e) (l:=l) (vs:=vs) (c:=0) (a:=(-1,0)) (by decide) (by decide);unfold bel;omega
theorem asE (vs:List rE)(hl:vs.length≤1024)(ag: ∀ v∈vs,0≤v.J∧v.J≤120968640)(b e l:Int)(Z:0≤b∧b≤120968640)(he:0≤e∧e≤1440):aK prog 153 [.pure 2 (ac vs),.int .i64 b,.int .i64 e,.int .i64 l] [] (fun v rs=>v= .int .i64 (bel b e l vs)∧rs= []):=by
 refine cr func153 XB (by simp[DC,Gq]) ?_;simp only[go_sem,DC,Gq,bO]
 try rw[show Int.negSucc 0= -1 from rfl]
 refine dR (fun r d=> ∃ (c:Nat) (a0 cz:Int),c≤vs.length∧ -1≤a0∧a0 < c∧sF b e l 0 vs (-1,0)=sF b e l c (vs.drop c) (a0,cz)∧r= [(1,.int .i64 b),(2,.int .i64 e),(3,.int .i64 l),(9,.int .i64 a0),(10,.int .i64 cz),(16,.pure 2 (ac vs)),(17,.int .i64 vs.length),(18,.int .i64 c)]∧d= [])
  (fun r _=>match bn r 18 with| .int _ j=>(vs.length-j).toNat|_=>0) ?_ ?_
 ·exact s.U ⟨0,-1,0,by omega,by omega,by omega,rfl,rfl,rfl⟩
 rintro r d ⟨c,a0,cz,an,XC,AN,aq,rfl,rfl⟩;have aR:=dr (c:=c) (by omega)
 by_cases aC:c < vs.length
 rotate_left
 ·have h1:decide ((c:Int) < vs.length)=false:=decide_eq_false (by omega);obtain rfl:c=vs.length:=by omega
  simp only[go_sem,DC,Gq,h1];rw[List.drop_length,sF] at aq;exact s.bb rfl ⟨by unfold bel;rw[aq],rfl⟩
 have h1:decide ((c:Int) < vs.length)=true:=decide_eq_true (by omega);have z0: (0:Int)≤c:=by omega
 have lj: (c:Int) < vs.length:=by omega
 have ao: (ac vs).getD c []=aG.F vs[c]:=cQ aC;rw[asD aC] at aq;have Kr:=ag vs[c] (List.getElem_mem aC);generalize vs[c]=v at *;obtain⟨ax,fr⟩: ∃ ax,ax=b-v.J:=⟨_,rfl⟩;rw[←fr] at aq;have cW:IntKind.i64.wrap (b-v.J)=ax:=by rw[bf (by omega) (by omega),fr]
 have gg:IntKind.i64.wrap (0-e)= -e:=by rw[bf (by omega) (by omega)];omega
 have hS:IntKind.i64.wrap (0-ax)= -ax:=by rw[bf (by omega) (by omega)];omega
 simp only[go_sem,DC,Gq,h1,z0,lj,ao,bO,yJ,cW,gg,hS]
 by_cases c1: (-e≤ax∧ax≤l)∨(0≤ax∧b < v.T)
 ·by_cases c2:a0 < 0∨max ax (-ax) < cz
  ·rw[if_pos ⟨c1,c2⟩] at aq
   repeat' ((first|refine gF ?_ ?_|refine gP ?_ ?_|refine cg ?_ ?_|refine dg ?_ ?_)<;>intro ao<;>(have ae:=ao;try simp only[bA] at ae)<;>(first|omega| (simp only[go_sem,ao,aR,cW,gg,hS];clear ao)))
   all_goals ((refine s.bw [] ?_;simp only[go_sem]);refine s.U ⟨⟨c+1,c,max ax (-ax),by omega,by omega,by omega,aq,rfl,rfl⟩,?_⟩;simp only[go_sem];omega)
  ·rw[if_neg (fun h=>c2 h.2)] at aq
   repeat' ((first|refine gF ?_ ?_|refine gP ?_ ?_|refine cg ?_ ?_|refine dg ?_ ?_)<;>intro ao<;>(have ae:=ao;try simp only[bA] at ae)<;>(first|omega| (simp only[go_sem,ao,aR,cW,gg,hS];clear ao)))
   all_goals ((refine s.bw [] ?_;simp only[go_sem]);refine s.U ⟨⟨c+1,a0,cz,by omega,by omega,by omega,aq,rfl,rfl⟩,?_⟩;simp only[go_sem];omega)
 ·rw[if_neg (fun h=>c1 h.1)] at aq
  repeat' ((first|refine gF ?_ ?_|refine gP ?_ ?_|refine cg ?_ ?_|refine dg ?_ ?_)<;>intro ao<;>(have ae:=ao;try simp only[bA] at ae)<;>(first|omega| (simp only[go_sem,ao,aR,cW,gg,hS];clear ao)))
  all_goals ((refine s.bw [] ?_;simp only[go_sem]);refine s.U ⟨⟨c+1,a0,cz,by omega,by omega,by omega,aq,rfl,rfl⟩,?_⟩;simp only[go_sem];omega)
structure eL where
 bK:Int
 ab:Int
 O:List Pr.dx
instance:aG eL:=⟨fun a=> [.int .i64 a.bK,.int .i64 a.ab,.pure 3 (ac a.O)],3,fun _=>rfl,fun a=>by simp only[bP,bE,cw,Bool.and_self,Bool.and_true,Bool.true_and],fun _=>rfl⟩
theorem Qh (e:eL):aG.F e= [.int .i64 e.bK,.int .i64 e.ab,.pure 3 (ac e.O)]:=rfl
theorem auf:aG.N eL=3:=rfl
theorem aug (e:eL):List.take 3 (aG.F e)=aG.F e:=rfl
attribute [go_sem] auf aug
def GP (a b:Int)(o:eL):Bool:=decide (o.bK=a∧o.ab=b)
def cE (a b:Int):List eL→Nat
 | []=>0
 |o::t=>if GP a b o then 0 else cE a b t+1
theorem Qz (a b:Int): ∀ ds:List eL,cE a b ds≤ds.length
 | []=>Nat.le_refl _
 |o::t=>by
  have:=Qz a b t;unfold cE;split
  ·omega
  ·rw[List.length_cons];omega
def fy (a b:Int)(p:Pr.dx):List eL→List eL
 | []=> [⟨a,b,[p]⟩]
 |o::t=>if GP a b o then ⟨o.bK,o.ab,o.O++ [p]⟩::t else o::fy a b p t
theorem DR {a b:Int}{p:Pr.dx}: ∀ {ds:List eL},cE a b ds=ds.length→fy a b p ds=ds++ [⟨a,b,[p]⟩]
 | [],_=>rfl
 |o::t,h=>by
  unfold cE at h;unfold fy;split at h
  ·simp at h
  ·rename_i aq;rw[if_neg aq,DR (by simpa using h)];rfl
theorem uc {a b:Int}{p:Pr.dx}: ∀ {ds:List eL} (h:cE a b ds < ds.length),fy a b p ds=ds.set (cE a b ds) ⟨ds[cE a b ds].bK,ds[cE a b ds].ab,ds[cE a b ds].O++ [p]⟩
 |o::t,h=>by
  by_cases aq:GP a b o
  ·have e:cE a b (o::t)=0:=by unfold cE;rw[if_pos aq]
   unfold fy;rw[if_pos aq];simp only[e,List.set_cons_zero,List.getElem_cons_zero]
  ·have e:cE a b (o::t)=cE a b t+1:=by rw[cE,if_neg aq]
   have cJ:cE a b t < t.length:=by rw[e] at h;simpa using h
   unfold fy;rw[if_neg aq,uc cJ];simp only[e,List.set_cons_succ,List.getElem_cons_succ]
def fR:Nat→List eL→List (z×z)
 |_,[]=> []
 |c,o::t=>(.agg [.int .i64 o.bK,.int .i64 o.ab],.int .i64 (c:Int))::fR (c+1) t
theorem Yr (a b F o:Int):fp (.agg [.int .i64 a,.int .i64 b]) (.agg [.int .i64 F,.int .i64 o])=decide (F=a∧o=b):=by
 simp only[fp,cf,dU,Bool.and_true];rw[Bool.eq_iff_iff];simp only[Bool.and_eq_true,beq_iff_eq,decide_eq_true_eq];constructor<;>rintro⟨h1,B⟩<;>exact⟨h1.symm,B.symm⟩
theorem GQ {a b:Int}: ∀ {ds:List eL} {c:Nat},dd (.agg [.int .i64 a,.int .i64 b]) (fR c ds)=if cE a b ds < ds.length then some (.int .i64 ((c+cE a b ds:Nat):Int)) else none
 | [],c=>by simp[fR,dd,cE]
 |o::t,c=>by
  have ih:=GQ (a:=a) (b:=b) (ds:=t) (c:=c+1);rw[fR,dd,Yr,cE];unfold GP
  by_cases aq:o.bK=a∧o.ab=b
  ·simp[aq]
  ·simp only[aq,decide_false,Bool.false_eq_true,if_false,ih,List.length_cons,Nat.add_lt_add_iff_right];split
   ·congr 3;omega
   ·rfl
theorem Ys {a b:Int}{v:z}: ∀ {ds:List eL} {c:Nat},cE a b ds=ds.length→dp (.agg [.int .i64 a,.int .i64 b]) v (fR c ds)=fR c ds++ [(.agg [.int .i64 a,.int .i64 b],v)]
 | [],c,_=>rfl
 |o::t,c,h=>by
  unfold cE at h;split at h
  ·simp at h
  ·rename_i aq;have ih:=Ys (a:=a) (b:=b) (v:=v) (ds:=t) (c:=c+1) (by simpa using h);rw[fR,dp,Yr,ih];unfold GP at aq;simp only[decide_eq_true_eq] at aq;simp[aq]
theorem Yt {o:eL}: ∀ {ds:List eL} {c:Nat},fR c (ds++ [o])=fR c ds++ [(.agg [.int .i64 o.bK,.int .i64 o.ab],.int .i64 ((c+ds.length:Nat):Int))]
 | [],c=>rfl
 |x::t,c=>by
  rw[List.cons_append,fR,Yt,fR,List.cons_append,List.length_cons,show c+1+t.length=c+(t.length+1) by omega]
theorem Yu: ∀ {ds al:List eL} {c:Nat},ds.map (fun o=>(o.bK,o.ab))=al.map (fun o=>(o.bK,o.ab))→fR c ds=fR c al
 | [],[],_,_=>rfl
 | [],_::_,_,h=>by simp at h
 |_::_,[],_,h=>by simp at h
 |o::ds,e::al,c,h=>by
  simp only[List.map_cons,List.cons.injEq,Prod.mk.injEq] at h;rw[fR,fR,Yu h.2,h.1.1,h.1.2]
theorem auh {a b:Int}{p:Pr.dx}{ds:List eL}(c:Nat)(h:cE a b ds < ds.length):fR c (fy a b p ds)=fR c ds:=by
 refine Yu ?_;rw[uc h,List.map_set];refine List.ext_getElem (by simp) fun j h1 B=> ?_;rw[List.getElem_set];split
 ·rename_i e;subst e;simp
 ·rfl
theorem aui {a b:Int}{p:Pr.dx}{ds:List eL}(c:Nat)(h:cE a b ds=ds.length):fR c (fy a b p ds)=dp (.agg [.int .i64 a,.int .i64 b]) (.int .i64 ((c+ds.length:Nat):Int)) (fR c ds):=by
 rw[DR h,Yt,Ys h]
theorem Yv {n:Nat}: ∀ {ds:List eL} {c:Nat},mU n (fR c ds)=true
 | [],_=>rfl
 |o::t,c=>by
  show (di n (.agg [.int .i64 o.bK,.int .i64 o.ab])&&di n (.int .i64 (c:Int))&&mU n (fR (c+1) t))=true;rw[Yv];rfl
def pY (X:Nat→Nat)(c:Nat)(o:eL):List z:= [.int .i64 o.bK,.int .i64 o.ab,.own (X c) o.O.length 0 o.O.length]
def gh (X:Nat→Nat)(ds:List eL):List (List z):=ds.mapIdx (pY X)
theorem kh {X:Nat→Nat}{ds:List eL}: (gh X ds).length=ds.length:=by simp[gh]
theorem KQ {X:Nat→Nat}{ds:List eL}{c:Nat}(h:c < ds.length): (gh X ds)[c]? =some (pY X c ds[c]):=by simp[gh,h]
theorem KR {n:Nat}{X:Nat→Nat}{ds:List eL}(h: ∀ c,c < ds.length→X c < n):lG n (gh X ds)=true:=by
 have: ∀ dM:List (List z),(∀ F∈dM,gl n F=true)→lG n dM=true:=by
  intro dM
  induction dM with
  |nil=>intro _;rfl
  |cons F dM ih=>
   intro h;rw[lG,h F List.mem_cons_self,ih fun x ad=>h x (List.mem_cons_of_mem _ ad)];rfl
 refine this _ fun F V=> ?_;obtain⟨c,an,rfl⟩:=List.getElem_of_mem V;rw[kh] at an;have:=KQ (X:=X) an;rw[List.getElem?_eq_getElem (by rw[kh];exact an)] at this;rw[Option.some.inj this];unfold pY;simp only[gl,di,Bool.and_true,Bool.true_and,decide_eq_true_eq];exact h c an
structure Bo (d:List R) (D:bZ) (ds:List eL) (X:Nat→Nat):Prop where
 all:jA d
 D:d[0]? =some (.aa 32 2 [[.int .i64 D.off,.pure 2 (ac D.cK)]])
 m:d[1]? =some (.aY (.map true [.int .i64,.int .i64] (fR 0 ds)))
 o:d[2]? =some (.aa 157 3 (gh X ds))
 x: ∀ c (h:c < ds.length),d[X c]? =some (.aa 88 3 (ac ds[c].O))
 inj: ∀ c j,c < ds.length→j < ds.length→X c=X j→c=j
theorem QA {X:Nat→Nat}{ds:List eL}{k:Nat}{o:eL}:gh X (ds.set k o)=(gh X ds).set k (pY X k o):=by
 unfold gh;refine List.ext_getElem (by simp) fun j h1 B=> ?_;rw[List.getElem_mapIdx,List.getElem_set,List.getElem_set];split
 ·rename_i e;subst e;rfl
 ·rw[List.getElem_mapIdx]
theorem QB {X:Nat→Nat}{ds:List eL}{o:eL}:gh X (ds++ [o])=gh X ds++ [pY X ds.length o]:=by unfold gh;rw[List.mapIdx_append];simp
theorem QC {X yV:Nat→Nat}{ds:List eL}(h: ∀ c,c < ds.length→X c=yV c):gh X ds=gh yV ds:=by
 unfold gh;refine List.ext_getElem (by simp) fun j h1 B=> ?_;rw[List.getElem_mapIdx,List.getElem_mapIdx];unfold pY;rw[h j (by simpa using h1)]
theorem rK {d:List R}{D:bZ}{ds:List eL}{X:Nat→Nat}(h:Bo d D ds X){c:Nat}(an:c < ds.length):X c≠0∧X c≠1∧X c≠2∧X c < d.length:=by
 have ad:=h.x c an;refine⟨fun e=> ?_,fun e=> ?_,fun e=> ?_,jP ad⟩
 ·rw[e,h.D] at ad;simp at ad
 ·rw[e,h.m] at ad;cases ad
 ·rw[e,h.o] at ad;simp at ad
theorem Yw {d W:List R}{D:bZ}{ds:List eL}{X:Nat→Nat}(h:Bo d D ds X){a b:Int}{p:Pr.dx}(ae:cE a b ds < ds.length)(hW:jA W)
 (bi: ∀ i bz,d[i]? =some bz→i≠2→i≠X (cE a b ds)→W[i]? =some bz)
 (B:W[2]? =some (.aa 157 3 ((gh X ds).set (cE a b ds) (pY X (cE a b ds) ⟨ds[cE a b ds].bK,ds[cE a b ds].ab,ds[cE a b ds].O++ [p]⟩))))
 (aQ:W[X (cE a b ds)]? =some (.aa 88 3 (ac (ds[cE a b ds].O++ [p])))):Bo W D (fy a b p ds) X:=by
 obtain⟨aX,n1,ec,_⟩:=rK h ae;have hl: (fy a b p ds).length=ds.length:=by rw[uc ae,List.length_set]
 refine⟨hW,bi _ _ h.D (by omega) (fun e=>aX e.symm),?_,by rw[uc ae,QA];exact B,fun c an=> ?_,fun c j an aT=>h.inj c j (by omega) (by omega)⟩
 ·rw[auh 0 ae];exact bi _ _ h.m (by omega) (fun e=>n1 e.symm)
 ·rw[hl] at an;simp only[uc ae,List.getElem_set]
  by_cases e:cE a b ds=c
  ·subst e;rw[if_pos rfl];exact aQ
  ·rw[if_neg e];exact bi _ _ (h.x c an) (rK h an).2.2.1 fun bJ=>e (h.inj _ _ ae an bJ.symm)
theorem Yx {d W:List R}{D:bZ}{ds:List eL}{X:Nat→Nat}(h:Bo d D ds X){a b:Int}{p:Pr.dx}(ae:cE a b ds=ds.length)(q:Nat)(auj:d.length≤q)(hW:jA W)
 (bi: ∀ i bz,d[i]? =some bz→i≠1→i≠2→W[i]? =some bz)
 (h1:W[1]? =some (.aY (.map true [.int .i64,.int .i64] (dp (.agg [.int .i64 a,.int .i64 b]) (.int .i64 (ds.length:Int)) (fR 0 ds)))))
 (B:W[2]? =some (.aa 157 3 (gh X ds++ [[.int .i64 a,.int .i64 b,.own q 1 0 1]])))
 (aQ:W[q]? =some (.aa 88 3 (ac [p]))): ∃ yV,Bo W D (fy a b p ds) yV:=by
 refine⟨fun c=>if c < ds.length then X c else q,?_⟩;rw[DR ae];refine⟨hW,bi _ _ h.D (by omega) (by omega),?_,?_,fun c an=> ?_,fun c j an aT=> ?_⟩
 ·rw[←DR ae,aui 0 ae,Nat.zero_add];exact h1
 ·rw[QB,B];congr 3
  ·exact QC fun c an=>by rw[if_pos an]
  ·unfold pY;simp
 ·rw[List.length_append,List.length_singleton] at an
  by_cases e:c < ds.length
  ·simp only[if_pos e,List.getElem_append_left e];exact bi _ _ (h.x c e) (rK h e).2.1 (rK h e).2.2.1
  ·obtain rfl:c=ds.length:=by omega
   simp only[Nat.lt_irrefl,if_false,List.getElem_append_right (Nat.le_refl _),Nat.sub_self,List.getElem_cons_zero];exact aQ
 ·rw[List.length_append,List.length_singleton] at an aT
  by_cases e:c < ds.length<;>by_cases f:j < ds.length
  ·simp only[if_pos e,if_pos f];exact h.inj c j e f
  ·simp only[if_pos e,if_neg f];intro g;have:=(rK h e).2.2.2;omega
  ·simp only[if_neg e,if_pos f];intro g;have:=(rK h f).2.2.2;omega
  ·intro _;omega
theorem auk {d:List R}{D:bZ}{ds:List eL}{X:Nat→Nat}(h:Bo d D ds X):lD d [some 2] (List.range d.length) (gh X ds)=ac ds:=by
 rw[JC];unfold ac;refine List.ext_getElem (by simp[gh]) fun j h1 B=> ?_;have aT:j < ds.length:=by simpa using B
 rw[List.getElem_map,List.getElem_map];have ao:=KQ (X:=X) aT;rw[List.getElem?_eq_getElem (by rw[kh];exact aT)] at ao;rw[Option.some.inj ao];obtain⟨_,_,ec,hl⟩:=rK h aT;unfold pY;have Z:bU d [some 2] (List.range d.length) (.own (X j) ds[j].O.length 0 ds[j].O.length)= .pure 3 (ac ds[j].O):=by
  refine pO ?_ ?_ (h.x j aT) (by rw[bO]) cw
  ·simp[hR,ec.symm]
  ·simp;exact hl
 simp only[dV,Z];rfl
end Go.Proofs.YtpincjkjoeopkaaGreatDoor
