/- Presences and working time. -/
import Derived.Test.YtpincjkjoeopkaaGreatDoorD24
import Derived.Test.YtpincjkjoeopkaaGreatDoorD29
import Derived.Test.YtpincjkjoeopkaaGreatDoorD19
import Derived.Test.YtpincjkjoeopkaaGreatDoorD15
set_option linter.all false
namespace Go.Proofs.YtpincjkjoeopkaaGreatDoor.Pr
open Go Go.Abs Go.Proofs.Tryz
def hR (v:bx)(a b:Int):Bool:=decide (a≤v.R∧v.R < v.ab∧v.ab≤b)
def dd:Int→Int→List bx→Bool
 |_,_,[]=>true
 |e,t,b::z=>hR b e t&&dd b.ab t z
def tL (e:Int)(p:dF):Bool:=hR ⟨p.R,p.ab⟩ e 120968640&&decide (p.ey.length≤1024)&&dd p.R p.ab p.ey
def io:Int→List dF→Bool
 |_,[]=>true
 |e,p::z=>tL e p&&io p.ab z
def lx (l:List dF):Int:=if 1024 < l.length then 1 else if io 0 l then 0 else 1
theorem ajc (f t a b:Int):aO prog 225 [.agg [.int .i64 f,.int .i64 t],.int .i64 a,.int .i64 b] [] (fun v rs=>v= .bool (hR ⟨f,t⟩ a b)∧rs= []):=by
 refine cu func225 afj (by simp[II,N8]) ?_;simp only[go_sem,II,N8]
 repeat' ((first|refine gv ?_ ?_|refine gw ?_ ?_|refine cf ?_ ?_|refine dj ?_ ?_)<;>intro aw<;>(have ak:=aw;try simp only[bC] at ak)<;>(first|omega| (simp only[go_sem,aw,II,N8];clear aw)))
 all_goals (refine E.bg rfl ⟨congrArg F.bool ?_,rfl⟩;rw[hR,Bool.eq_iff_iff];simp only[bC,Bool.false_eq_true,false_iff];omega)
theorem lQ (l:List dF)(hl:l.length≤9223372036854775806):aO prog 152 [.pure 3 (ai l)] [] (fun v rs=>v= .int .i64 (lx l)∧rs= []):=by
 refine cu func152 aef (by simp[sH,ul]) ?_;simp only[go_sem,sH,ul];refine cf ?_ ?_<;>intro dI<;>simp only[bC] at dI<;>simp only[go_sem,sH,ul]
 ·exact E.bg rfl ⟨by rw[lx,if_pos (by omega)],rfl⟩
 have pM:lx l=if io 0 l then 0 else 1:=by rw[lx,if_neg (by omega)]
 refine dN (fun D r=> ∃ (c:Nat) (e:Int),c≤l.length∧io 0 l=io e (l.drop c)∧D= [(3,.int .i64 e),(11,.pure 3 (ai l)),(12,.int .i64 l.length),(13,.int .i64 c)]∧r= [])
  (fun D _=>match bs D 13 with| .int _ j=>(l.length-j).toNat|_=>0) ?_ ?_
 ·exact E.ac ⟨0,0,by omega,by simp,rfl,rfl⟩
 ·rintro D r ⟨c,e,av,hb,rfl,rfl⟩;simp only[go_sem,sH,ul];refine cf ?_ ?_<;>intro ct<;>simp only[bC] at ct<;>simp only[go_sem,sH,ul]
  ·have aI:c < l.length:=by omega
   refine⟨by omega,by omega,?_⟩
   try simp only[Int.toNat_natCast]
   rw[cT aI,H3];rw[oF aI,io] at hb;generalize l[c]=p at hb ⊢;simp only[go_sem,sH,ul];refine bM (ajc p.R p.ab e 120968640) rfl rfl ?_;simp only[go_sem]
   repeat' ((first|refine gv ?_ ?_|refine gw ?_ ?_|refine cf ?_ ?_|refine dj ?_ ?_)<;>intro aw<;>(have ak:=aw;try simp only[bC] at ak)<;>(first|omega| (simp only[go_sem,aw,sH,ul];clear aw)))
   ·exact E.bg rfl ⟨by rw[pM,hb,tL,ak];simp,rfl⟩
   ·exact E.bg rfl ⟨by rw[pM,hb,tL,decide_eq_false (p:=p.ey.length≤1024) (by omega)];simp,rfl⟩
   rename_i vP;refine dN (fun D r=> ∃ (k:Nat) (e:Int),k≤p.ey.length∧dd p.R p.ab p.ey=dd e p.ab (p.ey.drop k)∧D= [(3,.int .i64 e),(5,.bd 0 1 0 0),(11,.pure 3 (ai l)),(12,.int .i64 l.length),(13,.int .i64 c),(32,.pure 2 (ai p.ey)),(33,.int .i64 p.ey.length),(34,.int .i64 k)]∧r= [.ag 88 3 [[.int .i64 p.R,.int .i64 p.ab,.pure 2 (ai p.ey)]]])
    (fun D _=>match bs D 34 with| .int _ j=>(p.ey.length-j).toNat|_=>0) ?_ ?_
   ·exact E.ac ⟨0,p.R,by omega,by simp,rfl,rfl⟩
   ·rintro D r ⟨k,e,O,pP,rfl,rfl⟩;simp only[go_sem,sH,ul];refine cf ?_ ?_<;>intro fH<;>simp only[bC] at fH<;>simp only[go_sem,sH,ul]
    ·have Aa:k < p.ey.length:=by omega
     refine⟨by omega,by omega,?_⟩
     try simp only[Int.toNat_natCast]
     rw[cT Aa,eY];rw[oF Aa,dd] at pP;generalize p.ey[k]=b at pP ⊢;simp only[go_sem,sH,ul];refine bM (ajc b.R b.ab e p.ab) rfl rfl ?_;simp only[go_sem];have aP:=dB (c:=k) (by omega);refine cf ?_ ?_<;>intro pd<;>simp only[bC] at pd<;>simp only[go_sem,sH,ul,aP]
     ·refine E.bg rfl ⟨?_,rfl⟩;rw[pM,hb,tL,pP];rw[show hR b e p.ab=false from pd];simp
     ·(refine E.bB [some 0] ?_;simp only[go_sem])
      refine E.ac ⟨⟨k+1,b.ab,by omega,?_,rfl,rfl⟩,?_⟩
      ·rw[pP,show hR b e p.ab=true from pd,Bool.true_and]
      ·simp only[go_sem];omega
    ·have yF:k=p.ey.length:=by omega
     rw[yF,List.drop_length,dd] at pP;have aP:=dB (c:=c) (by omega);rw[aP]
     (refine E.bB [] ?_;simp only[go_sem])
     refine E.ac ⟨⟨c+1,p.ab,by omega,?_,rfl,rfl⟩,?_⟩
     ·rw[hb,tL,vP,pP,decide_eq_true (p:=p.ey.length≤1024) (by omega)];simp
     ·simp only[go_sem];omega
  ·have:c=l.length:=by omega
   subst this;exact E.bg rfl ⟨by rw[pM,hb];simp[io],rfl⟩
end Go.Proofs.YtpincjkjoeopkaaGreatDoor.Pr
namespace Go.Proofs.YtpincjkjoeopkaaGreatDoor
open Go Go.Abs Go.Proofs.Tryz
set_option maxRecDepth 20000 in
theorem awp:aO prog 154 [.pure 2 []] [] (fun v rs=>v= .pure 2 []∧rs= []):=by
 refine aO.D2 fun C dA N aA hG dv=> ?_;rw[aE] at dv;obtain⟨v,bS,rfl,h1,G⟩:=dv;rw[aE] at G;subst G;rw[Rep] at h1;obtain⟨cy,cap,rfl,_,_⟩:=h1;have aP: (Go.RowKit.Below C.w.heap.size C.w C.w∧C.w.drawn≤C.w.drawn):=⟨Go.RowKit.Below.refl _ _,Nat.le_refl _⟩
 go_enter func154,ntmps154
 cases cy with
 |none=>
  go_wp2
  rw[Z5]
  go_wp2
  go_ret
  exact⟨_,.pure 2 [],rfl,aP,fun aB _=>(by rw[Rep];exact⟨none,0,rfl,Nat.le_refl _,.inl rfl⟩),rfl,trivial⟩
 |some a=>
  go_wp2
  rw[Z6]
  go_wp2
  go_ret
  exact⟨_,.pure 2 [],rfl,⟨aP.1.alloc (Nat.le_refl _) _,aP.2⟩,fun aB _=>(by rw[Rep];exact⟨_,_,rfl,Nat.le_refl _,.inl rfl⟩),rfl,trivial⟩
theorem Ma (l:List Pr.bx)(hl:l.length≤100000):aO prog 154 [.pure 2 (ai l)] [] (fun v rs=>v= .pure 2 (ai l)∧rs= []):=by
 by_cases h:l= []
 ·subst h;exact awp
 have ak:0 < l.length:=List.length_pos_iff.2 h;refine cu func154 Z7 (by simp[Mf,R3]) ?_;simp only[go_sem,Mf,R3,bT];refine⟨ak,by omega,?_⟩;have nL:bW [.ag 64 2 (ai l)] [] [0] (.own 0 l.length 0 l.length)= .pure 2 (ai l):=qx rfl rfl rfl (by rw[bT]) ck;refine E.jN [] [0] rfl rfl (by simp only[go_sem]<;>rfl) ?_;have nF:List.take l.length (ai l)=ai l:=List.take_of_length_le (by rw[bT];exact Nat.le_refl _);simp only[go_sem,nL,bT,ck,nF];exact E.ac ⟨rfl,rfl⟩
structure sr where
 R:Int
 ab:Int
instance:aJ sr:=⟨fun a=> [.int .i64 a.R,.int .i64 a.ab],2,fun _=>rfl,fun _=>rfl,fun _=>rfl⟩
theorem zT (e:sr):aJ.J e= [.int .i64 e.R,.int .i64 e.ab]:=rfl
theorem auf:aJ.U sr=2:=rfl
theorem aug (e:sr):List.take 2 (aJ.J e)=aJ.J e:=rfl
attribute [go_sem] auf aug
theorem auh {bj:Type}[aJ bj]{l:List bj}{k:Nat}{u:bj}(h:l[k]? =some u): (ai l).getD k []=aJ.J u:=by
 rw[List.getD_eq_getElem?_getD];unfold ai;rw[List.getElem?_map,h];rfl
def yh (I:cw):Prop:=(0≤I.ah∧I.ah≤84005)∧(0≤I.bw∧I.bw < 1440)∧1≤I.cN∧I.cN≤1440
instance (I:cw):Decidable (yh I):=inferInstanceAs (Decidable ((0≤I.ah∧I.ah≤84005)∧(0≤I.bw∧I.bw < 1440)∧1≤I.cN∧I.cN≤1440))
def qB (M:cc)(I:cw):Int:=uY M (I.ah*1440+I.bw)
def ew (M:cc)(I:cw):Int:=if fe M=0 then if yh I then if qB M I+I.cN>120968640 then 2 else 0 else 2 else fe M
def fW (M:cc)(I:cw):sr:=if ew M I=0 then ⟨qB M I,qB M I+I.cN⟩ else ⟨0,0⟩
theorem YH (M:cc)(I:cw):aO prog 155 [M.v,.agg (aJ.J I)] [] (fun v rs=>v= .bo [.agg (aJ.J (fW M I)),.int .i64 (ew M I)]∧rs= []):=by
 have hV:=Ch M;refine cu func155 YI (by simp[zU,Cj]) ?_;have hF:=fun h: -1000000000≤I.ah*1440+I.bw=>atV M (I.ah*1440+I.bw) h
 by_cases h:fe M=0
 rotate_left
 ·have e:ew M I=fe M:=by unfold ew;rw[if_neg h]
  have bK:fW M I=⟨0,0⟩:=by unfold fW;rw[e,if_neg h]
  have cR: (fe M != 0)=true:=bne_iff_ne.2 h;rw[e,bK];unfold cc.v at *;simp only[go_sem,zU,Cj,uZ,zT];refine bM hV rfl rfl ?_;simp only[go_sem,cR];exact E.bg rfl ⟨rfl,rfl⟩
 by_cases ao:yh I
 rotate_left
 ·have e:ew M I=2:=by unfold ew;rw[if_pos h,if_neg ao]
  have bK:fW M I=⟨0,0⟩:=by unfold fW;rw[e,if_neg (by decide)]
  rw[e,bK];unfold cc.v at *;rw[h] at hV;unfold yh at ao;simp only[go_sem,zU,Cj,uZ,zT];refine bM hV rfl rfl ?_;simp only[go_sem,bne_self_eq_false];clear hF hV e bK
  repeat' ((first|refine gv ?_ ?_|refine gw ?_ ?_|refine cf ?_ ?_|refine dj ?_ ?_)<;>intro aw<;>(have ak:=aw;try simp only[bC] at ak)<;>(first|omega| (simp only[go_sem,aw,zU,Cj];clear aw)))
  all_goals exact E.bg rfl ⟨rfl,rfl⟩
 have hb:=Yy (wv h) (I.ah*1440+I.bw);have xC:=ao;unfold yh at xC
 replace hF:=hF (by omega)
 rw[if_pos h] at hF;have d1:decide (I.ah < 0)=false:=decide_eq_false (by omega);have ky:decide (84005 < I.ah)=false:=decide_eq_false (by omega);have vZ:decide (I.bw < 0)=false:=decide_eq_false (by omega);have zC:decide (1440≤I.bw)=false:=decide_eq_false (by omega);have Hw:decide (I.cN < 1)=false:=decide_eq_false (by omega);have Hx:decide (1440 < I.cN)=false:=decide_eq_false (by omega);have dn:IntKind.i64.wrap (I.ah*1440)=I.ah*1440:=bl (by omega) (by omega);have gI:IntKind.i64.wrap (I.ah*1440+I.bw)=I.ah*1440+I.bw:=bl (by omega) (by omega);have ik:IntKind.i64.wrap (qB M I+I.cN)=qB M I+I.cN:=by unfold qB;exact bl (by omega) (by omega)
 by_cases ad:qB M I+I.cN>120968640
 ·have e:ew M I=2:=by unfold ew;rw[if_pos h,if_pos ao,if_pos ad]
  have bK:fW M I=⟨0,0⟩:=by unfold fW;rw[e,if_neg (by decide)]
  have kS:120968640 < qB M I+I.cN:=ad;rw[e,bK];unfold cc.v at *;rw[h] at hV;simp only[go_sem,zU,Cj,uZ,zT];refine bM hV rfl rfl ?_;simp only[go_sem,bne_self_eq_false,d1,ky,vZ,zC,Hw,Hx,dn,gI];refine bM hF rfl rfl ?_;rw[show uY M (I.ah*1440+I.bw)=qB M I from rfl];simp only[go_sem,ik,kS];exact E.bg rfl ⟨rfl,rfl⟩
 ·have e:ew M I=0:=by unfold ew;rw[if_pos h,if_pos ao,if_neg ad]
  have bK:fW M I=⟨qB M I,qB M I+I.cN⟩:=by unfold fW;rw[if_pos e]
  have kS:decide (120968640 < qB M I+I.cN)=false:=decide_eq_false ad;rw[e,bK];unfold cc.v at *;rw[h] at hV;simp only[go_sem,zU,Cj,uZ,zT];refine bM hV rfl rfl ?_;simp only[go_sem,bne_self_eq_false,d1,ky,vZ,zC,Hw,Hx,dn,gI];refine bM hF rfl rfl ?_;rw[show uY M (I.ah*1440+I.bw)=qB M I from rfl];simp only[go_sem,ik,kS,bne_self_eq_false];exact E.bg rfl ⟨rfl,rfl⟩
def ou (M:cc):Int→List cw→Int
 |_,[]=>0
 |e,I::bV=>if ew M I=0 then if (fW M I).R < e then 1 else ou M (fW M I).ab bV else ew M I
def jd (M:cc)(ae:List cw):Int:=if 1024 < ae.length then 3 else if fe M=0 then ou M 0 ae else fe M
theorem aui {M:cc}{e:Int}{l:List cw}{c:Nat}(h:c < l.length):ou M e (l.drop c)=if ew M l[c]=0 then if (fW M l[c]).R < e then 1 else ou M (fW M l[c]).ab (l.drop (c+1)) else ew M l[c]:=by
 rw[List.drop_eq_getElem_cons h,ou]
theorem QN {M:cc}{I:cw}(h:ew M I=0):0≤(fW M I).R∧(fW M I).R < (fW M I).ab∧(fW M I).ab≤120968640:=by
 unfold fW;rw[if_pos h];unfold ew at h
 by_cases ba:fe M=0
 rotate_left
 ·rw[if_neg ba] at h;exact absurd h ba
 rw[if_pos ba] at h
 by_cases ao:yh I
 rotate_left
 ·rw[if_neg ao] at h;exact absurd h (by decide)
 rw[if_pos ao] at h;have hb:=Yy (wv ba) (I.ah*1440+I.bw);unfold yh at ao;split at h
 ·cases h
 ·unfold qB at *;simp only;omega
def zV (M:cc)(ae:List cw)(v:F)(rs:List Z):Prop:=
 if jd M ae=0 then v= .bo [.own 0 ae.length 0 ae.length,.int .i64 0]∧rs= [.ag 64 2 (ai (ae.map (fW M)))] else v= .bo [.bH,.int .i64 (jd M ae)]∧rs= []
theorem LH (M:cc)(ae:List cw)(hl:ae.length≤9223372036854775806):aO prog 143 [M.v,.pure 3 (ai ae)] [] (zV M ae):=by
 have hV:=Ch M;have du:=YH M;refine cu func143 YJ (by simp[EP,Hy]) ?_;unfold cc.v at *;simp only[go_sem,EP,Hy,bT]
 by_cases h1:1024 < ae.length
 ·have ii: (1024:Int) < ae.length:=by omega
  have e:jd M ae=3:=by unfold jd;rw[if_pos h1]
  simp only[go_sem,ii];exact E.bg rfl (by unfold zV;rw[e,if_neg (by decide)];exact⟨rfl,rfl⟩)
 have ii:decide ((1024:Int) < ae.length)=false:=decide_eq_false (by omega);simp only[go_sem,ii];refine bM hV rfl rfl ?_
 by_cases h:fe M=0
 rotate_left
 ·have cR: (fe M != 0)=true:=bne_iff_ne.2 h;have e:jd M ae=fe M:=by unfold jd;rw[if_neg h1,if_neg h]
  simp only[go_sem,cR];exact E.bg rfl (by unfold zV;rw[e,if_neg h];exact⟨rfl,rfl⟩)
 have e:jd M ae=ou M 0 ae:=by unfold jd;rw[if_neg h1,if_pos h]
 rw[h];simp only[go_sem,bne_self_eq_false];refine dN (fun D r=> ∃ (c:Nat) (e:Int),c≤ae.length∧(c=0→e=0)∧(∀ k,c=k+1→((ae.take c).map (fW M))[k]?.map sr.ab=some e)∧ou M 0 ae=ou M e (ae.drop c)∧D= [(2,.bd 0 1 0 0),(7,.own 1 c 0 c),(20,.pure 3 (ai ae)),(21,.int .i64 ae.length),(22,.int .i64 c)]∧r= [.ag 32 2 [[.int .i64 M.off,.pure 2 (ai M.cS)]],.ag 64 2 (ai ((ae.take c).map (fW M)))])
  (fun D _=>match bs D 22 with| .int _ j=>(ae.length-j).toNat|_=>0) ?_ ?_
 ·(refine E.iv 7 64 2 rfl (E.eW [2,7,20,21,22] ?_);simp only[go_sem])
  exact E.ac ⟨0,0,by omega,fun _=>rfl,fun k O=>by omega,rfl,rfl,rfl⟩
 rintro D r ⟨c,x,av,auj,QO,ay,rfl,rfl⟩;have aP:=dB (c:=c) (by omega);have hL: (ai ((ae.take c).map (fW M))).length=c:=by rw[bT,List.length_map,List.length_take];omega
 by_cases aI:c < ae.length
 rotate_left
 ·have h1:decide ((c:Int) < ae.length)=false:=decide_eq_false (by omega);obtain rfl:c=ae.length:=by omega
  simp only[go_sem,EP,Hy,h1]
  (refine E.bB [some 1] ?_;simp only[go_sem])
  rw[List.drop_length,ou] at ay;refine E.ac ?_;unfold xP zV;rw[e,if_pos ay];try rw[List.take_length]
  exact⟨rfl,rfl⟩
 have h1:decide ((c:Int) < ae.length)=true:=decide_eq_true (by omega);have z0: (0:Int)≤c:=by omega
 have mn: (c:Int) < ae.length:=by omega
 have aw: (ai ae).getD c []=aJ.J ae[c]:=cT aI;rw[aui aI] at ay;have qC:ai ((ae.take c).map (fW M))++ [aJ.J (fW M ae[c])]=ai ((ae.take (c+1)).map (fW M)):=by
  rw[kT,List.take_succ_eq_append_getElem aI,List.map_append];rfl
 have YK: ((ae.take (c+1)).map (fW M))[c]? =some (fW M ae[c]):=by
  rw[List.getElem?_map,List.getElem?_take,if_pos (by omega),List.getElem?_eq_getElem aI];rfl
 have YL:=du ae[c];have so:=QN (M:=M) (I:=ae[c]);generalize qs:ae[c]=I at *;generalize aJD:fW M I=v at *;rw[zT] at qC YL;simp only[go_sem,EP,Hy,h1,z0,mn,aw,bT,uZ];refine bM YL rfl rfl ?_
 by_cases he:ew M I=0
 rotate_left
 ·have cR: (ew M I != 0)=true:=bne_iff_ne.2 he;rw[if_neg he] at ay;simp only[go_sem,cR];refine E.bg rfl ?_;unfold zV;rw[e,ay,if_neg he];exact⟨rfl,rfl⟩
 rw[if_pos he] at ay;rw[he];simp only[go_sem,bne_self_eq_false];cases c with
 |zero=>
  obtain rfl:x=0:=auj rfl;rw[if_neg (by have:=so he;omega)] at ay;have ak:decide ((0:Int) < ((0:Nat):Int))=false:=rfl;have auk:ai ([]:List sr)++ [[.int .i64 v.R,.int .i64 v.ab]]=ai ((ae.take (0+1)).map (fW M)):=qC;have aul:IntKind.i64.wrap (0+1)=((0+1:Nat):Int):=aP;simp only[go_sem,ak,hL,auk,aul]
  (refine E.bB [some 0,some 1] ?_;simp only[go_sem])
  refine E.ac ⟨⟨0+1,v.ab,by omega,fun h=>by omega,fun k O=> ?_,ay,rfl,?_⟩,?_⟩
  ·obtain rfl:k=0:=by omega
   rw[YK];rfl
  ·rfl
  ·simp only[go_sem];omega
 |succ k=>
  have ak:decide ((0:Int) < ((k+1:Nat):Int))=true:=decide_eq_true (by omega);have dn:IntKind.i64.wrap (((k+1:Nat):Int)-1)=(k:Int):=by rw[bl (by omega) (by omega)];omega
  obtain⟨u,bc,rfl⟩: ∃ u,((ae.take (k+1)).map (fW M))[k]? =some u∧u.ab=x:=by
   have h:=QO k rfl;rw[Option.map_eq_some_iff] at h;exact h
  have aum:=auh bc;simp only[go_sem,ak,hL,dn];refine⟨by omega,by omega,?_⟩;simp only[go_sem,aum,zT]
  by_cases ad:v.R < u.ab
  ·rw[if_pos ad] at ay;simp only[go_sem,ad];refine E.bg rfl ?_;unfold zV;rw[e,ay,if_neg (by decide)];exact⟨rfl,rfl⟩
  ·rw[if_neg ad] at ay;have kS:decide (v.R < u.ab)=false:=decide_eq_false ad;simp only[go_sem,kS,hL,qC,aP];refine⟨by omega,?_⟩
   (refine E.bB [some 0,some 1] ?_;simp only[go_sem])
   refine E.ac ⟨⟨k+1+1,v.ab,by omega,fun h=>by omega,fun q aV=> ?_,ay,rfl,rfl⟩,?_⟩
   ·obtain rfl:q=k+1:=by omega
    rw[YK];rfl
   ·simp only[go_sem];omega
theorem YM {M:cc}{ae:List cw}(h:jd M ae=0):ae.length≤1024:=by
 unfold jd at h;split at h
 ·cases h
 ·omega
theorem aun {M:cc}{ae:List cw}(h:jd M ae=0):fe M=0:=by
 unfold jd at h;split at h
 ·cases h
 split at h
 ·assumption
 ·rename_i G;exact absurd h G
theorem YN {M:cc}: ∀ {l:List cw} {e:Int},ou M e l=0→ ∀ I∈l,ew M I=0
 | [],_,_,I,ao=>by simp at ao
 |x::l,e,h,I,ao=>by
  rw[ou] at h
  by_cases aj:ew M x=0
  ·rw[if_pos aj] at h;split at h
   ·cases h
   ·rcases List.mem_cons.1 ao with rfl|ao
    ·exact aj
    ·exact YN h I ao
  ·rw[if_neg aj] at h;exact absurd h aj
theorem QP {M:cc}{ae:List cw}(h:jd M ae=0): ∀ I∈ae,ew M I=0:=by
 unfold jd at h;split at h
 ·cases h
 split at h
 ·exact YN h
 ·rename_i G;exact absurd h G
theorem auo (M:cc)(ae:List cw)(hl:ae.length≤9223372036854775806):aO prog 66 [M.v,.pure 3 (ai ae)] [] (fun v rs=>v= .int .i64 (jd M ae)∧rs= []):=by
 have du:=LH M ae hl;refine cu func66 YO (by simp[a66,QQ]) ?_;unfold cc.v at *;simp only[go_sem,a66,QQ];refine om [] [] (by simp) rfl (qw _ (by first|rfl|simp only[go_sem,ck])) du ?_;rintro v rs aV;unfold zV at aV;refine⟨.inl rfl,?_⟩
 by_cases h:jd M ae=0
 ·rw[if_pos h] at aV;obtain⟨rfl,rfl⟩:=aV;simp only[go_sem];rw[h];exact E.bg rfl ⟨rfl,rfl⟩
 ·rw[if_neg h] at aV;obtain⟨rfl,rfl⟩:=aV;simp only[go_sem];exact E.bg rfl ⟨rfl,rfl⟩
def tB (b e l:Int):Nat→List sr→Int×Int→Int×Int
 |_,[],a=>a
 |c,v::vs,a=>tB b e l (c+1) vs (if ((-e≤b-v.R∧b-v.R≤l)∨(0≤b-v.R∧b < v.ab))∧(a.1 < 0∨max (b-v.R) (-(b-v.R)) < a.2) then ((c:Int),max (b-v.R) (-(b-v.R))) else a)
theorem aup {b e l:Int}{vs:List sr}{c:Nat}{a:Int×Int}(h:c < vs.length):tB b e l c (vs.drop c) a=tB b e l (c+1) (vs.drop (c+1)) (if ((-e≤b-vs[c].R∧b-vs[c].R≤l)∨(0≤b-vs[c].R∧b < vs[c].ab))∧(a.1 < 0∨max (b-vs[c].R) (-(b-vs[c].R)) < a.2) then ((c:Int),max (b-vs[c].R) (-(b-vs[c].R))) else a):=by
 rw[List.drop_eq_getElem_cons h,tB]
theorem QR {b e l:Int}: ∀ {vs:List sr} {c:Nat} {a:Int×Int},-1≤a.1→a.1 < c→ -1≤(tB b e l c vs a).1∧(tB b e l c vs a).1 < c+vs.length
 | [],c,a,h0,h1=>by rw[tB];simp;omega
 |v::vs,c,a,h0,h1=>by
  rw[tB,List.length_cons];split
  ·have:=QR (b:=b) (e:=e) (l:=l) (vs:=vs) (c:=c+1) (a:=((c:Int),max (b-v.R) (-(b-v.R)))) (by simp only;omega) (by simp only;omega);omega
  ·have:=QR (b:=b) (e:=e) (l:=l) (vs:=vs) (c:=c+1) (a:=a) h0 (by omega);omega
def bel (b e l:Int)(vs:List sr):Int:=(tB b e l 0 vs (-1,0)).1
theorem YP (b e l:Int)(vs:List sr): -1≤bel b e l vs∧bel b e l vs < vs.length:=by
 have:=QR (b:=b) (e:=e) (l:=l) (vs:=vs) (c:=0) (a:=(-1,0)) (by decide) (by decide);unfold bel;omega
theorem auq (vs:List sr)(hl:vs.length≤1024)(an: ∀ v∈vs,0≤v.R∧v.R≤120968640)(b e l:Int)(hb:0≤b∧b≤120968640)(he:0≤e∧e≤1440):aO prog 153 [.pure 2 (ai vs),.int .i64 b,.int .i64 e,.int .i64 l] [] (fun v rs=>v= .int .i64 (bel b e l vs)∧rs= []):=by
 refine cu func153 YQ (by simp[EQ,Hz]) ?_;simp only[go_sem,EQ,Hz,bT]
 try rw[show Int.negSucc 0= -1 from rfl]
 refine dN (fun D r=> ∃ (c:Nat) (a0 cH:Int),c≤vs.length∧ -1≤a0∧a0 < c∧tB b e l 0 vs (-1,0)=tB b e l c (vs.drop c) (a0,cH)∧D= [(1,.int .i64 b),(2,.int .i64 e),(3,.int .i64 l),(9,.int .i64 a0),(10,.int .i64 cH),(16,.pure 2 (ai vs)),(17,.int .i64 vs.length),(18,.int .i64 c)]∧r= [])
  (fun D _=>match bs D 18 with| .int _ j=>(vs.length-j).toNat|_=>0) ?_ ?_
 ·exact E.ac ⟨0,-1,0,by omega,by omega,by omega,rfl,rfl,rfl⟩
 rintro D r ⟨c,a0,cH,av,YR,BT,ay,rfl,rfl⟩;have aP:=dB (c:=c) (by omega)
 by_cases aI:c < vs.length
 rotate_left
 ·have h1:decide ((c:Int) < vs.length)=false:=decide_eq_false (by omega);obtain rfl:c=vs.length:=by omega
  simp only[go_sem,EQ,Hz,h1];rw[List.drop_length,tB] at ay;exact E.bg rfl ⟨by unfold bel;rw[ay],rfl⟩
 have h1:decide ((c:Int) < vs.length)=true:=decide_eq_true (by omega);have z0: (0:Int)≤c:=by omega
 have mn: (c:Int) < vs.length:=by omega
 have aw: (ai vs).getD c []=aJ.J vs[c]:=cT aI;rw[aup aI] at ay;have LI:=an vs[c] (List.getElem_mem aI);generalize vs[c]=v at *;obtain⟨aD,fC⟩: ∃ aD,aD=b-v.R:=⟨_,rfl⟩;rw[←fC] at ay;have dn:IntKind.i64.wrap (b-v.R)=aD:=by rw[bl (by omega) (by omega),fC]
 have gI:IntKind.i64.wrap (0-e)= -e:=by rw[bl (by omega) (by omega)];omega
 have ik:IntKind.i64.wrap (0-aD)= -aD:=by rw[bl (by omega) (by omega)];omega
 simp only[go_sem,EQ,Hz,h1,z0,mn,aw,bT,zT,dn,gI,ik]
 by_cases c1: (-e≤aD∧aD≤l)∨(0≤aD∧b < v.ab)
 ·by_cases c2:a0 < 0∨max aD (-aD) < cH
  ·rw[if_pos ⟨c1,c2⟩] at ay
   repeat' ((first|refine gv ?_ ?_|refine gw ?_ ?_|refine cf ?_ ?_|refine dj ?_ ?_)<;>intro aw<;>(have ak:=aw;try simp only[bC] at ak)<;>(first|omega| (simp only[go_sem,aw,aP,dn,gI,ik];clear aw)))
   all_goals ((refine E.bB [] ?_;simp only[go_sem]);refine E.ac ⟨⟨c+1,c,max aD (-aD),by omega,by omega,by omega,ay,rfl,rfl⟩,?_⟩;simp only[go_sem];omega)
  ·rw[if_neg (fun h=>c2 h.2)] at ay
   repeat' ((first|refine gv ?_ ?_|refine gw ?_ ?_|refine cf ?_ ?_|refine dj ?_ ?_)<;>intro aw<;>(have ak:=aw;try simp only[bC] at ak)<;>(first|omega| (simp only[go_sem,aw,aP,dn,gI,ik];clear aw)))
   all_goals ((refine E.bB [] ?_;simp only[go_sem]);refine E.ac ⟨⟨c+1,a0,cH,by omega,by omega,by omega,ay,rfl,rfl⟩,?_⟩;simp only[go_sem];omega)
 ·rw[if_neg (fun h=>c1 h.1)] at ay
  repeat' ((first|refine gv ?_ ?_|refine gw ?_ ?_|refine cf ?_ ?_|refine dj ?_ ?_)<;>intro aw<;>(have ak:=aw;try simp only[bC] at ak)<;>(first|omega| (simp only[go_sem,aw,aP,dn,gI,ik];clear aw)))
  all_goals ((refine E.bB [] ?_;simp only[go_sem]);refine E.ac ⟨⟨c+1,a0,cH,by omega,by omega,by omega,ay,rfl,rfl⟩,?_⟩;simp only[go_sem];omega)
structure eX where
 bP:Int
 ah:Int
 aa:List Pr.dF
instance:aJ eX:=⟨fun a=> [.int .i64 a.bP,.int .i64 a.ah,.pure 3 (ai a.aa)],3,fun _=>rfl,fun a=>by simp only[bU,bJ,ck,Bool.and_self,Bool.and_true,Bool.true_and],fun _=>rfl⟩
theorem Ri (e:eX):aJ.J e= [.int .i64 e.bP,.int .i64 e.ah,.pure 3 (ai e.aa)]:=rfl
theorem avQ:aJ.U eX=3:=rfl
theorem avR (e:eX):List.take 3 (aJ.J e)=aJ.J e:=rfl
attribute [go_sem] avQ avR
def HY (a b:Int)(B:eX):Bool:=decide (B.bP=a∧B.ah=b)
def cM (a b:Int):List eX→Nat
 | []=>0
 |B::t=>if HY a b B then 0 else cM a b t+1
theorem RA (a b:Int): ∀ ds:List eX,cM a b ds≤ds.length
 | []=>Nat.le_refl _
 |B::t=>by
  have:=RA a b t;unfold cM;split
  ·omega
  ·rw[List.length_cons];omega
def fI (a b:Int)(p:Pr.dF):List eX→List eX
 | []=> [⟨a,b,[p]⟩]
 |B::t=>if HY a b B then ⟨B.bP,B.ah,B.aa++ [p]⟩::t else B::fI a b p t
theorem E2 {a b:Int}{p:Pr.dF}: ∀ {ds:List eX},cM a b ds=ds.length→fI a b p ds=ds++ [⟨a,b,[p]⟩]
 | [],_=>rfl
 |B::t,h=>by
  unfold cM at h;unfold fI;split at h
  ·simp at h
  ·rename_i ay;rw[if_neg ay,E2 (by simpa using h)];rfl
theorem vc {a b:Int}{p:Pr.dF}: ∀ {ds:List eX} (h:cM a b ds < ds.length),fI a b p ds=ds.set (cM a b ds) ⟨ds[cM a b ds].bP,ds[cM a b ds].ah,ds[cM a b ds].aa++ [p]⟩
 |B::t,h=>by
  by_cases ay:HY a b B
  ·have e:cM a b (B::t)=0:=by unfold cM;rw[if_pos ay]
   unfold fI;rw[if_pos ay];simp only[e,List.set_cons_zero,List.getElem_cons_zero]
  ·have e:cM a b (B::t)=cM a b t+1:=by rw[cM,if_neg ay]
   have cR:cM a b t < t.length:=by rw[e] at h;simpa using h
   unfold fI;rw[if_neg ay,vc cR];simp only[e,List.set_cons_succ,List.getElem_cons_succ]
def fZ:Nat→List eX→List (F×F)
 |_,[]=> []
 |c,B::t=>(.agg [.int .i64 B.bP,.int .i64 B.ah],.int .i64 (c:Int))::fZ (c+1) t
theorem ZH (a b J B:Int):fB (.agg [.int .i64 a,.int .i64 b]) (.agg [.int .i64 J,.int .i64 B])=decide (J=a∧B=b):=by
 simp only[fB,cp,ed,Bool.and_true];rw[Bool.eq_iff_iff];simp only[Bool.and_eq_true,beq_iff_eq,decide_eq_true_eq];constructor<;>rintro⟨h1,G⟩<;>exact⟨h1.symm,G.symm⟩
theorem HZ {a b:Int}: ∀ {ds:List eX} {c:Nat},dm (.agg [.int .i64 a,.int .i64 b]) (fZ c ds)=if cM a b ds < ds.length then some (.int .i64 ((c+cM a b ds:Nat):Int)) else none
 | [],c=>by simp[fZ,dm,cM]
 |B::t,c=>by
  have ih:=HZ (a:=a) (b:=b) (ds:=t) (c:=c+1);rw[fZ,dm,ZH,cM];unfold HY
  by_cases ay:B.bP=a∧B.ah=b
  ·simp[ay]
  ·simp only[ay,decide_false,Bool.false_eq_true,if_false,ih,List.length_cons,Nat.add_lt_add_iff_right];split
   ·congr 3;omega
   ·rfl
theorem ZI {a b:Int}{v:F}: ∀ {ds:List eX} {c:Nat},cM a b ds=ds.length→dy (.agg [.int .i64 a,.int .i64 b]) v (fZ c ds)=fZ c ds++ [(.agg [.int .i64 a,.int .i64 b],v)]
 | [],c,_=>rfl
 |B::t,c,h=>by
  unfold cM at h;split at h
  ·simp at h
  ·rename_i ay;have ih:=ZI (a:=a) (b:=b) (v:=v) (ds:=t) (c:=c+1) (by simpa using h);rw[fZ,dy,ZH,ih];unfold HY at ay;simp only[decide_eq_true_eq] at ay;simp[ay]
theorem ZJ {B:eX}: ∀ {ds:List eX} {c:Nat},fZ c (ds++ [B])=fZ c ds++ [(.agg [.int .i64 B.bP,.int .i64 B.ah],.int .i64 ((c+ds.length:Nat):Int))]
 | [],c=>rfl
 |x::t,c=>by
  rw[List.cons_append,fZ,ZJ,fZ,List.cons_append,List.length_cons,show c+1+t.length=c+(t.length+1) by omega]
theorem ZK: ∀ {ds ar:List eX} {c:Nat},ds.map (fun B=>(B.bP,B.ah))=ar.map (fun B=>(B.bP,B.ah))→fZ c ds=fZ c ar
 | [],[],_,_=>rfl
 | [],_::_,_,h=>by simp at h
 |_::_,[],_,h=>by simp at h
 |B::ds,e::ar,c,h=>by
  simp only[List.map_cons,List.cons.injEq,Prod.mk.injEq] at h;rw[fZ,fZ,ZK h.2,h.1.1,h.1.2]
theorem avS {a b:Int}{p:Pr.dF}{ds:List eX}(c:Nat)(h:cM a b ds < ds.length):fZ c (fI a b p ds)=fZ c ds:=by
 refine ZK ?_;rw[vc h,List.map_set];refine List.ext_getElem (by simp) fun j h1 G=> ?_;rw[List.getElem_set];split
 ·rename_i e;subst e;simp
 ·rfl
theorem avT {a b:Int}{p:Pr.dF}{ds:List eX}(c:Nat)(h:cM a b ds=ds.length):fZ c (fI a b p ds)=dy (.agg [.int .i64 a,.int .i64 b]) (.int .i64 ((c+ds.length:Nat):Int)) (fZ c ds):=by
 rw[E2 h,ZJ,ZI h]
theorem ZL {n:Nat}: ∀ {ds:List eX} {c:Nat},nG n (fZ c ds)=true
 | [],_=>rfl
 |B::t,c=>by
  show (dt n (.agg [.int .i64 B.bP,.int .i64 B.ah])&&dt n (.int .i64 (c:Int))&&nG n (fZ (c+1) t))=true;rw[ZL];rfl
def qG (X:Nat→Nat)(c:Nat)(B:eX):List F:= [.int .i64 B.bP,.int .i64 B.ah,.own (X c) B.aa.length 0 B.aa.length]
def gq (X:Nat→Nat)(ds:List eX):List (List F):=ds.mapIdx (qG X)
theorem kC {X:Nat→Nat}{ds:List eX}: (gq X ds).length=ds.length:=by simp[gq]
theorem L6 {X:Nat→Nat}{ds:List eX}{c:Nat}(h:c < ds.length): (gq X ds)[c]? =some (qG X c ds[c]):=by simp[gq,h]
theorem L8 {n:Nat}{X:Nat→Nat}{ds:List eX}(h: ∀ c,c < ds.length→X c < n):mj n (gq X ds)=true:=by
 have: ∀ el:List (List F),(∀ J∈el,gx n J=true)→mj n el=true:=by
  intro el
  induction el with
  |nil=>intro _;rfl
  |cons J el ih=>
   intro h;rw[mj,h J List.mem_cons_self,ih fun x aj=>h x (List.mem_cons_of_mem _ aj)];rfl
 refine this _ fun J ad=> ?_;obtain⟨c,av,rfl⟩:=List.getElem_of_mem ad;rw[kC] at av;have:=L6 (X:=X) av;rw[List.getElem?_eq_getElem (by rw[kC];exact av)] at this;rw[Option.some.inj this];unfold qG;simp only[gx,dt,Bool.and_true,Bool.true_and,decide_eq_true_eq];exact h c av
structure Cs (r:List Z) (M:cc) (ds:List eX) (X:Nat→Nat):Prop where
 all:jP r
 M:r[0]? =some (.ag 32 2 [[.int .i64 M.off,.pure 2 (ai M.cS)]])
 m:r[1]? =some (.be (.map true [.int .i64,.int .i64] (fZ 0 ds)))
 B:r[2]? =some (.ag 157 3 (gq X ds))
 x: ∀ c (h:c < ds.length),r[X c]? =some (.ag 88 3 (ai ds[c].aa))
 inj: ∀ c j,c < ds.length→j < ds.length→X c=X j→c=j
theorem RB {X:Nat→Nat}{ds:List eX}{k:Nat}{B:eX}:gq X (ds.set k B)=(gq X ds).set k (qG X k B):=by
 unfold gq;refine List.ext_getElem (by simp) fun j h1 G=> ?_;rw[List.getElem_mapIdx,List.getElem_set,List.getElem_set];split
 ·rename_i e;subst e;rfl
 ·rw[List.getElem_mapIdx]
theorem RD {X:Nat→Nat}{ds:List eX}{B:eX}:gq X (ds++ [B])=gq X ds++ [qG X ds.length B]:=by unfold gq;rw[List.mapIdx_append];simp
theorem RE {X ly:Nat→Nat}{ds:List eX}(h: ∀ c,c < ds.length→X c=ly c):gq X ds=gq ly ds:=by
 unfold gq;refine List.ext_getElem (by simp) fun j h1 G=> ?_;rw[List.getElem_mapIdx,List.getElem_mapIdx];unfold qG;rw[h j (by simpa using h1)]
theorem sA {r:List Z}{M:cc}{ds:List eX}{X:Nat→Nat}(h:Cs r M ds X){c:Nat}(av:c < ds.length):X c≠0∧X c≠1∧X c≠2∧X c < r.length:=by
 have aj:=h.x c av;refine⟨fun e=> ?_,fun e=> ?_,fun e=> ?_,km aj⟩
 ·rw[e,h.M] at aj;simp at aj
 ·rw[e,h.m] at aj;cases aj
 ·rw[e,h.B] at aj;simp at aj
theorem ZM {r W:List Z}{M:cc}{ds:List eX}{X:Nat→Nat}(h:Cs r M ds X){a b:Int}{p:Pr.dF}(ak:cM a b ds < ds.length)(hW:jP W)
 (bp: ∀ z bG,r[z]? =some bG→z≠2→z≠X (cM a b ds)→W[z]? =some bG)
 (G:W[2]? =some (.ag 157 3 ((gq X ds).set (cM a b ds) (qG X (cM a b ds) ⟨ds[cM a b ds].bP,ds[cM a b ds].ah,ds[cM a b ds].aa++ [p]⟩))))
 (aV:W[X (cM a b ds)]? =some (.ag 88 3 (ai (ds[cM a b ds].aa++ [p])))):Cs W M (fI a b p ds) X:=by
 obtain⟨bb,n1,eo,_⟩:=sA h ak;have hl: (fI a b p ds).length=ds.length:=by rw[vc ak,List.length_set]
 refine⟨hW,bp _ _ h.M (by omega) (fun e=>bb e.symm),?_,by rw[vc ak,RB];exact G,fun c av=> ?_,fun c j av aX=>h.inj c j (by omega) (by omega)⟩
 ·rw[avS 0 ak];exact bp _ _ h.m (by omega) (fun e=>n1 e.symm)
 ·rw[hl] at av;simp only[vc ak,List.getElem_set]
  by_cases e:cM a b ds=c
  ·subst e;rw[if_pos rfl];exact aV
  ·rw[if_neg e];exact bp _ _ (h.x c av) (sA h av).2.2.1 fun bK=>e (h.inj _ _ ak av bK.symm)
theorem ZN {r W:List Z}{M:cc}{ds:List eX}{X:Nat→Nat}(h:Cs r M ds X){a b:Int}{p:Pr.dF}(ak:cM a b ds=ds.length)(q:Nat)(avU:r.length≤q)(hW:jP W)
 (bp: ∀ z bG,r[z]? =some bG→z≠1→z≠2→W[z]? =some bG)
 (h1:W[1]? =some (.be (.map true [.int .i64,.int .i64] (dy (.agg [.int .i64 a,.int .i64 b]) (.int .i64 (ds.length:Int)) (fZ 0 ds)))))
 (G:W[2]? =some (.ag 157 3 (gq X ds++ [[.int .i64 a,.int .i64 b,.own q 1 0 1]])))
 (aV:W[q]? =some (.ag 88 3 (ai [p]))): ∃ ly,Cs W M (fI a b p ds) ly:=by
 refine⟨fun c=>if c < ds.length then X c else q,?_⟩;rw[E2 ak];refine⟨hW,bp _ _ h.M (by omega) (by omega),?_,?_,fun c av=> ?_,fun c j av aX=> ?_⟩
 ·rw[←E2 ak,avT 0 ak,Nat.zero_add];exact h1
 ·rw[RD,G];congr 3
  ·exact RE fun c av=>by rw[if_pos av]
  ·unfold qG;simp
 ·rw[List.length_append,List.length_singleton] at av
  by_cases e:c < ds.length
  ·simp only[if_pos e,List.getElem_append_left e];exact bp _ _ (h.x c e) (sA h e).2.1 (sA h e).2.2.1
  ·obtain rfl:c=ds.length:=by omega
   simp only[Nat.lt_irrefl,if_false,List.getElem_append_right (Nat.le_refl _),Nat.sub_self,List.getElem_cons_zero];exact aV
 ·rw[List.length_append,List.length_singleton] at av aX
  by_cases e:c < ds.length<;>by_cases f:j < ds.length
  ·simp only[if_pos e,if_pos f];exact h.inj c j e f
  ·simp only[if_pos e,if_neg f];intro g;have:=(sA h e).2.2.2;omega
  ·simp only[if_neg e,if_pos f];intro g;have:=(sA h f).2.2.2;omega
  ·intro _;omega
theorem avV {r:List Z}{M:cc}{ds:List eX}{X:Nat→Nat}(h:Cs r M ds X):lJ r [some 2] (List.range r.length) (gq X ds)=ai ds:=by
 rw[KV];unfold ai;refine List.ext_getElem (by simp[gq]) fun j h1 G=> ?_;have aX:j < ds.length:=by simpa using G
 rw[List.getElem_map,List.getElem_map];have aw:=L6 (X:=X) aX;rw[List.getElem?_eq_getElem (by rw[kC];exact aX)] at aw;rw[Option.some.inj aw];obtain⟨_,_,eo,hl⟩:=sA h aX;unfold qG;have hb:bW r [some 2] (List.range r.length) (.own (X j) ds[j].aa.length 0 ds[j].aa.length)= .pure 3 (ai ds[j].aa):=by
  refine qx ?_ ?_ (h.x j aX) (by rw[bT]) ck
  ·simp[hE,eo.symm]
  ·simp;exact hl
 simp only[dT,hb];rfl
end Go.Proofs.YtpincjkjoeopkaaGreatDoor
