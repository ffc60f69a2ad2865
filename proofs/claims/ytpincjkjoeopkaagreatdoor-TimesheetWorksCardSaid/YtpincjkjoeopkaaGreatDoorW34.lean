/- Time evaluation. -/
import Derived.Test.YtpincjkjoeopkaaGreatDoorW27
import Derived.Test.YtpincjkjoeopkaaGreatDoorW18
import Derived.Test.YtpincjkjoeopkaaGreatDoorW33
import Derived.Test.YtpincjkjoeopkaaGreatDoorW29
import Derived.Test.YtpincjkjoeopkaaGreatDoorW32
set_option linter.all false
namespace Go.Proofs.YtpincjkjoeopkaaGreatDoor
open Go Go.Abs Go.Proofs.Tryz
theorem aPk (I:ByteArray):Pm.rO I=decide (Ib.vo I):=by
 rw[Bool.eq_iff_iff,decide_eq_true_eq];unfold Pm.rO Ib.vo Pm.xc;simp only[Bool.and_eq_true,decide_eq_true_eq,List.all_eq_true,List.mem_range];have af: ∀ c,Pm.jV I c=Ib.AR I c:=fun _=>rfl;simp only[af];have aH: ∀ J,Pm.C9 J=true↔(97≤J∧J≤122)∨(48≤J∧J≤57)∨J=95:=fun J=>by
  unfold Pm.C9;simp only[Bool.or_eq_true,Bool.and_eq_true,decide_eq_true_eq];omega
 constructor
 ·rintro⟨⟨⟨⟨a,b⟩,J⟩,B⟩,e⟩;refine⟨⟨a,b⟩,fun j hj=> ?_⟩;have h1:=(aH _).1 (e j hj);unfold Ib.AS
  by_cases h0:j=0
  ·subst h0;exact .inl ⟨J,B⟩
  ·omega
 ·rintro⟨⟨a,b⟩,e⟩;have h0:=e 0 (by omega);unfold Ib.AS at h0;refine⟨⟨⟨⟨a,b⟩,by omega⟩,by omega⟩,fun j hj=>(aH _).2 ?_⟩;have h1:=e j hj;unfold Ib.AS at h1;omega
theorem aLa (I:ByteArray):aO prog 129 [.str I] [] (fun v rs=>v= .bool (decide (Ib.vo I))∧rs= []):=by
 rw[←aPk];exact Pm.aLa I
set_option maxHeartbeats 4000000 in
theorem aNo (l:List Ib.kr)(hl:l.length≤9223372036854775806):aO prog 212 [.pure 2 (ai l)] [] (fun v rs=>v= .bool (Ib.jT (-1) l)∧rs= []):=by
 refine hJ func212 aBf (by simp[aeY,aIC]) ?_;simp only[go_sem,aeY,aIC,bT]
 repeat (refine E.ac ?_;(show eG _ _ _ _ _ _);simp only[go_sem,bT])
 refine hv (fun D r=> ∃ (c:Nat) (b:Int),c≤l.length∧Ib.jT (-1) l=Ib.jT b (l.drop c)∧(c=0→b= -1)∧(∀ (k:Nat) (h:k < l.length),c=k+1→b=l[k].after∧0≤b)∧D= [(0,.pure 2 (ai l)),(3,.int .i64 c)]∧r= [])
  (fun D _=>match bs D 3 with| .int _ j=>(l.length-j).toNat|_=>0) ?_ ?_
 ·exact E.ac ⟨0,-1,by omega,rfl,fun _=>rfl,fun k h G=>by omega,rfl,rfl⟩
 rintro D r ⟨c,b,av,ay,lZ,uv,rfl,rfl⟩;have aP:=dB (c:=c) (by omega)
 by_cases aI:c < l.length
 rotate_left
 ·have q0:decide ((c:Int) < l.length)=false:=decide_eq_false (by omega);rw[List.drop_eq_nil_of_le (by omega),Ib.jT] at ay;simp only[go_sem,aeY,aIC,q0,bT]
  repeat (refine E.ac ?_;simp only[go_sem])
  exact E.bg rfl ⟨by rw[ay],rfl⟩
 have q0:decide ((c:Int) < l.length)=true:=decide_eq_true (by omega);have aKM: (ai l).getD c []=aJ.J l[c]:=cT aI;rw[Ib.aDi aI] at ay;have JT: ∀ d:Int,d=l[c].after→0≤d→ ∀ (k:Nat) (h:k < l.length),c+1=k+1→d=l[k].after∧0≤d:=fun d e h0 k h G=>by
  obtain rfl:c=k:=by omega
  exact⟨e,h0⟩
 generalize l[c]=x at *;simp only[go_sem,aeY,aIC,q0,bT]
 repeat (refine E.ac ?_;(show eG _ _ _ _ _ _);simp only[go_sem,q0,bT,aKM,Ib.Nu])
 repeat (first| (refine⟨by omega,?_⟩)| (refine⟨by rw[bT],?_⟩))
 refine gG (aLa x.name) rfl rfl ?_
 by_cases h1:Ib.vo x.name
 rotate_left
 ·have bF:decide (Ib.vo x.name)=false:=decide_eq_false h1;rw[bF] at ay ⊢;simp only[go_sem]
  repeat (refine E.ac ?_;simp only[go_sem])
  exact E.bg rfl ⟨by rw[ay];rfl,rfl⟩
 have bF:decide (Ib.vo x.name)=true:=decide_eq_true h1;rw[bF,Bool.true_and] at ay;rw[bF]
 by_cases G:x.after < 0
 ·have bK:decide (x.after < 0)=true:=decide_eq_true G;have gX:decide (b < x.after)=false:=decide_eq_false (by
   rcases c with _|k
   ·have:=lZ rfl;omega
   ·have:=(uv k (by omega) rfl).2;omega)
  rw[gX,Bool.false_and] at ay;simp only[go_sem,bK,aKM,Ib.Nu]
  repeat (first| (refine⟨by omega,?_⟩)| (refine⟨by rw[bT],?_⟩))
  repeat (refine E.ac ?_;simp only[go_sem])
  exact E.bg rfl ⟨by rw[ay],rfl⟩
 have bK:decide (x.after < 0)=false:=decide_eq_false G;simp only[go_sem,bK,aKM,Ib.Nu]
 repeat (first| (refine⟨by omega,?_⟩)| (refine⟨by rw[bT],?_⟩))
 by_cases au:10080 < x.after
 ·have gX:decide (10080 < x.after)=true:=decide_eq_true au;have rt:decide (x.after≤10080)=false:=decide_eq_false (by omega);rw[rt,Bool.false_and,Bool.and_false] at ay;simp only[go_sem,gX,aKM,Ib.Nu]
  repeat (first| (refine⟨by omega,?_⟩)| (refine⟨by rw[bT],?_⟩))
  repeat (refine E.ac ?_;simp only[go_sem])
  exact E.bg rfl ⟨by rw[ay],rfl⟩
 have gX:decide (10080 < x.after)=false:=decide_eq_false au;have rt:decide (x.after≤10080)=true:=decide_eq_true (by omega);rw[rt,Bool.true_and] at ay;rcases c with _|k
 ·have Q4:decide (b < x.after)=true:=decide_eq_true (by have:=lZ rfl;omega);rw[Q4,Bool.true_and] at ay;have FD:IntKind.i64.wrap (0+1)=((0+1:Nat):Int):=by rw[bl (by omega) (by omega)];rfl
  simp only[go_sem,gX,aKM,Ib.Nu]
  repeat (first| (refine⟨by omega,?_⟩)| (refine⟨by rw[bT],?_⟩))
  repeat (refine E.ac ?_;(show eG _ _ _ _ _ _);simp only[go_sem,gX,aKM,Ib.Nu])
  refine E.ac ⟨⟨0+1,x.after,by omega,ay,fun h=>by omega,JT x.after rfl (by omega),by rw[FD],rfl⟩,?_⟩;simp only[go_sem,FD];omega
 ·obtain⟨xl,rX⟩:=uv k (by omega) rfl;have gk: (ai l).getD k []=aJ.J (l[k]'(by omega)):=cT (by omega);have nH:IntKind.i64.wrap (((k+1:Nat):Int)-1)=(k:Int):=by rw[bl (by omega) (by omega)];omega
  have Q5:decide ((0:Int) < ((k+1:Nat):Int))=true:=decide_eq_true (by omega);generalize l[k]'(_)=J at *
  by_cases cx:b < x.after
  ·have Q4:decide (b < x.after)=true:=decide_eq_true cx;have aLt:decide (x.after≤J.after)=false:=decide_eq_false (by omega);rw[Q4,Bool.true_and] at ay;simp only[go_sem,gX,aKM,Ib.Nu,Q5,gk,nH,aLt,Int.toNat_natCast]
   repeat (first| (refine⟨by omega,?_⟩)| (refine⟨by rw[bT],?_⟩))
   try simp only[go_sem,gX,aKM,Ib.Nu,Q5,gk,nH,aLt,Int.toNat_natCast]
   repeat (refine E.ac ?_;(show eG _ _ _ _ _ _);simp only[go_sem,gX,aKM,Ib.Nu])
   refine E.ac ⟨⟨k+1+1,x.after,by omega,ay,fun h=>by omega,JT x.after rfl (by omega),by rw[aP],rfl⟩,?_⟩;simp only[go_sem,aP];omega
  ·have Q4:decide (b < x.after)=false:=decide_eq_false cx;have aLt:decide (x.after≤J.after)=true:=decide_eq_true (by omega);rw[Q4,Bool.false_and] at ay;simp only[go_sem,gX,aKM,Ib.Nu,Q5,gk,nH,aLt,Int.toNat_natCast]
   repeat (first| (refine⟨by omega,?_⟩)| (refine⟨by rw[bT],?_⟩))
   try simp only[go_sem,gX,aKM,Ib.Nu,Q5,gk,nH,aLt,Int.toNat_natCast]
   repeat (refine E.ac ?_;simp only[go_sem])
   exact E.bg rfl ⟨by rw[ay],rfl⟩
theorem aPl (aF:Ib.ib):aO prog 130 [aF.v] [] (fun v rs=>v= .int .i64 (Ib.lA aF)∧rs= []):=by
 have bO:=aLa aF.ef;refine hJ func130 aAA (by simp[adM,aHz]) ?_;unfold Ib.lA;simp only[go_sem,adM,aHz,Ib.ib.v]
 repeat (refine E.ac ?_;(show eG _ _ _ _ _ _);simp only[go_sem,bT])
 by_cases h1:16 < aF.eN.length
 ·have q1:decide ((16:Int) < aF.eN.length)=true:=decide_eq_true (by omega);rw[if_pos (.inl h1)];simp only[go_sem,q1,bT]
  repeat (refine E.ac ?_;(show eG _ _ _ _ _ _);simp only[go_sem,q1,bT])
  exact E.bg rfl ⟨rfl,rfl⟩
 have q1:decide ((16:Int) < aF.eN.length)=false:=decide_eq_false (by omega)
 by_cases G:16 < aF.gL.length
 ·have eQ:decide ((16:Int) < aF.gL.length)=true:=decide_eq_true (by omega);rw[if_pos (.inr G)];simp only[go_sem,q1,eQ,bT]
  repeat (refine E.ac ?_;(show eG _ _ _ _ _ _);simp only[go_sem,q1,eQ,bT])
  exact E.bg rfl ⟨rfl,rfl⟩
 have eQ:decide ((16:Int) < aF.gL.length)=false:=decide_eq_false (by omega);rw[if_neg (by omega)];have cd:=aNo aF.eN (by omega);have fk:=aNo aF.gL (by omega);simp only[go_sem,q1,eQ,bT]
 repeat (refine E.ac ?_;(show eG _ _ _ _ _ _);simp only[go_sem,q1,eQ,bT])
 refine bM bO rfl rfl ?_
 by_cases au:Ib.vo aF.ef
 rotate_left
 ·have gX:decide (Ib.vo aF.ef)=false:=decide_eq_false au;rw[if_neg (fun h=>au h.1),gX];simp only[go_sem]
  repeat (refine E.ac ?_;(show eG _ _ _ _ _ _);simp only[go_sem])
  exact E.bg rfl ⟨rfl,rfl⟩
 have gX:decide (Ib.vo aF.ef)=true:=decide_eq_true au;rw[gX];simp only[go_sem];refine bM cd (by simp only[bU,bJ,ck,Bool.and_self,Bool.and_true]) rfl ?_;cases bv:Ib.jT (-1) aF.eN
 ·rw[if_neg (by simp)];simp only[go_sem]
  repeat (refine E.ac ?_;(show eG _ _ _ _ _ _);simp only[go_sem])
  exact E.bg rfl ⟨rfl,rfl⟩
 simp only[go_sem];refine bM fk (by simp only[bU,bJ,ck,Bool.and_self,Bool.and_true]) rfl ?_;cases cx:Ib.jT (-1) aF.gL
 ·rw[if_neg (by simp)];simp only[go_sem]
  repeat (refine E.ac ?_;(show eG _ _ _ _ _ _);simp only[go_sem])
  exact E.bg rfl ⟨rfl,rfl⟩
 simp only[go_sem]
 repeat (refine E.ac ?_;(show eG _ _ _ _ _ _);simp only[go_sem])
 exact E.bg rfl ⟨by simp[au],rfl⟩
theorem aPo (z:eD)(hh:z.ao.length≤1000000)(aP:z.al.length≤1000000):aO prog 75 [.agg z.J] [] (fun v rs=>v= .int .i64 (qL z)∧rs= []):=by
 have bO:=Pm.aLl z.M;have cd:=aMZ z.dK;have fk:=aPl z.ia;have hB:=Pm.aPp z.M z.ao (by omega) z.al aP;unfold cc.v at bO hB;unfold Ib.ib.v at fk;simp only[Pr.Ab] at cd;refine hJ func75 azT (by simp[acU,aHS]) ?_;unfold eD.J;simp only[go_sem,acU,aHS]
 repeat (refine E.ac ?_;(show eG _ _ _ _ _ _);simp only[go_sem])
 refine bM bO (by simp only[bU,bJ,ck,Bool.and_self,Bool.and_true]) rfl ?_;unfold qL
 by_cases h1:fe z.M=0
 rotate_left
 ·have q1: (fe z.M != 0)=true:=by simp[h1]
  rw[if_pos h1]
  (repeat (first| (refine E.ac ?_;simp only[go_sem,q1])|simp only[go_sem,q1]))
  exact E.bg rfl ⟨rfl,rfl⟩
 have q1: (fe z.M != 0)=false:=by simp[h1]
 rw[if_neg (show ¬fe z.M≠0 by omega)]
 by_cases af:rF z
 ·rw[if_pos af];unfold rF at af
  (repeat (first| (refine E.ac ?_;simp only[go_sem,q1])|simp only[go_sem,q1]))
  repeat' ((first|refine gv ?_ ?_|refine gw ?_ ?_|refine cf ?_ ?_|refine dj ?_ ?_)<;>intro aw<;>(have ak:=aw;try simp only[bC] at ak)<;>(first|omega| (simp only[go_sem,aw,q1];clear aw)))
  all_goals (repeat (refine E.ac ?_;(show eG _ _ _ _ _ _);simp only[go_sem,q1]))
  all_goals (try (repeat' ((first|refine gv ?_ ?_|refine gw ?_ ?_|refine cf ?_ ?_|refine dj ?_ ?_)<;>intro aw<;>(have ak:=aw;try simp only[bC] at ak)<;>(first|omega| (simp only[go_sem,aw,q1];clear aw)))))
  all_goals (repeat (refine E.ac ?_;simp only[go_sem]))
  all_goals first|exact E.bg rfl ⟨rfl,rfl⟩| (exfalso;omega)
 rw[if_neg af];unfold rF at af;have g0:decide (z.fz < 1)=false:=decide_eq_false (by omega);have g1:decide (10080 < z.fz)=false:=decide_eq_false (by omega);have bR:decide (z.er < 0)=false:=decide_eq_false (by omega);have dq:decide (1440 < z.er)=false:=decide_eq_false (by omega);have gP:decide (z.ex < 0)=false:=decide_eq_false (by omega);have uN:decide (1440 < z.ex)=false:=decide_eq_false (by omega)
 (repeat (first| (refine E.ac ?_;simp only[go_sem,q1,g0,g1,bR,dq,gP,uN])|simp only[go_sem,q1,g0,g1,bR,dq,gP,uN]))
 refine bM cd (by simp only[bU,bJ,ck,Bool.and_self,Bool.and_true]) rfl ?_
 by_cases G:Pr.mq z.dK=0
 rotate_left
 ·have eQ: (Pr.mq z.dK != 0)=true:=by simp[G]
  rw[if_pos G]
  (repeat (first| (refine E.ac ?_;simp only[go_sem,eQ])|simp only[go_sem,eQ]))
  exact E.bg rfl ⟨rfl,rfl⟩
 have eQ: (Pr.mq z.dK != 0)=false:=by simp[G]
 rw[if_neg (show ¬Pr.mq z.dK≠0 by omega)]
 (repeat (first| (refine E.ac ?_;simp only[go_sem,eQ])|simp only[go_sem,eQ]))
 refine bM fk (by simp only[bU,bJ,ck,Bool.and_self,Bool.and_true]) rfl ?_
 by_cases au:Ib.lA z.ia=0
 rotate_left
 ·have eF: (Ib.lA z.ia != 0)=true:=by simp[au]
  rw[if_pos au]
  (repeat (first| (refine E.ac ?_;simp only[go_sem,eF])|simp only[go_sem,eF]))
  exact E.bg rfl ⟨rfl,rfl⟩
 have eF: (Ib.lA z.ia != 0)=false:=by simp[au]
 rw[if_neg (show ¬Ib.lA z.ia≠0 by omega)]
 (repeat (first| (refine E.ac ?_;simp only[go_sem,eF])|simp only[go_sem,eF]))
 refine bM hB (by simp only[bU,bJ,ck,Bool.and_self,Bool.and_true]) rfl ?_
 (repeat (first| (refine E.ac ?_;simp only[go_sem])|simp only[go_sem]))
 exact E.bg rfl ⟨rfl,rfl⟩
set_option maxHeartbeats 4000000 in
theorem aOz (l os:List Pr.bx)(hl:Pr.dd 0 120968640 l=true)(ta:os.length≤1000000000):aO prog 80 [.pure 2 (ai l),.own 0 os.length 0 os.length] [.ag 64 2 (ai os)] (fun v rs=>v= .pure 2 (ai (aKW l os))∧rs= [.ag 64 2 (ai os)]):=by
 have aGn:=SO hl (by omega);have aLg:=wG hl;refine hJ func80 azY (by simp[acX,aHT]) ?_;simp only[go_sem,acX,aHT,bT]
 repeat (refine E.ac ?_;simp only[go_sem])
 refine hv (fun D r=> ∃ (c:Nat),c≤l.length∧D= [(0,.pure 2 (ai l)),(1,.own 0 os.length 0 os.length),(5,.own 1 (aKO os l c).length 0 (aKO os l c).length),(6,.int .i64 c)]∧r= [.ag 64 2 (ai os),.ag 64 2 (ai (aKO os l c))]∧(∀ w∈aKO os l c,0≤w.R)∧Pr.hY (aKO os l c) (if h:c < l.length then l[c].R else 120968640))
  (fun D _=>match bs D 6 with| .int _ j=>(l.length-j).toNat|_=>0) ?_ ?_
 ·(refine E.iv 5 64 2 rfl (E.eW [0,1,5,6] ?_);simp only[go_sem])
  exact E.ac ⟨0,by omega,rfl,rfl,by simp[aKO],by simp only[aKO,List.take_zero,List.foldl_nil];exact Pr.UA⟩
 rintro D r ⟨c,av,rfl,rfl,agS,ju⟩;have aP:=dB (c:=c) (by omega)
 by_cases aI:c < l.length
 rotate_left
 ·have q1:decide ((c:Int) < l.length)=false:=decide_eq_false (by omega);obtain rfl:c=l.length:=by omega
  simp only[go_sem,acX,aHT,q1,bT]
  repeat (refine E.ac ?_;simp only[go_sem])
  rw[show aKO os l l.length=aKW l os by unfold aKO aKW;rw[List.take_length]];generalize aKW l os=W at *
  (refine E.kK [some 0] [1] ?_;simp only[go_sem])
  exact E.ac ⟨rfl,rfl⟩
 have q1:decide ((c:Int) < l.length)=true:=decide_eq_true (by omega);have aKM: (ai l).getD c []=aJ.J l[c]:=cT aI;have an:=aLg l[c] (List.getElem_mem aI);rw[dif_pos aI] at ju;have zc:=aM0 (os:=os) aI;generalize Md:aKO os l c=ea at *;generalize aJD:l[c]=v at *;simp only[go_sem,acX,aHT,q1,bT]
 repeat (refine E.ac ?_;(show eG _ _ _ _ _ _);simp only[go_sem,q1,bT,aKM])
 repeat (first| (refine⟨by omega,?_⟩)| (refine⟨by rw[bT],?_⟩))
 have nD:Pr.dd v.R v.ab [v]=true:=by rw[rI];exact⟨⟨Int.le_refl _,an.2.1,Int.le_refl _⟩,rfl⟩
 have va: [List.take 2 (aJ.J v)]=ai (aKK [] [v]):=rfl
 try rw[va]
 repeat (refine E.ac ?_;(show eG _ _ _ _ _ _);simp only[go_sem,q1,bT,aKM])
 refine hv (fun D r=> ∃ (k:Nat),k≤os.length∧D= [(0,.pure 2 (ai l)),(1,.own 0 os.length 0 os.length),(5,.own 1 ea.length 0 ea.length),(6,.int .i64 c),(7,.own 2 (aKK (os.take k) [v]).length 0 (aKK (os.take k) [v]).length),(8,.int .i64 k)]∧r= [.ag 64 2 (ai os),.ag 64 2 (ai ea),.ag 64 2 (ai (aKK (os.take k) [v]))])
  (fun D _=>match bs D 8 with| .int _ j=>(os.length-j).toNat|_=>0) ?_ ?_
 ·exact E.ac ⟨0,by omega,rfl,rfl⟩
 rintro D r ⟨k,O,rfl,rfl⟩;have nH:=dB (c:=k) (by omega)
 by_cases gO:k < os.length
 ·have eQ:decide ((k:Int) < os.length)=true:=decide_eq_true (by omega);have aMa: (ai os).getD k []=aJ.J os[k]:=cT gO;obtain⟨aiw,_⟩:=aLm (os:=os.take k) nD;have aMb:aKK (os.take (k+1)) [v]=(aKK (os.take k) [v]).flatMap (aKI os[k]):=by
   unfold aKK;rw[List.take_succ_eq_append_getElem gO,List.foldl_append];rfl
  generalize aKK (os.take k) [v]=aF at *;generalize os[k]=o at *;simp only[go_sem,acX,aHT,eQ,bT]
  repeat (refine E.ac ?_;(show eG _ _ _ _ _ _);simp only[go_sem,eQ,bT,aKM])
  refine hv (fun D r=> ∃ (j:Nat),j≤aF.length∧D= [(0,.pure 2 (ai l)),(1,.own 0 os.length 0 os.length),(5,.own 1 ea.length 0 ea.length),(6,.int .i64 c),(7,.own 2 aF.length 0 aF.length),(8,.int .i64 k),(9,.own 3 ((aF.take j).flatMap (aKI o)).length 0 ((aF.take j).flatMap (aKI o)).length),(10,.int .i64 j)]∧r= [.ag 64 2 (ai os),.ag 64 2 (ai ea),.ag 64 2 (ai aF),.ag 64 2 (ai ((aF.take j).flatMap (aKI o)))])
   (fun D _=>match bs D 10 with| .int _ j=>(aF.length-j).toNat|_=>0) ?_ ?_
  ·(refine E.iv 9 64 2 rfl (E.eW [0,1,5,6,7,8,9,10] ?_);simp only[go_sem])
   exact E.ac ⟨0,by omega,rfl,rfl⟩
  rintro D r ⟨j,hj,rfl,rfl⟩;have nJ:=SO aiw (by omega);have nf:=dB (c:=j) (by omega)
  by_cases nC:j < aF.length
  rotate_left
  ·have eF:decide ((j:Int) < aF.length)=false:=decide_eq_false (by omega);obtain rfl:j=aF.length:=by omega
   rw[List.take_length,←aMb];generalize aLE:aKK (os.take (k+1)) [v]=cs at *;simp only[go_sem,acX,aHT,eF,bT]
   repeat (refine E.ac ?_;(show eG _ _ _ _ _ _);simp only[go_sem,eF,bT,aKM])
   (refine E.bB [some 0,some 1,some 3] ?_;simp only[go_sem])
   refine E.ac ⟨⟨k+1,by omega,by rw[nH,aLE],by rw[aLE]⟩,?_⟩;simp only[go_sem,nH];omega
  have eF:decide ((j:Int) < aF.length)=true:=decide_eq_true (by omega);have aKR: (ai aF).getD j []=aJ.J aF[j]:=cT nC;have yt:=aMc (o:=o) (aF.take j);rw[List.length_take] at yt;have At: (aF.take (j+1)).flatMap (aKI o)=(aF.take j).flatMap (aKI o)++aKI o aF[j]:=by
   rw[List.take_succ_eq_append_getElem nC,List.flatMap_append];simp
  generalize (aF.take j).flatMap (aKI o)=cs at *;generalize aF[j]=x at *;simp only[go_sem,acX,aHT,eF,bT]
  repeat (refine E.ac ?_;(show eG _ _ _ _ _ _);simp only[go_sem,eF,bT,aKR,aMa])
  repeat (first| (refine⟨by omega,?_⟩)| (refine⟨by rw[bT],?_⟩))
  refine E.ac ?_
  by_cases aKZ:o.ab≤o.R∨o.ab≤x.R∨x.ab≤o.R
  ·have ho:aKI o x= [x]:=by rw[aKI,if_pos aKZ]
   rw[ho] at At
   by_cases d1:o.ab≤o.R
   ·have r1:decide (o.ab≤o.R)=true:=decide_eq_true d1;simp only[go_sem,Pr.eY,Pr.aF9,r1]
    repeat (first| (refine⟨by omega,?_⟩)| (refine⟨by simp;done,?_⟩)| (refine E.ac ?_;(show eG _ _ _ _ _ _);simp only[go_sem,Pr.eY,Pr.aF9,r1]))
    (refine E.bB [some 0,some 1,some 2,some 3] ?_;simp only[go_sem])
    refine E.ac ⟨⟨j+1,by omega,by rw[nf,At];try simp,by rw[At];try simp⟩,?_⟩;simp only[go_sem,nf];omega
   have r1:decide (o.ab≤o.R)=false:=decide_eq_false d1
   by_cases ky:o.ab≤x.R
   ·have cY:decide (o.ab≤x.R)=true:=decide_eq_true ky;simp only[go_sem,Pr.eY,Pr.aF9,r1,cY]
    repeat (first| (refine⟨by omega,?_⟩)| (refine⟨by simp;done,?_⟩)| (refine E.ac ?_;(show eG _ _ _ _ _ _);simp only[go_sem,Pr.eY,Pr.aF9,r1,cY]))
    (refine E.bB [some 0,some 1,some 2,some 3] ?_;simp only[go_sem])
    refine E.ac ⟨⟨j+1,by omega,by rw[nf,At];try simp,by rw[At];try simp⟩,?_⟩;simp only[go_sem,nf];omega
   have cY:decide (o.ab≤x.R)=false:=decide_eq_false ky;have fY:decide (x.ab≤o.R)=true:=decide_eq_true (by omega);simp only[go_sem,Pr.eY,Pr.aF9,r1,cY,fY]
   repeat (first| (refine⟨by omega,?_⟩)| (refine⟨by simp;done,?_⟩)| (refine E.ac ?_;(show eG _ _ _ _ _ _);simp only[go_sem,Pr.eY,Pr.aF9,r1,cY,fY]))
   (refine E.bB [some 0,some 1,some 2,some 3] ?_;simp only[go_sem])
   refine E.ac ⟨⟨j+1,by omega,by rw[nf,At];try simp,by rw[At];try simp⟩,?_⟩;simp only[go_sem,nf];omega
  ·have ho:aKI o x=(if x.R < o.R then [⟨x.R,o.R⟩] else [])++(if o.ab < x.ab then [⟨o.ab,x.ab⟩] else []):=by rw[aKI,if_neg aKZ]
   have r1:decide (o.ab≤o.R)=false:=decide_eq_false (by omega);have cY:decide (o.ab≤x.R)=false:=decide_eq_false (by omega);have fY:decide (x.ab≤o.R)=false:=decide_eq_false (by omega);rw[ho] at At
   by_cases c4:x.R < o.R
   ·have fc:decide (x.R < o.R)=true:=decide_eq_true c4;rw[if_pos c4] at At
    by_cases c5:o.ab < x.ab
    ·have sd:decide (o.ab < x.ab)=true:=decide_eq_true c5;rw[if_pos c5] at At;simp only[go_sem,Pr.eY,r1,cY,fY,fc,sd]
     repeat (first| (refine⟨by omega,?_⟩)| (refine⟨by simp;done,?_⟩)| (refine E.ac ?_;(show eG _ _ _ _ _ _);simp only[go_sem,Pr.eY,r1,cY,fY,fc,sd]))
     (refine E.bB [some 0,some 1,some 2,some 3] ?_;simp only[go_sem])
     refine E.ac ⟨⟨j+1,by omega,by rw[nf,At];try simp,by rw[At];simp[ai,Pr.eY]⟩,?_⟩;simp only[go_sem,nf];omega
    ·have sd:decide (o.ab < x.ab)=false:=decide_eq_false c5;rw[if_neg c5] at At;simp only[go_sem,Pr.eY,Pr.aF9,r1,cY,fY,fc,sd]
     repeat (first| (refine⟨by omega,?_⟩)| (refine⟨by simp;done,?_⟩)| (refine E.ac ?_;(show eG _ _ _ _ _ _);simp only[go_sem,Pr.eY,Pr.aF9,r1,cY,fY,fc,sd]))
     (refine E.bB [some 0,some 1,some 2,some 3] ?_;simp only[go_sem])
     refine E.ac ⟨⟨j+1,by omega,by rw[nf,At];try simp,by rw[At];try simp⟩,?_⟩;simp only[go_sem,nf];omega
   ·have fc:decide (x.R < o.R)=false:=decide_eq_false c4;rw[if_neg c4] at At
    by_cases c5:o.ab < x.ab
    ·have sd:decide (o.ab < x.ab)=true:=decide_eq_true c5;rw[if_pos c5] at At;simp only[go_sem,Pr.eY,Pr.aF9,r1,cY,fY,fc,sd]
     repeat (first| (refine⟨by omega,?_⟩)| (refine⟨by simp;done,?_⟩)| (refine E.ac ?_;(show eG _ _ _ _ _ _);simp only[go_sem,Pr.eY,Pr.aF9,r1,cY,fY,fc,sd]))
     (refine E.bB [some 0,some 1,some 2,some 3] ?_;simp only[go_sem])
     refine E.ac ⟨⟨j+1,by omega,by rw[nf,At];try simp,by rw[At];try simp⟩,?_⟩;simp only[go_sem,nf];omega
    ·have sd:decide (o.ab < x.ab)=false:=decide_eq_false c5;rw[if_neg c5] at At;simp only[go_sem,Pr.eY,Pr.aF9,r1,cY,fY,fc,sd]
     repeat (first| (refine⟨by omega,?_⟩)| (refine⟨by simp;done,?_⟩)| (refine E.ac ?_;(show eG _ _ _ _ _ _);simp only[go_sem,Pr.eY,Pr.aF9,r1,cY,fY,fc,sd]))
     (refine E.bB [some 0,some 1,some 2,some 3] ?_;simp only[go_sem])
     refine E.ac ⟨⟨j+1,by omega,by rw[nf,At];try simp,by rw[At];try simp⟩,?_⟩;simp only[go_sem,nf];omega
 ·have eQ:decide ((k:Int) < os.length)=false:=decide_eq_false (by omega);obtain rfl:k=os.length:=by omega
  rw[List.take_length];obtain⟨aiw,_⟩:=aLm (os:=os) nD;generalize aKK os [v]=aF at *;simp only[go_sem,acX,aHT,eQ,bT]
  repeat (refine E.ac ?_;(show eG _ _ _ _ _ _);simp only[go_sem,eQ,bT,aKM])
  have nJ:=SO aiw (by omega);have aLh:=wG aiw;refine hv (fun D r=> ∃ (j:Nat),j≤aF.length∧D= [(0,.pure 2 (ai l)),(1,.own 0 os.length 0 os.length),(5,.own 1 ((aF.take j).foldl aKJ ea).length 0 ((aF.take j).foldl aKJ ea).length),(6,.int .i64 c),(7,.own 2 aF.length 0 aF.length),(13,.int .i64 j)]∧r= [.ag 64 2 (ai os),.ag 64 2 (ai ((aF.take j).foldl aKJ ea)),.ag 64 2 (ai aF)])
   (fun D _=>match bs D 13 with| .int _ j=>(aF.length-j).toNat|_=>0) ?_ ?_
  ·exact E.ac ⟨0,by omega,rfl,rfl⟩
  rintro D r ⟨j,hj,rfl,rfl⟩;have nf:=dB (c:=j) (by omega)
  by_cases nC:j < aF.length
  rotate_left
  ·have eF:decide ((j:Int) < aF.length)=false:=decide_eq_false (by omega);obtain rfl:j=aF.length:=by omega
   rw[List.take_length,←zc];obtain⟨Rt,_⟩:=aLn aiw (by omega) ju;have Ae:=aLF (rs:=aF) agS fun w aP=>by have:=aLh w aP;omega
   rw[←zc] at Rt Ae;generalize aK2:aKO os l (c+1)=W at *;simp only[go_sem,acX,aHT,eF,bT]
   repeat (refine E.ac ?_;(show eG _ _ _ _ _ _);simp only[go_sem,eF,bT,aKM])
   (refine E.bB [some 0,some 1] ?_;simp only[go_sem])
   refine E.ac ⟨⟨c+1,by omega,by rw[aP,aK2],by rw[aK2],by rw[aK2];exact Ae,?_⟩,?_⟩
   ·rw[aK2]
    by_cases G:c+1 < l.length
    ·rw[dif_pos G];have:=List.pairwise_iff_getElem.1 (Ix hl) c (c+1) aI G (by omega);rw[aJD] at this;exact Rt.mono this
    ·rw[dif_neg G];exact Rt.mono (by omega)
   ·simp only[go_sem,aP];omega
  have eF:decide ((j:Int) < aF.length)=true:=decide_eq_true (by omega);have aKR: (ai aF).getD j []=aJ.J aF[j]:=cT nC;have aKS: (aF.take (j+1)).foldl aKJ ea=aKJ ((aF.take j).foldl aKJ ea) aF[j]:=by
   rw[List.take_succ_eq_append_getElem nC,List.foldl_append];rfl
  have aMd:Pr.dd v.R v.ab (aF.take j)=true:=Se (fun x aj=>aLh x (List.mem_of_mem_take aj)) ((Ix aiw).sublist (List.take_sublist _ _));have aMe:=(aLn aMd (by omega) ju).1;have aMf:=aLF (rs:=aF.take j) agS fun w aP=>by have:=aLh w (List.mem_of_mem_take aP);omega
  generalize (aF.take j).foldl aKJ ea=L at *;generalize aF[j]=x at *;rcases List.eq_nil_or_concat L with rfl|⟨aKL,u,rfl⟩
  ·simp only[go_sem,acX,aHT,eF,bT]
   repeat (refine E.ac ?_;(show eG _ _ _ _ _ _);simp only[go_sem,eF,bT,aKR,Pr.eY])
   repeat (first| (refine⟨by omega,?_⟩)| (refine⟨by rw[bT],?_⟩))
   repeat (refine E.ac ?_;(show eG _ _ _ _ _ _);simp only[go_sem,eF,bT,aKR,Pr.eY])
   (refine E.bB [some 0,some 1,some 2] ?_;simp only[go_sem])
   refine E.ac ⟨⟨j+1,by omega,by rw[nf,aKS];rfl,by rw[aKS];rfl⟩,?_⟩;simp only[go_sem,nf];omega
  ·rw[List.concat_eq_append] at *;simp only[go_sem,acX,aHT,eF,bT]
   repeat (refine E.ac ?_;(show eG _ _ _ _ _ _);simp only[go_sem,eF,bT,aKR,Pr.eY])
   have r0:decide (0 < ((aKL++ [u]).length:Int))=true:=decide_eq_true (by rw[List.length_append,List.length_singleton];omega);have aLG:Pr.hY (aKL++ [u]) v.ab∧ ∀ w∈aKL++ [u],0≤w.R:=⟨aMe,aMf⟩;have aMg:=aM1 aLG.1 aLG.2 (by omega);rw[List.length_append,List.length_singleton] at aMg;have FD:IntKind.i64.wrap (((aKL++ [u]).length:Int)-1)=(aKL.length:Int):=by rw[List.length_append,List.length_singleton,bl (by omega) (by omega)];omega
   have aK3: (ai (aKL++ [u])).getD aKL.length []=aJ.J u:=by
    rw[cT (by simp)];simp
   have hm:aKJ (aKL++ [u]) x=if u.ab=x.R then aKL++ [⟨u.R,x.ab⟩] else aKL++ [u]++ [x]:=by unfold aKJ;simp
   rw[hm] at aKS
   by_cases c1:u.ab=x.R
   ·have r1: (u.ab==x.R)=true:=by simp[c1]
    rw[if_pos c1] at aKS;simp only[go_sem,r0,FD,Int.toNat_natCast,aK3,aKR,Pr.eY,r1];refine⟨by omega,by rw[List.length_append,List.length_singleton];omega,by omega,by omega,?_⟩
    repeat (first| (refine⟨by omega,?_⟩)| (refine⟨by rw[List.length_append,List.length_singleton];omega,?_⟩)| (refine E.ac ?_;(show eG _ _ _ _ _ _);simp only[go_sem,r0,FD,Int.toNat_natCast,aK3,aKR,Pr.eY,r1,bT]))
    have cn: (ai (aKL++ [u])).set aKL.length [.int .i64 u.R,.int .i64 x.ab]=ai (aKL++ [⟨u.R,x.ab⟩]):=by
     have:=xS (l:=aKL++ [u]) (c:=aKL.length) (x:=(⟨u.R,x.ab⟩:Pr.bx));rw[Pr.eY] at this;rw[this];simp
    rw[cn];refine E.ac ⟨⟨j+1,by omega,by rw[nf,aKS];simp,by rw[aKS]⟩,?_⟩;simp only[go_sem,nf];omega
   ·have r1: (u.ab==x.R)=false:=by simp[c1]
    rw[if_neg c1] at aKS;simp only[go_sem,r0,FD,Int.toNat_natCast,aK3,aKR,Pr.eY,r1];refine⟨by omega,by rw[List.length_append,List.length_singleton];omega,by omega,by omega,?_⟩
    repeat (first| (refine⟨by omega,?_⟩)| (refine⟨by rw[List.length_append,List.length_singleton];omega,?_⟩)| (refine E.ac ?_;(show eG _ _ _ _ _ _);simp only[go_sem,r0,FD,Int.toNat_natCast,aK3,aKR,Pr.eY,r1,bT]))
    (refine E.bB [some 0,some 1,some 2] ?_;simp only[go_sem])
    refine E.ac ⟨⟨j+1,by omega,by rw[nf,aKS];simp,by rw[aKS]⟩,?_⟩;simp only[go_sem,nf];omega
end Go.Proofs.YtpincjkjoeopkaaGreatDoor
