/- Time evaluation. -/
import Derived.Test.YtpincjkjoeopkaaGreatDoorW19
import Derived.Test.YtpincjkjoeopkaaGreatDoorW22
import Derived.Test.YtpincjkjoeopkaaGreatDoorW21
import Derived.Test.YtpincjkjoeopkaaGreatDoorW4
set_option linter.all false
namespace Go.Proofs.YtpincjkjoeopkaaGreatDoor
open Go Go.Abs Go.Proofs.Tryz
theorem aOh (I:cw):aO prog 164 [.agg (aJ.J I)] [] (fun v rs=>v= .bool (decide (yh I))∧rs= []):=by
 refine cu func164 aAS (by simp[aem,aHd]) ?_;simp only[go_sem,aem,aHd,uZ]
 repeat' ((first|refine gv ?_ ?_|refine gw ?_ ?_|refine cf ?_ ?_|refine dj ?_ ?_)<;>intro aw<;>(have ak:=aw;try simp only[bC] at ak)<;>(first|omega| (simp only[go_sem,aw,aem,aHd];clear aw)))
 all_goals ((refine E.bg rfl ⟨congrArg F.bool ?_,rfl⟩;rw[Bool.eq_iff_iff];simp only[bC,Bool.false_eq_true,false_iff,true_iff,iff_true,iff_false,and_true,true_and] at *;try simp only[yh] at *;omega))
theorem aL3 (M:cc)(an:fe M=0)(I:cw):aO prog 78 [M.v,.agg (aJ.J I)] [] (fun v rs=>v= .bo [.agg (aJ.J (fW M I)),.int .i64 (ew M I)]∧rs= []):=by
 have bO:=Pm.aLl M;have cd:=aOh I;rw[an] at bO;have ba:=wv an;refine hJ func78 azW (by simp[acV,aG4]) ?_;have fk:=fun h0 h1=>aOd M an (I.ah*1440+I.bw) h0 h1;unfold cc.v at *;simp only[uZ] at cd;simp only[go_sem,acV,aG4,uZ,zT]
 repeat (refine E.ac ?_;simp only[go_sem])
 refine bM bO rfl rfl ?_;simp only[go_sem]
 repeat (refine E.ac ?_;simp only[go_sem])
 refine bM cd rfl rfl ?_
 by_cases ao:yh I
 rotate_left
 ·have e:ew M I=2:=by unfold ew;rw[if_pos an,if_neg ao]
  have bK:fW M I=⟨0,0⟩:=by unfold fW;rw[e,if_neg (by decide)]
  rw[e,bK,decide_eq_false ao];simp only[go_sem]
  repeat (refine E.ac ?_;simp only[go_sem])
  exact E.bg rfl ⟨rfl,rfl⟩
 rw[decide_eq_true ao];simp only[go_sem]
 repeat (refine E.ac ?_;simp only[go_sem])
 have xC:=ao;unfold yh at xC;have af:=Yy ba (I.ah*1440+I.bw);have dn:IntKind.i64.wrap (I.ah*1440)=I.ah*1440:=bl (by omega) (by omega);have gI:IntKind.i64.wrap (I.ah*1440+I.bw)=I.ah*1440+I.bw:=bl (by omega) (by omega);have ik:IntKind.i64.wrap (qB M I+I.cN)=qB M I+I.cN:=bl (by unfold qB;omega) (by unfold qB;omega);rw[dn,gI];refine bM (fk (by omega) (by omega)) rfl rfl ?_;rw[show uY M (I.ah*1440+I.bw)=qB M I from rfl];simp only[go_sem]
 repeat (refine E.ac ?_;simp only[go_sem])
 rw[ik]
 by_cases au:120968640 < qB M I+I.cN
 ·have eF:decide (120968640 < qB M I+I.cN)=true:=decide_eq_true au;have e:ew M I=2:=by unfold ew;rw[if_pos an,if_pos ao,if_pos au]
  have bK:fW M I=⟨0,0⟩:=by unfold fW;rw[e,if_neg (by decide)]
  rw[e,bK,eF];simp only[go_sem]
  repeat (refine E.ac ?_;simp only[go_sem])
  exact E.bg rfl ⟨rfl,rfl⟩
 ·have eF:decide (120968640 < qB M I+I.cN)=false:=decide_eq_false au;have e:ew M I=0:=by unfold ew;rw[if_pos an,if_pos ao,if_neg au]
  have bK:fW M I=⟨qB M I,qB M I+I.cN⟩:=by unfold fW;rw[e,if_pos rfl]
  rw[e,bK,eF];simp only[go_sem,ik]
  repeat (refine E.ac ?_;simp only[go_sem])
  simp only[go_sem,ik];exact E.bg rfl ⟨rfl,rfl⟩
theorem aMK (M:cc)(an:fe M=0)(ae:List cw)(hl:ae.length≤9223372036854775806):aO prog 76 [M.v,.pure 3 (ai ae)] [] (fun v rs=>v= .int .i64 (jd M ae)∧rs= []):=by
 have bO:=Pm.aLl M;rw[an] at bO;have cd:=aL3 M an;have ba:=wv an;refine hJ func76 azU (by simp[a76,aIj]) ?_;unfold cc.v at *;simp only[go_sem,a76,aIj,bT]
 repeat (refine E.ac ?_;simp only[go_sem])
 by_cases h1:1024 < ae.length
 ·have q1:decide ((1024:Int) < ae.length)=true:=decide_eq_true (by omega);rw[q1];simp only[go_sem]
  repeat (refine E.ac ?_;simp only[go_sem])
  exact E.bg rfl ⟨by unfold jd;rw[if_pos h1],rfl⟩
 have q1:decide ((1024:Int) < ae.length)=false:=decide_eq_false (by omega);have e:jd M ae=ou M 0 ae:=by unfold jd;rw[if_neg h1,if_pos an]
 rw[q1,e];simp only[go_sem]
 repeat (refine E.ac ?_;simp only[go_sem])
 refine bM bO rfl rfl ?_;simp only[go_sem]
 repeat (refine E.ac ?_;simp only[go_sem])
 refine hv (fun D r=> ∃ (c:Nat) (e:Int),c≤ae.length∧ou M 0 ae=ou M e (ae.drop c)∧D= [(1,.pure 3 (ai ae)),(2,.bd 0 1 0 0),(6,.int .i64 e),(7,.int .i64 c)]∧r= [.ag 32 2 [[.int .i64 M.off,.pure 2 (ai M.cS)]]])
  (fun D _=>match bs D 7 with| .int _ j=>(ae.length-j).toNat|_=>0) ?_ ?_
 ·exact E.ac ⟨0,0,by omega,rfl,rfl,rfl⟩
 rintro D r ⟨c,x,av,ay,rfl,rfl⟩;have aP:=dB (c:=c) (by omega);simp only[go_sem,a76,aIj,bT]
 repeat (refine E.ac ?_;simp only[go_sem])
 by_cases aI:c < ae.length
 ·have eQ:decide ((c:Int) < ae.length)=true:=decide_eq_true (by omega);have aw: (ai ae).getD c []=aJ.J ae[c]:=cT aI;rw[aui aI] at ay;rw[eQ];simp only[go_sem]
  repeat (refine E.ac ?_;simp only[go_sem])
  rw[aw];refine⟨by omega,by omega,Nat.le_refl 3,?_⟩;rw[show List.take 3 (aJ.J ae[c])=aJ.J ae[c] from rfl];refine gG (cd ae[c]) (by first|rfl|simp only[go_sem,ck]) (by first|rfl|simp only[go_sem,zT]) ?_;simp only[go_sem,zT]
  repeat (refine E.ac ?_;simp only[go_sem])
  by_cases jD:ew M ae[c]=0
  rotate_left
  ·have eF: (ew M ae[c] != 0)=true:=bne_iff_ne.2 jD;rw[if_neg jD] at ay;rw[eF];simp only[go_sem]
   repeat (refine E.ac ?_;simp only[go_sem])
   exact E.bg rfl ⟨by rw[ay],rfl⟩
  have eF: (ew M ae[c] != 0)=false:=by simp[jD]
  rw[if_pos jD] at ay;rw[eF];simp only[go_sem]
  repeat (refine E.ac ?_;simp only[go_sem])
  by_cases bv: (fW M ae[c]).R < x
  ·have iR:decide ((fW M ae[c]).R < x)=true:=decide_eq_true bv;rw[if_pos bv] at ay;rw[iR];simp only[go_sem]
   repeat (refine E.ac ?_;simp only[go_sem])
   exact E.bg rfl ⟨by rw[ay],rfl⟩
  ·have iR:decide ((fW M ae[c]).R < x)=false:=decide_eq_false bv;rw[if_neg bv] at ay;rw[iR];simp only[go_sem]
   (refine E.ac ?_;simp only[go_sem])
   refine E.ac ?_;simp only[go_sem,aP]
   (refine E.bB [some 0] ?_;simp only[go_sem])
   refine E.ac ⟨⟨c+1,_,by omega,ay,rfl,rfl⟩,?_⟩;simp only[go_sem];omega
 ·have eQ:decide ((c:Int) < ae.length)=false:=decide_eq_false (by omega);rw[List.drop_eq_nil_of_le (by omega),ou] at ay;rw[eQ,ay];simp only[go_sem]
  repeat (refine E.ac ?_;simp only[go_sem])
  exact E.bg rfl ⟨rfl,rfl⟩
theorem aOi (M:cc)(an:fe M=0)(ae:List cw)(hl:ae.length≤1024)(gy: ∀ I∈ae,ew M I=0)(b e l:Int)(af:0≤b∧b≤120968640)(he:0≤e∧e≤1440)(MO:0≤l∧l≤1440):aO prog 163 [M.v,.pure 3 (ai ae),.int .i64 b,.int .i64 e,.int .i64 l] [] (fun v rs=>v= .int .i64 (bel b e l (ae.map (fW M)))∧rs= []):=by
 have cd:=aL3 M an;refine hJ func163 aAR (by simp[ael,aI0]) ?_;unfold cc.v at *;simp only[go_sem,ael,aI0,bT]
 repeat (refine E.ac ?_;simp only[go_sem])
 try rw[show Int.negSucc 0= -1 from rfl]
 refine hv (fun D r=> ∃ (c:Nat) (a0 cH:Int),c≤ae.length∧ -1≤a0∧a0 < c∧tB b e l 0 (ae.map (fW M)) (-1,0)=tB b e l c ((ae.map (fW M)).drop c) (a0,cH)∧D= [(1,.pure 3 (ai ae)),(2,.int .i64 b),(3,.int .i64 e),(4,.int .i64 l),(5,.bd 0 1 0 0),(11,.int .i64 a0),(12,.int .i64 cH),(13,.int .i64 c)]∧r= [.ag 32 2 [[.int .i64 M.off,.pure 2 (ai M.cS)]]])
  (fun D _=>match bs D 13 with| .int _ j=>(ae.length-j).toNat|_=>0) ?_ ?_
 ·exact E.ac ⟨0,-1,0,by omega,by omega,by omega,rfl,rfl,rfl⟩
 rintro D r ⟨c,a0,cH,av,YR,BT,ay,rfl,rfl⟩;have aP:=dB (c:=c) (by omega);simp only[go_sem,ael,aI0,bT]
 repeat (refine E.ac ?_;simp only[go_sem])
 by_cases aI:c < ae.length
 rotate_left
 ·have eQ:decide ((c:Int) < ae.length)=false:=decide_eq_false (by omega);rw[List.drop_eq_nil_of_le (by rw[List.length_map];omega),tB] at ay;rw[eQ];simp only[go_sem]
  repeat (refine E.ac ?_;simp only[go_sem])
  exact E.bg rfl ⟨by unfold bel;rw[ay],rfl⟩
 have eQ:decide ((c:Int) < ae.length)=true:=decide_eq_true (by omega);have aw: (ai ae).getD c []=aJ.J ae[c]:=cT aI;have so:=QN (gy _ (List.getElem_mem aI));rw[aup (by rw[List.length_map];exact aI),List.getElem_map] at ay;rw[eQ];simp only[go_sem]
 repeat (refine E.ac ?_;simp only[go_sem])
 try simp only[Int.toNat_natCast]
 rw[aw];refine⟨by omega,by omega,Nat.le_refl 3,?_⟩;rw[show List.take 3 (aJ.J ae[c])=aJ.J ae[c] from rfl];refine gG (cd ae[c]) (by first|rfl|simp only[go_sem,ck]) (by first|rfl|simp only[go_sem,zT]) ?_;simp only[go_sem,zT]
 repeat (refine E.ac ?_;simp only[go_sem])
 generalize (fW M ae[c]).R=f at *;generalize (fW M ae[c]).ab=g at *;have dn:IntKind.i64.wrap (f-e)=f-e:=bl (by omega) (by omega);have gI:IntKind.i64.wrap (f+l)=f+l:=bl (by omega) (by omega);have ik:IntKind.i64.wrap (b-f)=b-f:=bl (by omega) (by omega);have Cr:IntKind.i64.wrap (f-b)=f-b:=bl (by omega) (by omega);rw[dn];have aKV:max (b-f) (f-b)=max (b-f) (-(b-f)):=by omega
 by_cases aKZ: (-e≤b-f∧b-f≤l)∨(0≤b-f∧b < g)
 rotate_left
 ·rw[if_neg (fun h=>aKZ h.1)] at ay
  repeat' ((first|refine gv ?_ ?_|refine gw ?_ ?_|refine cf ?_ ?_|refine dj ?_ ?_)<;>intro aw<;>(have ak:=aw;try simp only[bC] at ak)<;>(first|omega| (simp only[go_sem,aw,gI];clear aw)))
  all_goals (repeat (refine E.ac ?_;(show eG _ _ _ _ _ _);simp only[go_sem,dn,gI,ik,Cr,aKV]))
  all_goals (try (repeat' ((first|refine gv ?_ ?_|refine gw ?_ ?_|refine cf ?_ ?_|refine dj ?_ ?_)<;>intro aw<;>(have ak:=aw;try simp only[bC] at ak)<;>(first|omega| (simp only[go_sem,aw,gI];clear aw)))))
  all_goals (repeat (refine E.ac ?_;(show eG _ _ _ _ _ _);simp only[go_sem,dn,gI,ik,Cr,aKV]))
  all_goals
   (refine E.bB [some 0] ?_;simp only[go_sem])
   refine E.ac ⟨⟨c+1,a0,cH,by omega,YR,by omega,ay,by rw[aP],rfl⟩,?_⟩;simp only[go_sem,aP];omega
 by_cases vT:a0 < 0∨max (b-f) (-(b-f)) < cH
 ·rw[if_pos ⟨aKZ,vT⟩] at ay;generalize hm:max (b-f) (-(b-f))=m at *
  repeat' ((first|refine gv ?_ ?_|refine gw ?_ ?_|refine cf ?_ ?_|refine dj ?_ ?_)<;>intro aw<;>(have ak:=aw;try simp only[bC] at ak)<;>(first|omega| (simp only[go_sem,aw,gI];clear aw)))
  all_goals (repeat (refine E.ac ?_;(show eG _ _ _ _ _ _);simp only[go_sem,dn,gI,ik,Cr,aKV]))
  all_goals (try (repeat' ((first|refine gv ?_ ?_|refine gw ?_ ?_|refine cf ?_ ?_|refine dj ?_ ?_)<;>intro aw<;>(have ak:=aw;try simp only[bC] at ak)<;>(first|omega| (simp only[go_sem,aw,gI,ik,Cr,aKV];clear aw)))))
  all_goals (repeat (refine E.ac ?_;(show eG _ _ _ _ _ _);simp only[go_sem,dn,gI,ik,Cr,aKV]))
  all_goals (try (repeat' ((first|refine gv ?_ ?_|refine gw ?_ ?_|refine cf ?_ ?_|refine dj ?_ ?_)<;>intro aw<;>(have ak:=aw;try simp only[bC] at ak)<;>(first|omega| (simp only[go_sem,aw,gI,ik,Cr,aKV];clear aw)))))
  all_goals (repeat (refine E.ac ?_;(show eG _ _ _ _ _ _);simp only[go_sem,dn,gI,ik,Cr,aKV]))
  all_goals (try (repeat' ((first|refine gv ?_ ?_|refine gw ?_ ?_|refine cf ?_ ?_|refine dj ?_ ?_)<;>intro aw<;>(have ak:=aw;try simp only[bC] at ak)<;>(first|omega| (simp only[go_sem,aw,gI,ik,Cr,aKV];clear aw)))))
  all_goals (repeat (refine E.ac ?_;(show eG _ _ _ _ _ _);simp only[go_sem,dn,gI,ik,Cr,aKV]))
  all_goals
   (refine E.bB [some 0] ?_;simp only[go_sem])
   refine E.ac ⟨⟨c+1,_,_,by omega,by omega,by omega,ay,by rw[aP],rfl⟩,?_⟩;simp only[go_sem,aP];omega
 ·rw[if_neg (fun h=>vT h.2)] at ay;generalize hm:max (b-f) (-(b-f))=m at *
  repeat' ((first|refine gv ?_ ?_|refine gw ?_ ?_|refine cf ?_ ?_|refine dj ?_ ?_)<;>intro aw<;>(have ak:=aw;try simp only[bC] at ak)<;>(first|omega| (simp only[go_sem,aw,gI];clear aw)))
  all_goals (repeat (refine E.ac ?_;(show eG _ _ _ _ _ _);simp only[go_sem,dn,gI,ik,Cr,aKV]))
  all_goals (try (repeat' ((first|refine gv ?_ ?_|refine gw ?_ ?_|refine cf ?_ ?_|refine dj ?_ ?_)<;>intro aw<;>(have ak:=aw;try simp only[bC] at ak)<;>(first|omega| (simp only[go_sem,aw,gI,ik,Cr,aKV];clear aw)))))
  all_goals (repeat (refine E.ac ?_;(show eG _ _ _ _ _ _);simp only[go_sem,dn,gI,ik,Cr,aKV]))
  all_goals (try (repeat' ((first|refine gv ?_ ?_|refine gw ?_ ?_|refine cf ?_ ?_|refine dj ?_ ?_)<;>intro aw<;>(have ak:=aw;try simp only[bC] at ak)<;>(first|omega| (simp only[go_sem,aw,gI,ik,Cr,aKV];clear aw)))))
  all_goals (repeat (refine E.ac ?_;(show eG _ _ _ _ _ _);simp only[go_sem,dn,gI,ik,Cr,aKV]))
  all_goals (try (repeat' ((first|refine gv ?_ ?_|refine gw ?_ ?_|refine cf ?_ ?_|refine dj ?_ ?_)<;>intro aw<;>(have ak:=aw;try simp only[bC] at ak)<;>(first|omega| (simp only[go_sem,aw,gI,ik,Cr,aKV];clear aw)))))
  all_goals (repeat (refine E.ac ?_;(show eG _ _ _ _ _ _);simp only[go_sem,dn,gI,ik,Cr,aKV]))
  all_goals
   (refine E.bB [some 0] ?_;simp only[go_sem])
   refine E.ac ⟨⟨c+1,a0,cH,by omega,YR,by omega,ay,by rw[aP],rfl⟩,?_⟩;simp only[go_sem,aP];omega
end Go.Proofs.YtpincjkjoeopkaaGreatDoor
namespace Go.Proofs.YtpincjkjoeopkaaGreatDoor.Pr
open Go Go.Abs
open Go.Proofs.Tryz
theorem aMk (f t:Int):aO prog 85 [.agg [.int .i64 f,.int .i64 t]] [] (fun v rs=>v= .bool (hR ⟨f,t⟩ 0 120968640)∧rs= []):=by
 refine cu func85 aAd (by simp[adc,aHU]) ?_;simp only[go_sem,adc,aHU]
 repeat' ((first|refine gv ?_ ?_|refine gw ?_ ?_|refine cf ?_ ?_|refine dj ?_ ?_)<;>intro aw<;>(have ak:=aw;try simp only[bC] at ak)<;>(first|omega| (simp only[go_sem,aw,adc,aHU];clear aw)))
 all_goals (refine E.bg rfl ⟨congrArg F.bool ?_,rfl⟩;rw[hR,Bool.eq_iff_iff];simp only[bC,Bool.false_eq_true,false_iff];omega)
theorem aPN (p:dF):aO prog 90 [.agg (aJ.J p)] [] (fun v rs=>v= .bool (tL 0 p)∧rs= []):=by
 refine cu func90 aAi (by simp[adi,aHV]) ?_;simp only[go_sem,adi,aHV,H3];refine bM (aMk p.R p.ab) rfl rfl ?_;simp only[go_sem]
 repeat' ((first|refine gv ?_ ?_|refine gw ?_ ?_|refine cf ?_ ?_|refine dj ?_ ?_)<;>intro aw<;>(have ak:=aw;try simp only[bC] at ak)<;>(first|omega| (simp only[go_sem,aw,adi,aHV];clear aw)))
 ·exact E.bg rfl ⟨by rw[tL,ak];simp,rfl⟩
 ·exact E.bg rfl ⟨by rw[tL,decide_eq_false (p:=p.ey.length≤1024) (by omega)];simp,rfl⟩
 rename_i vP;have Cv:tL 0 p=dd p.R p.ab p.ey:=by rw[tL,vP,decide_eq_true (p:=p.ey.length≤1024) (by omega)];simp
 have HL:=vP;simp only[hR,decide_eq_true_eq] at HL;refine dN (fun D r=> ∃ (k:Nat) (e:Int),k≤p.ey.length∧0≤e∧dd p.R p.ab p.ey=dd e p.ab (p.ey.drop k)∧D= [(1,.bd 0 1 0 0),(3,.int .i64 e),(4,.int .i64 k)]∧r= [.ag 88 3 [[.int .i64 p.R,.int .i64 p.ab,.pure 2 (ai p.ey)]]])
  (fun D _=>match bs D 4 with| .int _ j=>(p.ey.length-j).toNat|_=>0) ?_ ?_
 ·exact E.ac ⟨0,p.R,by omega,by omega,by simp,rfl,rfl⟩
 ·rintro D r ⟨k,e,O,he,pP,rfl,rfl⟩;simp only[go_sem,adi,aHV];refine cf ?_ ?_<;>intro fH<;>simp only[bC] at fH<;>simp only[go_sem,adi,aHV]
  ·have Aa:k < p.ey.length:=by omega
   refine⟨by omega,by omega,?_⟩
   try simp only[Int.toNat_natCast]
   rw[cT Aa,eY];rw[oF Aa,dd] at pP;generalize p.ey[k]=b at pP ⊢;simp only[go_sem,adi,aHV];refine bM (aMk b.R b.ab) rfl rfl ?_;simp only[go_sem];have aP:=dB (c:=k) (by omega)
   repeat' ((first|refine gv ?_ ?_|refine gw ?_ ?_|refine cf ?_ ?_|refine dj ?_ ?_)<;>intro aw<;>(have ak:=aw;try simp only[bC] at ak)<;>(first|omega| (simp only[go_sem,aw,adi,aHV,aP];clear aw)))
   any_goals
    refine E.bg rfl ⟨?_,rfl⟩;rw[Cv,pP,show hR b e p.ab=false from by simp only[hR,decide_eq_false_iff_not,decide_eq_true_eq] at *;omega];rfl
   (refine E.bB [some 0] ?_;simp only[go_sem])
   have aku:hR b e p.ab=true:=by simp only[hR,decide_eq_false_iff_not,decide_eq_true_eq] at *;omega
   refine E.ac ⟨⟨k+1,b.ab,by omega,by simp only[hR,decide_eq_true_eq] at aku;omega,by rw[pP,aku,Bool.true_and],rfl,rfl⟩,?_⟩;simp only[go_sem];omega
  ·have yF:k=p.ey.length:=by omega
   rw[yF,List.drop_length,dd] at pP;exact E.bg rfl ⟨by rw[Cv,pP],rfl⟩
theorem aPO {e:Int}{p:dF}(he:0≤e):tL e p=(tL 0 p&&decide (e≤p.R)):=by
 rw[Bool.eq_iff_iff];simp only[tL,hR,Bool.and_eq_true,decide_eq_true_eq];constructor
 ·rintro⟨⟨h1,G⟩,au⟩;exact⟨⟨⟨by omega,G⟩,au⟩,by omega⟩
 ·rintro⟨⟨⟨h1,G⟩,au⟩,bv⟩;exact⟨⟨by omega,G⟩,au⟩
theorem aLQ (l:List dF)(hl:l.length≤9223372036854775806):aO prog 162 [.pure 3 (ai l)] [] (fun v rs=>v= .int .i64 (lx l)∧rs= []):=by
 refine cu func162 aAQ (by simp[aek,aIv]) ?_;simp only[go_sem,aek,aIv];refine cf ?_ ?_<;>intro dI<;>simp only[bC] at dI<;>simp only[go_sem,aek,aIv]
 ·exact E.bg rfl ⟨by rw[lx,if_pos (by omega)],rfl⟩
 have pM:lx l=if io 0 l then 0 else 1:=by rw[lx,if_neg (by omega)]
 refine dN (fun D r=> ∃ (c:Nat) (e:Int),c≤l.length∧0≤e∧(c=0→e=0)∧(∀ j (h:j < l.length),c=j+1→e=l[j].ab)∧io 0 l=io e (l.drop c)∧D= [(0,.pure 3 (ai l)),(3,.int .i64 c)]∧r= [])
  (fun D _=>match bs D 3 with| .int _ j=>(l.length-j).toNat|_=>0) ?_ ?_
 ·exact E.ac ⟨0,0,by omega,by omega,fun _=>rfl,fun j _ h=>by omega,by simp,rfl,rfl⟩
 ·rintro D r ⟨c,e,av,he,aMz,aMA,af,rfl,rfl⟩;simp only[go_sem,aek,aIv];refine cf ?_ ?_<;>intro ct<;>simp only[bC] at ct<;>simp only[go_sem,aek,aIv]
  ·have aI:c < l.length:=by omega
   have nT: (0:Int)≤c:=by omega
   have vB: (c:Int) < l.length:=by omega
   have eR: (ai l).getD c []= [.int .i64 l[c].R,.int .i64 l[c].ab,.pure 2 (ai l[c].ey)]:=by rw[cT aI,H3]
   have dn:=dB (c:=c) (by omega);have Gq:=aPN l[c];rw[oF aI,io,aPO he] at af;have AU: ∀ j (h:j < l.length),c+1=j+1→l[c].ab=l[j].ab:=by intro j h hj;obtain rfl:c=j:=(by omega);rfl
   have iG:tL 0 l[c]=true→0≤l[c].ab:=by intro h;simp only[tL,hR,Bool.and_eq_true,decide_eq_true_eq] at h;omega
   generalize l[c]=p at eR af Gq AU iG;rcases Nat.eq_zero_or_pos c with h|h
   ·have:=aMz h;subst h;subst this;have aMB: (0:Int) < l.length:=by omega
    simp only[go_sem,aek,aIv,Int.natCast_zero,aMB,eR];refine gG Gq rfl rfl ?_;simp only[go_sem];have FD:IntKind.i64.wrap ((0:Int)+1)=((1:Nat):Int):=rfl;have agS:tL 0 p=true→0≤p.R:=by intro h;simp only[tL,hR,Bool.and_eq_true,decide_eq_true_eq] at h;omega
    repeat' ((first|refine gv ?_ ?_|refine gw ?_ ?_|refine cf ?_ ?_|refine dj ?_ ?_)<;>intro aw<;>(have ak:=aw;try simp only[bC] at ak)<;>(first|omega| (simp only[go_sem,aw,aek,aIv,FD];clear aw)))
    ·exact E.bg rfl ⟨by rw[pM,af,ak];simp,rfl⟩
    ·refine E.ac ⟨⟨1,p.ab,by omega,iG ak,fun h=>by omega,AU,?_,rfl,rfl⟩,?_⟩
     ·rw[af,ak,decide_eq_true (agS ak)];simp
     ·simp only[go_sem];omega
   ·obtain⟨j,rfl⟩: ∃ j,c=j+1:=⟨c-1,by omega⟩;have aMC:=aMA j (by omega) rfl;have un: (ai l).getD j []= [.int .i64 l[j].R,.int .i64 l[j].ab,.pure 2 (ai l[j].ey)]:=by rw[cT (by omega),H3]
    rw[←aMC] at un;have ud: (0:Int)≤j:=by omega
    have Te: (j:Int) < l.length:=by omega
    have xf:IntKind.i64.wrap (((j+1:Nat):Int)-1)=(j:Int):=by rw[bl (by omega) (by omega)];omega
    have LF:decide ((0:Int) < ((j+1:Nat):Int))=true:=decide_eq_true (by omega);simp only[go_sem,aek,aIv,nT,vB,eR];refine gG Gq rfl rfl ?_;simp only[go_sem,LF,nT,vB,eR,xf,un,ud,Te]
    repeat' ((first|refine gv ?_ ?_|refine gw ?_ ?_|refine cf ?_ ?_|refine dj ?_ ?_)<;>intro aw<;>(have ak:=aw;try simp only[bC] at ak)<;>(first|omega| (simp only[go_sem,aw,aek,aIv,LF,nT,vB,eR,xf,un,ud,Te,dn];clear aw)))
    ·exact E.bg rfl ⟨by rw[pM,af,ak];simp,rfl⟩
    ·exact E.bg rfl ⟨by rw[pM,af,decide_eq_false (p:=e≤p.R) (by omega)];simp,rfl⟩
    ·rename_i iK;refine E.ac ⟨⟨j+1+1,p.ab,by omega,iG iK,fun h=>by omega,AU,?_,rfl,rfl⟩,?_⟩
     ·rw[af,iK,decide_eq_true (p:=e≤p.R) (by omega)];simp
     ·simp only[go_sem];omega
  ·have:c=l.length:=by omega
   subst this;exact E.bg rfl ⟨by rw[pM,af];simp[io],rfl⟩
end Go.Proofs.YtpincjkjoeopkaaGreatDoor.Pr
