/- Time evaluation. -/
import Derived.Test.YtpincjkjoeopkaaGreatDoorW32
import Derived.Test.YtpincjkjoeopkaaGreatDoorW25
import Derived.Test.YtpincjkjoeopkaaGreatDoorW28
import Derived.Test.YtpincjkjoeopkaaGreatDoorW30
import Derived.Test.YtpincjkjoeopkaaGreatDoorW23
import Derived.Test.YtpincjkjoeopkaaGreatDoorW29
import Derived.Test.YtpincjkjoeopkaaGreatDoorW20
set_option linter.all false
namespace Go.Proofs.YtpincjkjoeopkaaGreatDoor
open Go Go.Abs Go.Proofs.Tryz
theorem aOv {l:List Pr.bx}{a k:Int}{c:Nat}(h:c < l.length):aKT (l.drop c) a k=(if max a 0 < min (a+k) (l[c].ab-l[c].R) then [⟨l[c].R+max a 0,l[c].R+min (a+k) (l[c].ab-l[c].R)⟩] else [])++aKT (l.drop (c+1)) (a-(l[c].ab-l[c].R)) k:=by
 rw[List.drop_eq_getElem_cons h,aKT]
theorem aMX: ∀ {l:List Pr.bx} {a k:Int},(aKT l a k).length≤l.length
 | [],_,_=>Nat.le_refl _
 |v::l,a,k=>by
  have:=aMX (l:=l) (a:=a-(v.ab-v.R)) (k:=k);rw[aKT,List.length_append,List.length_cons];split<;>simp only[List.length_singleton,List.length_nil]<;>omega
set_option maxHeartbeats 4000000 in
theorem aOw (l:List Pr.bx)(a k:Int)(hl:Pr.dd 0 120968640 l=true)(ao:l.Pairwise fun u v=>u.ab < v.R)(ht:Pr.da l≤100000)(aGn:l.length≤1000000)(aC:0≤a)(uC:a≤1440)(O:0≤k)(gj:k≤1000000):aO prog 167 [.pure 2 (ai l),.int .i64 a,.int .i64 k] [] (fun v rs=>v= .pure 2 (ai (Pr.rb l a k []))∧rs= []):=by
 have aLg:=wG hl;have ajn:=aMX (l:=l) (a:=a) (k:=k);have hW:=aMY l (aKT l a k) hl (by omega);rw[aOu O ao (e:=0) (aW:=120968640) (fun v an=>by have:=aLg v an;omega) (by omega)] at hW;refine hJ func167 aAV (by simp[aep,aIw]) ?_;simp only[go_sem,aep,aIw,bT]
 repeat (refine E.ac ?_;simp only[go_sem])
 refine hv (fun D r=> ∃ (c:Nat) (iZ:List Pr.bx) (J:Int),c≤l.length∧aKT l a k=iZ++aKT (l.drop c) (a-J) k∧0≤J∧J+Pr.da (l.drop c)=Pr.da l∧D= [(0,.pure 2 (ai l)),(1,.int .i64 a),(2,.int .i64 k),(7,.own 0 iZ.length 0 iZ.length),(8,.int .i64 J),(9,.int .i64 c)]∧r= [.ag 64 2 (ai iZ)])
  (fun D _=>match bs D 9 with| .int _ j=>(l.length-j).toNat|_=>0) ?_ ?_
 ·(refine E.iv 7 64 2 rfl (E.eW [0,1,2,7,8,9] ?_);simp only[go_sem])
  exact E.ac ⟨0,[],0,by omega,by simp,by omega,by simp,rfl,rfl⟩
 rintro D r ⟨c,iZ,J,av,hG,Bg,aOx,rfl,rfl⟩;have aP:=dB (c:=c) (by omega)
 by_cases aI:c < l.length
 rotate_left
 ·have q1:decide ((c:Int) < l.length)=false:=decide_eq_false (by omega);rw[List.drop_eq_nil_of_le (by omega),aKT,List.append_nil] at hG;subst hG;simp only[go_sem,aep,aIw,q1,bT]
  (refine E.kK [] [0] ?_;simp only[go_sem])
  repeat (refine E.ac ?_;(show eG _ _ _ _ _ _);simp only[go_sem,q1,bT])
  refine bM hW (by simp only[bU,bJ,ck,Bool.and_self]) (by simp only[bJ,ck]) ?_;simp only[go_sem]
  repeat (refine E.ac ?_;simp only[go_sem])
  exact E.bg (by simp only[bJ,ck]) ⟨rfl,rfl⟩
 have q1:decide ((c:Int) < l.length)=true:=decide_eq_true (by omega);have aKM: (ai l).getD c []=aJ.J l[c]:=cT aI;have an:=aLg l[c] (List.getElem_mem aI);have G1:Pr.gz (l.drop (c+1)):=fun x aj=>aLg x (List.mem_of_mem_drop aj);have LD:=Pr.Jz G1;rw[aOv aI] at hG;rw[Pr.UD aI] at aOx;have aPW:iZ.length≤l.length:=by
  have:=congrArg List.length hG;simp only[List.length_append] at this;omega
 generalize l[c]=v at *;simp only[go_sem,aep,aIw,q1,bT]
 repeat (refine E.ac ?_;(show eG _ _ _ _ _ _);simp only[go_sem,q1,bT,aKM,Pr.eY])
 have dn:IntKind.i64.wrap (v.ab-v.R)=v.ab-v.R:=bl (by omega) (by omega);have gI:IntKind.i64.wrap (a-J)=a-J:=bl (by omega) (by omega);have ik:IntKind.i64.wrap (a+k)=a+k:=bl (by omega) (by omega);have Cr:IntKind.i64.wrap (a+k-J)=a+k-J:=bl (by omega) (by omega);have aGo:IntKind.i64.wrap (J+(v.ab-v.R))=J+(v.ab-v.R):=bl (by omega) (by omega);have aGp:IntKind.i64.wrap (v.R+max (a-J) 0)=v.R+max (a-J) 0:=bl (by omega) (by omega);have aOy:IntKind.i64.wrap (v.R+min (a+k-J) (v.ab-v.R))=v.R+min (a+k-J) (v.ab-v.R):=bl (by omega) (by omega);refine⟨by omega,by omega,by omega,by omega,?_⟩;rw[dn]
 repeat (refine E.ac ?_;(show eG _ _ _ _ _ _);simp only[go_sem,gI,ik,Cr])
 rw[show a-J+k=a+k-J by omega] at hG;have dp:a-J-(v.ab-v.R)=a-(J+(v.ab-v.R)):=by omega
 by_cases c1:max (a-J) 0 < min (a+k-J) (v.ab-v.R)
 ·have r1:decide (max (a-J) 0 < min (a+k-J) (v.ab-v.R))=true:=decide_eq_true c1;rw[if_pos c1,dp,←List.append_assoc] at hG;rw[r1];simp only[go_sem,aKM,Pr.eY,aGp,aOy,Pr.aF9];refine⟨by omega,by omega,by omega,by omega,by omega,?_⟩
  repeat (refine E.ac ?_;(show eG _ _ _ _ _ _);simp only[go_sem,aGo])
  try (refine E.bB [some 0] ?_;simp only[go_sem])
  refine E.ac ⟨⟨c+1,_,_,by omega,hG,by omega,by omega,by rw[aP];simp,by simp[ai]⟩,?_⟩;simp only[go_sem,aP];omega
 ·have r1:decide (max (a-J) 0 < min (a+k-J) (v.ab-v.R))=false:=decide_eq_false c1;rw[if_neg c1,List.nil_append,dp] at hG;rw[r1];simp only[go_sem,aKM,Pr.eY]
  repeat (refine E.ac ?_;(show eG _ _ _ _ _ _);simp only[go_sem,aGo])
  refine E.ac ⟨⟨c+1,_,_,by omega,hG,by omega,by omega,by rw[aP],rfl⟩,?_⟩;simp only[go_sem,aP];omega
set_option maxHeartbeats 4000000 in
theorem aMZ (z:Pr.gK):aO prog 161 [.agg (aJ.J z)] [] (fun v rs=>v= .int .i64 (Pr.mq z)∧rs= []):=by
 refine hJ func161 aAP (by simp[aej,aH1]) ?_;simp only[go_sem,aej,aH1,Pr.Ab,bT]
 repeat (refine E.ac ?_;(show eG _ _ _ _ _ _);simp only[go_sem,bT])
 by_cases h1:16 < z.iA.length
 ·have q1:decide ((16:Int) < z.iA.length)=true:=decide_eq_true (by omega);rw[q1];simp only[go_sem]
  repeat (refine E.ac ?_;simp only[go_sem])
  exact E.bg rfl ⟨by rw[Pr.mq,if_pos (by omega)],rfl⟩
 have q1:decide ((16:Int) < z.iA.length)=false:=decide_eq_false (by omega);rw[q1];have Lr:Pr.mq z=if z.qh∧Pr.lz (-1) 0 z.iA=true then 0 else 1:=by rw[Pr.mq,if_neg (by omega)]
 have qR: ¬z.qh→Pr.mq z=1:=fun h=>by rw[Lr,if_neg (fun cR=>h cR.1)]
 by_cases yn:z.qh
 rotate_left
 ·rw[qR yn];unfold Pr.gK.qh at yn;clear qR Lr;simp only[go_sem]
  repeat (refine E.ac ?_;(show eG _ _ _ _ _ _);simp only[go_sem])
  repeat' ((first|refine gv ?_ ?_|refine gw ?_ ?_|refine cf ?_ ?_|refine dj ?_ ?_)<;>intro aw<;>(have ak:=aw;try simp only[bC] at ak)<;>(first|omega| (simp only[go_sem,aw,];clear aw)))
  all_goals (repeat (refine E.ac ?_;(show eG _ _ _ _ _ _);simp only[go_sem]))
  all_goals (try (repeat' ((first|refine gv ?_ ?_|refine gw ?_ ?_|refine cf ?_ ?_|refine dj ?_ ?_)<;>intro aw<;>(have ak:=aw;try simp only[bC] at ak)<;>(first|omega| (simp only[go_sem,aw,];clear aw)))))
  all_goals (repeat (refine E.ac ?_;(show eG _ _ _ _ _ _);simp only[go_sem]))
  all_goals (try (repeat' ((first|refine gv ?_ ?_|refine gw ?_ ?_|refine cf ?_ ?_|refine dj ?_ ?_)<;>intro aw<;>(have ak:=aw;try simp only[bC] at ak)<;>(first|omega| (simp only[go_sem,aw,];clear aw)))))
  all_goals (repeat (refine E.ac ?_;(show eG _ _ _ _ _ _);simp only[go_sem]))
  all_goals (try (repeat' ((first|refine gv ?_ ?_|refine gw ?_ ?_|refine cf ?_ ?_|refine dj ?_ ?_)<;>intro aw<;>(have ak:=aw;try simp only[bC] at ak)<;>(first|omega| (simp only[go_sem,aw,];clear aw)))))
  all_goals (repeat (refine E.ac ?_;simp only[go_sem]))
  all_goals exact E.bg rfl ⟨rfl,rfl⟩
 ·have hm:=yn;unfold Pr.gK.qh at hm;have ajl:Pr.mq z=if Pr.lz (-1) 0 z.iA=true then 0 else 1:=by rw[Lr];simp[yn]
  clear qR;simp only[go_sem]
  (repeat (refine E.ac ?_;(show eG _ _ _ _ _ _);simp only[go_sem]))
  repeat' ((first|refine gv ?_ ?_|refine gw ?_ ?_|refine cf ?_ ?_|refine dj ?_ ?_)<;>intro aw<;>(have ak:=aw;try simp only[bC] at ak)<;>(first|omega| (simp only[go_sem,aw,];clear aw)))
  all_goals (repeat (refine E.ac ?_;(show eG _ _ _ _ _ _);simp only[go_sem]))
  all_goals (try (repeat' ((first|refine gv ?_ ?_|refine gw ?_ ?_|refine cf ?_ ?_|refine dj ?_ ?_)<;>intro aw<;>(have ak:=aw;try simp only[bC] at ak)<;>(first|omega| (simp only[go_sem,aw,];clear aw)))))
  all_goals (repeat (refine E.ac ?_;(show eG _ _ _ _ _ _);simp only[go_sem]))
  all_goals (try (repeat' ((first|refine gv ?_ ?_|refine gw ?_ ?_|refine cf ?_ ?_|refine dj ?_ ?_)<;>intro aw<;>(have ak:=aw;try simp only[bC] at ak)<;>(first|omega| (simp only[go_sem,aw,];clear aw)))))
  all_goals (repeat (refine E.ac ?_;(show eG _ _ _ _ _ _);simp only[go_sem]))
  all_goals (try (repeat' ((first|refine gv ?_ ?_|refine gw ?_ ?_|refine cf ?_ ?_|refine dj ?_ ?_)<;>intro aw<;>(have ak:=aw;try simp only[bC] at ak)<;>(first|omega| (simp only[go_sem,aw,];clear aw)))))
  all_goals (repeat (refine E.ac ?_;(show eG _ _ _ _ _ _);simp only[go_sem]))
  all_goals
   refine hv (fun D r=> ∃ (c:Nat) (a m:Int),(c≤z.iA.length∧ -1≤a∧0≤m)∧Pr.lz (-1) 0 z.iA=Pr.lz a m (z.iA.drop c)∧(c=0→a= -1∧m=0)∧(∀ (k:Nat) (h:k < z.iA.length),c=k+1→a=z.iA[k].after∧m=z.iA[k].iP)∧D= [(1,.bd 0 1 0 0),(3,.int .i64 c)]∧r= [.ag 35 4 [[.int .i64 z.eI,.int .i64 z.lw,.int .i64 z.lP,.pure 2 (ai z.iA)]]])
    (fun D _=>match bs D 3 with| .int _ j=>(z.iA.length-j).toNat|_=>0) ?_ ?_
   ·exact E.ac ⟨0,-1,0,by omega,rfl,fun _=>⟨rfl,rfl⟩,fun k h G=>by omega,rfl,rfl⟩
   rintro D r ⟨c,a,m,⟨av,pv,RQ⟩,af,YR,BT,rfl,rfl⟩;have aP:=dB (c:=c) (by omega)
   by_cases aI:c < z.iA.length
   rotate_left
   ·have eQ:decide ((c:Int) < z.iA.length)=false:=decide_eq_false (by omega);rw[List.drop_eq_nil_of_le (by omega),Pr.lz] at af;rw[if_pos af] at ajl;simp only[go_sem,aej,aH1,eQ,bT]
    repeat (refine E.ac ?_;simp only[go_sem])
    exact E.bg rfl ⟨by rw[ajl],rfl⟩
   have eQ:decide ((c:Int) < z.iA.length)=true:=decide_eq_true (by omega);have aKH: (ai z.iA).getD c []= [.int .i64 z.iA[c].after,.int .i64 z.iA[c].iP]:=by rw[cT aI,Pr.ajm]
   rw[List.drop_eq_getElem_cons aI,Pr.lz] at af;simp only[go_sem,aej,aH1,eQ,bT]
   repeat (refine E.ac ?_;(show eG _ _ _ _ _ _);simp only[go_sem,eQ,bT,aKH])
   refine⟨by omega,by omega,?_⟩;generalize N3:z.iA[c]=b at af aKH ⊢;have ba:c=0∨ ∃ k,c=k+1:=by cases c with
    |zero=>exact .inl rfl
    |succ k=>exact .inr ⟨k,rfl⟩
   by_cases aKZ:a < b.after∧b.after≤1440∧m < b.iP∧b.iP≤1440
   ·rw[decide_eq_true aKZ,Bool.true_and] at af;rcases ba with rfl|⟨k,rfl⟩
    ·obtain⟨rfl,rfl⟩:=YR rfl;have aP:IntKind.i64.wrap (0+1)=((0+1:Nat):Int):=by rw[bl (by omega) (by omega)];rfl
     refine E.ac ?_;simp only[go_sem,aKH]
     repeat' ((first|refine gv ?_ ?_|refine gw ?_ ?_|refine cf ?_ ?_|refine dj ?_ ?_)<;>intro aw<;>(have ak:=aw;try simp only[bC] at ak)<;>(first|omega| (simp only[go_sem,aw,aKH];clear aw)))
     all_goals (repeat (refine E.ac ?_;(show eG _ _ _ _ _ _);simp only[go_sem,aKH]))
     all_goals (try (repeat' ((first|refine gv ?_ ?_|refine gw ?_ ?_|refine cf ?_ ?_|refine dj ?_ ?_)<;>intro aw<;>(have ak:=aw;try simp only[bC] at ak)<;>(first|omega| (simp only[go_sem,aw,aKH];clear aw)))))
     all_goals (repeat (refine E.ac ?_;(show eG _ _ _ _ _ _);simp only[go_sem,aKH]))
     all_goals (refine E.bB [some 0] ?_;simp only[go_sem])
     all_goals refine E.ac ⟨⟨0+1,b.after,b.iP,by omega,af,fun h=>by omega,fun br h G=> ?_,by rw[aP],rfl⟩,?_⟩
     all_goals (first| (obtain rfl:0=br:=(by omega);exact⟨by rw[N3],by rw[N3]⟩)| (simp only[go_sem,aP];omega))
    ·obtain⟨er,em⟩:=BT k (by omega) rfl;have gk: (ai z.iA).getD k []= [.int .i64 z.iA[k].after,.int .i64 z.iA[k].iP]:=by rw[cT (by omega),Pr.ajm]
     generalize z.iA[k]=J at er em gk;subst er em;have nH:IntKind.i64.wrap (((k+1:Nat):Int)-1)=(k:Int):=by rw[bl (by omega) (by omega)];omega
     refine E.ac ?_;simp only[go_sem,aKH,gk,nH,Int.toNat_natCast]
     repeat' ((first|refine gv ?_ ?_|refine gw ?_ ?_|refine cf ?_ ?_|refine dj ?_ ?_)<;>intro aw<;>(have ak:=aw;try simp only[bC] at ak)<;>(first|omega| (simp only[go_sem,aw,aKH,gk,nH,Int.toNat_natCast];clear aw)))
     all_goals (repeat (refine E.ac ?_;(show eG _ _ _ _ _ _);simp only[go_sem,aKH,gk,nH,Int.toNat_natCast]))
     all_goals (try (repeat' ((first|refine gv ?_ ?_|refine gw ?_ ?_|refine cf ?_ ?_|refine dj ?_ ?_)<;>intro aw<;>(have ak:=aw;try simp only[bC] at ak)<;>(first|omega| (simp only[go_sem,aw,aKH,gk,nH,Int.toNat_natCast];clear aw)))))
     all_goals (repeat (refine E.ac ?_;(show eG _ _ _ _ _ _);simp only[go_sem,aKH,gk,nH,Int.toNat_natCast]))
     all_goals (try (refine⟨by omega,by omega,?_⟩))
     all_goals (try (repeat' ((first|refine gv ?_ ?_|refine gw ?_ ?_|refine cf ?_ ?_|refine dj ?_ ?_)<;>intro aw<;>(have ak:=aw;try simp only[bC] at ak)<;>(first|omega| (simp only[go_sem,aw,aKH,gk,nH,Int.toNat_natCast];clear aw)))))
     all_goals (repeat (refine E.ac ?_;(show eG _ _ _ _ _ _);simp only[go_sem,aKH,gk,nH,Int.toNat_natCast]))
     all_goals (try (refine⟨by omega,by omega,?_⟩))
     all_goals (try (repeat' ((first|refine gv ?_ ?_|refine gw ?_ ?_|refine cf ?_ ?_|refine dj ?_ ?_)<;>intro aw<;>(have ak:=aw;try simp only[bC] at ak)<;>(first|omega| (simp only[go_sem,aw,aKH,gk,nH,Int.toNat_natCast];clear aw)))))
     all_goals (repeat (refine E.ac ?_;(show eG _ _ _ _ _ _);simp only[go_sem,aKH,gk,nH,Int.toNat_natCast]))
     all_goals (try (refine⟨by omega,by omega,?_⟩))
     all_goals (try (repeat' ((first|refine gv ?_ ?_|refine gw ?_ ?_|refine cf ?_ ?_|refine dj ?_ ?_)<;>intro aw<;>(have ak:=aw;try simp only[bC] at ak)<;>(first|omega| (simp only[go_sem,aw,aKH,gk,nH,Int.toNat_natCast];clear aw)))))
     all_goals (repeat (refine E.ac ?_;(show eG _ _ _ _ _ _);simp only[go_sem,aKH,gk,nH,Int.toNat_natCast]))
     all_goals (refine E.bB [some 0] ?_;simp only[go_sem])
     all_goals refine E.ac ⟨⟨k+1+1,b.after,b.iP,by omega,af,fun h=>by omega,fun br h G=> ?_,by rw[aP],rfl⟩,?_⟩
     all_goals (first| (obtain rfl:k+1=br:=(by omega);exact⟨by rw[N3],by rw[N3]⟩)| (simp only[go_sem,aP];omega))
   ·rw[decide_eq_false aKZ,Bool.false_and] at af;rw[af,if_neg (by decide)] at ajl;rcases ba with rfl|⟨k,rfl⟩
    ·obtain⟨rfl,rfl⟩:=YR rfl;have aP:IntKind.i64.wrap (0+1)=((0+1:Nat):Int):=by rw[bl (by omega) (by omega)];rfl
     refine E.ac ?_;simp only[go_sem,aKH]
     repeat' ((first|refine gv ?_ ?_|refine gw ?_ ?_|refine cf ?_ ?_|refine dj ?_ ?_)<;>intro aw<;>(have ak:=aw;try simp only[bC] at ak)<;>(first|omega| (simp only[go_sem,aw,aKH];clear aw)))
     all_goals (repeat (refine E.ac ?_;(show eG _ _ _ _ _ _);simp only[go_sem,aKH]))
     all_goals (try (repeat' ((first|refine gv ?_ ?_|refine gw ?_ ?_|refine cf ?_ ?_|refine dj ?_ ?_)<;>intro aw<;>(have ak:=aw;try simp only[bC] at ak)<;>(first|omega| (simp only[go_sem,aw,aKH];clear aw)))))
     all_goals (repeat (refine E.ac ?_;(show eG _ _ _ _ _ _);simp only[go_sem,aKH]))
     all_goals (repeat (refine E.ac ?_;simp only[go_sem]))
     all_goals exact E.bg rfl ⟨by rw[ajl],rfl⟩
    ·obtain⟨er,em⟩:=BT k (by omega) rfl;have gk: (ai z.iA).getD k []= [.int .i64 z.iA[k].after,.int .i64 z.iA[k].iP]:=by rw[cT (by omega),Pr.ajm]
     generalize z.iA[k]=J at er em gk;subst er em;have nH:IntKind.i64.wrap (((k+1:Nat):Int)-1)=(k:Int):=by rw[bl (by omega) (by omega)];omega
     refine E.ac ?_;simp only[go_sem,aKH,gk,nH,Int.toNat_natCast]
     repeat' ((first|refine gv ?_ ?_|refine gw ?_ ?_|refine cf ?_ ?_|refine dj ?_ ?_)<;>intro aw<;>(have ak:=aw;try simp only[bC] at ak)<;>(first|omega| (simp only[go_sem,aw,aKH,gk,nH,Int.toNat_natCast];clear aw)))
     all_goals (repeat (refine E.ac ?_;(show eG _ _ _ _ _ _);simp only[go_sem,aKH,gk,nH,Int.toNat_natCast]))
     all_goals (try (repeat' ((first|refine gv ?_ ?_|refine gw ?_ ?_|refine cf ?_ ?_|refine dj ?_ ?_)<;>intro aw<;>(have ak:=aw;try simp only[bC] at ak)<;>(first|omega| (simp only[go_sem,aw,aKH,gk,nH,Int.toNat_natCast];clear aw)))))
     all_goals (repeat (refine E.ac ?_;(show eG _ _ _ _ _ _);simp only[go_sem,aKH,gk,nH,Int.toNat_natCast]))
     all_goals (try (refine⟨by omega,by omega,?_⟩))
     all_goals (try (repeat' ((first|refine gv ?_ ?_|refine gw ?_ ?_|refine cf ?_ ?_|refine dj ?_ ?_)<;>intro aw<;>(have ak:=aw;try simp only[bC] at ak)<;>(first|omega| (simp only[go_sem,aw,aKH,gk,nH,Int.toNat_natCast];clear aw)))))
     all_goals (repeat (refine E.ac ?_;(show eG _ _ _ _ _ _);simp only[go_sem,aKH,gk,nH,Int.toNat_natCast]))
     all_goals (try (refine⟨by omega,by omega,?_⟩))
     all_goals (try (repeat' ((first|refine gv ?_ ?_|refine gw ?_ ?_|refine cf ?_ ?_|refine dj ?_ ?_)<;>intro aw<;>(have ak:=aw;try simp only[bC] at ak)<;>(first|omega| (simp only[go_sem,aw,aKH,gk,nH,Int.toNat_natCast];clear aw)))))
     all_goals (repeat (refine E.ac ?_;(show eG _ _ _ _ _ _);simp only[go_sem,aKH,gk,nH,Int.toNat_natCast]))
     all_goals (try (refine⟨by omega,by omega,?_⟩))
     all_goals (try (repeat' ((first|refine gv ?_ ?_|refine gw ?_ ?_|refine cf ?_ ?_|refine dj ?_ ?_)<;>intro aw<;>(have ak:=aw;try simp only[bC] at ak)<;>(first|omega| (simp only[go_sem,aw,aKH,gk,nH,Int.toNat_natCast];clear aw)))))
     all_goals (repeat (refine E.ac ?_;(show eG _ _ _ _ _ _);simp only[go_sem,aKH,gk,nH,Int.toNat_natCast]))
     all_goals (repeat (refine E.ac ?_;simp only[go_sem]))
     all_goals exact E.bg rfl ⟨by rw[ajl],rfl⟩
theorem aO6 {z:Pr.gK}{ae:Pr.bx}{last:Int}{aa:List Pr.dF}{c:Nat}(h:c < aa.length):Pr.kB z ae last (aa.drop c)=(if (Pr.mo z ae last aa[c]).R < (Pr.mo z ae last aa[c]).ab then [Pr.mo z ae last aa[c]] else [])++Pr.kB z ae (max last (Pr.mo z ae last aa[c]).ab) (aa.drop (c+1)):=by
 rw[List.drop_eq_getElem_cons h,Pr.kB];split<;>simp
theorem aO7 {aa:List Pr.dF}{c:Nat}(h:c < aa.length):Pr.na (aa.drop c)=aa[c].ey++Pr.na (aa.drop (c+1)):=by
 unfold Pr.na;rw[List.drop_eq_getElem_cons h,List.flatMap_cons]
theorem aO8 {l:List Pr.bx}{c:Nat}(h:c < l.length):Pr.da (l.take (c+1))=Pr.da (l.take c)+(l[c].ab-l[c].R):=by
 rw[List.take_succ_eq_append_getElem h,Pr.UM];simp[Pr.da]
def aO9 (ah:Int)(w:List Pr.bx)(v:F):Prop:=v= .bo [.agg [.int .i64 ah,.pure 2 (ai w)],.int .i64 0]∨(w= []∧v= .bo [.agg [.int .i64 ah,.bH],.int .i64 0])
set_option maxHeartbeats 8000000 in
theorem aPa (z:Pr.gK)(N:Pr.mq z=0)(ae:Pr.bx)(gy:Pr.HM ae)(bP ah:Int)(aa:List Pr.dF)(kk:Pr.lx aa=0):aO prog 79 [.agg (aJ.J z),.agg (aJ.J ae),.agg [.int .i64 bP,.int .i64 ah,.pure 3 (ai aa)]] []
 (fun v rs=>(if Pr.qD z ae aa=0 then aO9 ah (Pr.pb z ae aa) v else v= .bo [.agg [.int .i64 0,.bH],.int .i64 (Pr.qD z ae aa)])∧rs= []):=by
 have HN:Pr.qD z ae aa=if 100000 < Pr.da (Pr.kB z ae 0 aa) then 3 else 0:=by
  unfold Pr.qD;rw[if_neg (by omega),if_neg (fun h=>by rcases gy with G|G;exact h.1 G;rw[G] at h;exact absurd h.2 (by decide)),if_neg (by omega)]
 obtain⟨yn,kX,nK⟩:=Pr.LS N;have tG:=Pr.LU kk;have hC:=Pr.LV tG (by omega);have cK:aa.length≤1024:=by unfold Pr.lx at kk;split at kk<;>omega
 have bO:=aMZ z;have cd:=Pr.aMk ae.R ae.ab;have fk:=Pr.aLQ aa (by omega);rw[N] at bO;rw[kk] at fk;simp only[Pr.Ab] at bO;have qC:z.lP≤120∧0≤z.lP:=by unfold Pr.gK.qh at yn;omega
 have aPZ:0≤ae.R∧ae.R≤120968640∧0≤ae.ab∧ae.ab≤120968640:=by
  rcases gy with h|h
  ·omega
  ·simp only[Pr.hR,decide_eq_true_eq] at h;omega
 have nH:Pr.pb z ae aa=if (Pr.mx (Pr.kB z ae 0 aa) (Pr.na aa) []).isEmpty then [] else Pr.pR z.iA (Pr.vg (Pr.mx (Pr.kB z ae 0 aa) (Pr.na aa) [])) (Pr.mx (Pr.kB z ae 0 aa) (Pr.na aa) []):=rfl
 refine hJ func79 azX (by simp[acW,aHu]) ?_;simp only[go_sem,acW,aHu,Pr.Ab,Pr.eY]
 (repeat (first| (refine E.ac ?_;simp only[go_sem])|simp only[go_sem]))
 refine bM bO (by simp only[bU,bJ,ck,Bool.and_self,Bool.and_true]) rfl ?_
 (repeat (first| (refine E.ac ?_;simp only[go_sem])|simp only[go_sem]))
 refine aN1 (fun D r=>D= [(3,.bd 0 1 0 0),(4,.bd 1 1 0 0),(5,.bd 2 1 0 0),(6,.bd 3 1 0 0),(38,.bool false)]∧r= [.ag 35 4 [[.int .i64 z.eI,.int .i64 z.lw,.int .i64 z.lP,.pure 2 (ai z.iA)]],.ag 64 2 [[.int .i64 ae.R,.int .i64 ae.ab]],.ag 157 3 [[.int .i64 bP,.int .i64 ah,.pure 3 (ai aa)]],.ag 62 2 [[.int .i64 0,.bH]]]) ?_ ?_ ?_
 ·intro aw;have qE:Pr.hR ⟨ae.R,ae.ab⟩ 0 120968640=true:=by
   rcases gy with G|G
   ·rw[G.1,G.2] at aw;simp at aw
   ·exact G
  simp only[go_sem,aw];refine bM cd rfl rfl ?_;rw[qE];simp only[go_sem,aw]
 ·intro aw;simp only[go_sem,aw]
 rintro D r ⟨rfl,rfl⟩
 (repeat (first| (refine E.ac ?_;simp only[go_sem])|simp only[go_sem]))
 refine bM fk (by simp only[bU,bJ,ck,Bool.and_self,Bool.and_true]) rfl ?_
 (repeat (first| (refine E.ac ?_;simp only[go_sem,bT])|simp only[go_sem,bT]))
 refine hv (fun D r=> ∃ (c:Nat) (S di:List Pr.bx) (last:Int),c≤aa.length∧Pr.kB z ae 0 aa=S++Pr.kB z ae last (aa.drop c)∧Pr.na aa=di++Pr.na (aa.drop c)∧(0≤last∧last≤120968640)∧(0≤Pr.da S∧Pr.da S≤last)∧S.length≤c∧di.length≤1024*c∧D= [(3,.bd 0 1 0 0),(4,.bd 1 1 0 0),(5,.bd 2 1 0 0),(6,.bd 3 1 0 0),(10,.own 4 S.length 0 S.length),(11,.own 5 di.length 0 di.length),(12,.int .i64 last),(13,.int .i64 (Pr.da S)),(14,.int .i64 c)]∧r= [.ag 35 4 [[.int .i64 z.eI,.int .i64 z.lw,.int .i64 z.lP,.pure 2 (ai z.iA)]],.ag 64 2 [[.int .i64 ae.R,.int .i64 ae.ab]],.ag 157 3 [[.int .i64 bP,.int .i64 ah,.pure 3 (ai aa)]],.ag 62 2 [[.int .i64 0,.bH]],.ag 64 2 (ai S),.ag 64 2 (ai di)])
  (fun D _=>match bs D 14 with| .int _ j=>(aa.length-j).toNat|_=>0) ?_ ?_
 ·(refine E.iv 10 64 2 rfl (E.eW [3,4,5,6,10,11,12,13,14] ?_);simp only[go_sem])
  (refine E.iv 11 64 2 rfl (E.eW [3,4,5,6,10,11,12,13,14] ?_);simp only[go_sem])
  exact E.ac ⟨0,[],[],0,by omega,by simp,by simp,by omega,by simp[Pr.da],by simp,by simp,rfl,rfl⟩
 rintro D r ⟨c,S,di,last,av,du,cU,⟨oY,jK⟩,⟨zR,Lz⟩,Ag,HU,rfl,rfl⟩;have aP:=dB (c:=c) (by omega)
 by_cases aI:c < aa.length
 ·have q1:decide ((c:Int) < aa.length)=true:=decide_eq_true (by omega);have aMl: (ai aa).getD c []=aJ.J aa[c]:=cT aI;obtain⟨Bx,iK,Ci,akh,_⟩:=hC aa[c] (List.getElem_mem aI);rw[aO6 aI] at du;rw[aO7 aI] at cU;generalize aa[c]=p at *;have aaX:=aMS z yn ae gy p.R ae.R false (by omega) (by omega) (by omega) (by omega);have aNl:=aMS z yn ae gy p.ab ae.ab true (by omega) (by omega) (by omega) (by omega);simp only[Pr.Ab,Pr.eY] at aaX aNl;have aCa:max (max (if ¬(ae.R=0∧ae.ab=0)∧p.R-ae.R≤z.lP∧ae.R-p.R≤z.lP then ae.R else Pr.um z p.R false) last) 0=(Pr.mo z ae last p).R:=by
   show _=max _ last;omega
  have aPb:min (if ¬(ae.R=0∧ae.ab=0)∧p.ab-ae.ab≤z.lP∧ae.ab-p.ab≤z.lP then ae.ab else Pr.um z p.ab true) 120968640=(Pr.mo z ae last p).ab:=rfl;have auj:last≤(Pr.mo z ae last p).R∧(Pr.mo z ae last p).R≤120968800:=by
   obtain⟨g1,bR,dq⟩:=Pr.ajo yn (t:=p.R) false (by omega);simp only[Pr.mo];split<;>omega
  have QO:0≤(Pr.mo z ae last p).ab∧(Pr.mo z ae last p).ab≤120968640:=by
   obtain⟨g1,bR,dq⟩:=Pr.ajo yn (t:=p.ab) true (by omega);simp only[Pr.mo];split<;>omega
  simp only[go_sem,acW,aHu,q1,bT]
  repeat (refine E.ac ?_;(show eG _ _ _ _ _ _);simp only[go_sem,q1,bT,aMl,Pr.H3])
  repeat (first| (refine And.intro (by omega) ?_)| (refine And.intro (by rw[bT]) ?_))
  (repeat (first| (refine E.ac ?_;simp only[go_sem,bT,aMl,Pr.H3])|simp only[go_sem,bT,aMl,Pr.H3]))
  refine bM aaX (by simp only[bU,bJ,ck,Bool.and_self,Bool.and_true]) rfl ?_;simp only[go_sem];rw[aCa]
  (repeat (first| (refine E.ac ?_;simp only[go_sem])|simp only[go_sem]))
  refine bM aNl (by simp only[bU,bJ,ck,Bool.and_self,Bool.and_true]) rfl ?_;simp only[go_sem];rw[aPb];generalize Pr.mo z ae last p=bw at *
  (repeat (first| (refine E.ac ?_;simp only[go_sem,bT])|simp only[go_sem,bT]))
  repeat (first| (refine And.intro (by omega) ?_)| (refine And.intro (by rw[bT]) ?_))
  (repeat (first| (refine E.ac ?_;simp only[go_sem,bT])|simp only[go_sem,bT]))
  have aiE:ai di++ai p.ey=ai (di++p.ey):=by simp[ai]
  have aLX: (di++p.ey).length=di.length+p.ey.length:=List.length_append
  by_cases aLj:bw.R < bw.ab
  ·have eQ:decide (bw.R < bw.ab)=true:=decide_eq_true aLj;rw[if_pos aLj,←List.append_assoc] at du;have aPc:Pr.da (S++ [bw])=Pr.da S+(bw.ab-bw.R):=by rw[Pr.UM];simp[Pr.da]
   have dn:IntKind.i64.wrap (bw.ab-bw.R)=bw.ab-bw.R:=bl (by omega) (by omega);have gI:IntKind.i64.wrap (Pr.da S+(bw.ab-bw.R))=Pr.da S+(bw.ab-bw.R):=bl (by omega) (by omega);have aK7:ai S++ [[.int .i64 bw.R,.int .i64 bw.ab]]=ai (S++ [bw]):=by simp[ai,Pr.eY]
   simp only[go_sem,eQ,aiE,dn,gI,aK7]
   repeat (first| (refine And.intro (by omega) ?_)| (refine E.ac ?_;(show eG _ _ _ _ _ _);simp only[go_sem,aiE,dn,gI,aK7]))
   (refine E.bB [some 0,some 1,some 2,some 3,some 4,some 5] ?_;simp only[go_sem])
   refine E.ac ⟨⟨c+1,S++ [bw],di++p.ey,max last bw.ab,by omega,by rw[du],by rw[cU,List.append_assoc],by omega,by omega,by simp;omega,by rw[aLX];omega,by rw[aP,aPc,aLX];simp,rfl⟩,?_⟩;simp only[go_sem,aP];omega
  ·have eQ:decide (bw.R < bw.ab)=false:=decide_eq_false aLj;rw[if_neg aLj,List.nil_append] at du;simp only[go_sem,eQ,aiE]
   repeat (first| (refine And.intro (by omega) ?_)| (refine E.ac ?_;(show eG _ _ _ _ _ _);simp only[go_sem,aiE]))
   (refine E.bB [some 0,some 1,some 2,some 3,some 4,some 5] ?_;simp only[go_sem])
   refine E.ac ⟨⟨c+1,S,di++p.ey,max last bw.ab,by omega,du,by rw[cU,List.append_assoc],by omega,by omega,by omega,by rw[aLX];omega,by rw[aP,aLX],rfl⟩,?_⟩;simp only[go_sem,aP];omega
 have q1:decide ((c:Int) < aa.length)=false:=decide_eq_false (by omega);rw[List.drop_eq_nil_of_le (by omega),Pr.kB,List.append_nil] at du;rw[List.drop_eq_nil_of_le (by omega),show Pr.na []= [] from rfl,List.append_nil] at cU;rw[du] at HN nH;rw[cU] at nH;have pv:=Pr.HP (z:=z) (ae:=ae) (aa:=aa) (last:=0);have hp:=Pr.Ig tG;rw[du] at pv;rw[cU] at hp;have E0:=Pr.Rf pv (by omega);simp only[go_sem,acW,aHu,q1,bT]
 repeat (refine E.ac ?_;(show eG _ _ _ _ _ _);simp only[go_sem,q1,bT])
 by_cases hN:100000 < Pr.da S
 ·have eQ:decide (100000 < Pr.da S)=true:=decide_eq_true hN;rw[if_pos hN] at HN;simp only[go_sem,eQ]
  repeat (refine E.ac ?_;(show eG _ _ _ _ _ _);simp only[go_sem])
  exact E.bg rfl ⟨by rw[HN,if_neg (by decide)],rfl⟩
 have eQ:decide (100000 < Pr.da S)=false:=decide_eq_false hN;rw[if_neg hN] at HN;have aP0:di.length≤1100000:=by omega
 have Ms:=aMY S di pv (by omega);rw[aOB pv (by omega) hp] at Ms;obtain⟨aPd,_⟩:=Pr.ajf (z:= []) (e:=0) hp pv (by omega) Pr.UA;obtain⟨fK,E8⟩:=Pr.Sd (z:= []) hp (by omega) E0 (by simp[Pr.gz]);have aPe:Pr.da (Pr.mx S di [])≤100000:=by simp only[Pr.da] at E8;omega
 generalize Pr.mx S di []=W at *;simp only[go_sem,eQ]
 (refine E.kK [some 0,some 2,some 3] [4,5] ?_;simp only[go_sem])
 repeat (refine E.ac ?_;(show eG _ _ _ _ _ _);simp only[go_sem])
 refine bM Ms (by simp only[bU,bJ,ck,Bool.and_self,Bool.and_true]) (by simp only[bU,bJ,ck,Bool.and_self,Bool.and_true]) ?_;simp only[go_sem]
 repeat (refine E.ac ?_;(show eG _ _ _ _ _ _);simp only[go_sem,bT])
 by_cases E6:W.length=0
 ·have agA:W= []:=List.eq_nil_of_length_eq_zero E6;have eF: ((W.length:Int)==0)=true:=by simp[E6]
  subst agA;simp only[go_sem,eF]
  repeat (refine E.ac ?_;(show eG _ _ _ _ _ _);simp only[go_sem])
  exact E.bg rfl ⟨by rw[HN,if_pos rfl];exact .inr ⟨by rw[nH];rfl,rfl⟩,rfl⟩
 have eF: ((W.length:Int)==0)=false:=beq_eq_false_iff_ne.2 (by omega);have Ut:W.isEmpty=false:=by cases W<;>simp_all
 rw[Ut] at nH;have sF:=Pr.nO fK;have hne:0 < W.length:=by omega
 simp only[go_sem,eF]
 (refine E.ac ?_;simp only[go_sem])
 (refine E.ac ?_;simp only[go_sem])
 refine E.ac ?_
 try simp only[go_sem]
 refine hv (fun D r=> ∃ (c:Nat),c≤W.length∧D= [(3,.bd 0 1 0 0),(5,.bd 1 1 0 0),(6,.bd 2 1 0 0),(18,.pure 2 (ai W)),(19,.int .i64 (Pr.da (W.take c))),(20,.int .i64 c)]∧r= [.ag 35 4 [[.int .i64 z.eI,.int .i64 z.lw,.int .i64 z.lP,.pure 2 (ai z.iA)]],.ag 157 3 [[.int .i64 bP,.int .i64 ah,.pure 3 (ai aa)]],.ag 62 2 [[.int .i64 0,.bH]]])
  (fun D _=>match bs D 20 with| .int _ j=>(W.length-j).toNat|_=>0) ?_ ?_
 ·exact E.ac ⟨0,by omega,rfl,rfl⟩
 rintro D r ⟨k,O,rfl,rfl⟩;have aNm:=dB (c:=k) (by omega);have G1: ∀ q,0≤Pr.da (W.take q)∧Pr.da (W.take q)≤Pr.da W:=fun q=>by
  have h1:=Pr.Jz (l:=W.take q) (fun x aj=>fK x (List.mem_of_mem_take aj));have G:=Pr.Jz (l:=W.drop q) (fun x aj=>fK x (List.mem_of_mem_drop aj));have au:=Pr.UM (l:=W.take q) (z:=W.drop q);rw[List.take_append_drop] at au;omega
 by_cases gO:k < W.length
 ·have iR:decide ((k:Int) < W.length)=true:=decide_eq_true (by omega);have aK5: (ai W).getD k []=aJ.J W[k]:=cT gO;have an:=fK W[k] (List.getElem_mem gO);have aPf:=aO8 gO;obtain⟨bb,n1⟩:=G1 k;obtain⟨eo,T3⟩:=G1 (k+1);generalize W[k]=v at *;generalize Pr.da (W.take k)=x at *;have dn:IntKind.i64.wrap (v.ab-v.R)=v.ab-v.R:=bl (by omega) (by omega);have gI:IntKind.i64.wrap (x+(v.ab-v.R))=x+(v.ab-v.R):=bl (by omega) (by omega);simp only[go_sem,acW,aHu,iR,bT]
  repeat (refine E.ac ?_;(show eG _ _ _ _ _ _);simp only[go_sem,iR,bT,aK5,Pr.eY,dn,gI])
  repeat (refine And.intro (by omega) ?_)
  repeat (refine E.ac ?_;(show eG _ _ _ _ _ _);simp only[go_sem,iR,bT,aK5,Pr.eY,dn,gI])
  refine E.ac ⟨⟨k+1,by omega,by rw[aNm,aPf],rfl⟩,?_⟩;simp only[go_sem,aNm];omega
 have iR:decide ((k:Int) < W.length)=false:=decide_eq_false (by omega);rw[List.take_of_length_le (by omega)];have nF:=Pr.aGy hne;have ajn: (ai W).getD (W.length-1) []= [.int .i64 W[W.length-1].R,.int .i64 W[W.length-1].ab]:=by rw[cT (by omega),Pr.eY]
 have wm: (ai W).getD 0 []= [.int .i64 W[0].R,.int .i64 W[0].ab]:=by rw[cT hne,Pr.eY]
 have nD:=fK _ (List.getElem_mem (l:=W) (n:=W.length-1) (by omega));have jZ:=fK _ (List.getElem_mem (l:=W) (n:=0) hne);have xf:IntKind.i64.wrap ((W.length:Int)-1)=((W.length-1:Nat):Int):=by rw[bl (by omega) (by omega)];omega
 have FD:=Pr.Jz fK;generalize W[W.length-1]=UJ at ajn nF nD;generalize W[0]=UK at wm nF jZ;have aGA:IntKind.i64.wrap (UJ.ab-UK.R)=UJ.ab-UK.R:=bl (by omega) (by omega);have Is:IntKind.i64.wrap (UJ.ab-UK.R-Pr.da W)=Pr.vg W:=by rw[bl (by omega) (by omega)];omega
 have aKx: -1000000000≤Pr.vg W∧Pr.vg W≤1000000000:=by omega
 simp only[go_sem,acW,aHu,iR,bT]
 repeat (refine E.ac ?_;(show eG _ _ _ _ _ _);simp only[go_sem,iR,bT,xf,ajn,wm,aGA,Is,Int.toNat_natCast])
 repeat (refine And.intro (by omega) ?_)
 refine E.ac ?_;simp only[go_sem];refine E.ac ?_
 try simp only[go_sem]
 refine hv (fun D r=> ∃ (c:Nat) (tk a m:Int) (u:List Pr.bx),c≤z.iA.length∧Pr.pR z.iA (Pr.vg W) W=Pr.pR (z.iA.drop c) tk u∧Pr.gz u∧(∃ el,Pr.hY u el)∧Pr.da u≤100000∧ -1000000000≤tk∧tk≤1000000000∧ -1≤a∧0≤m∧Pr.lz a m (z.iA.drop c)=true∧D= [(3,.bd 0 1 0 0),(5,.bd 1 1 0 0),(6,.bd 2 1 0 0),(18,.pure 2 (ai u)),(19,.int .i64 (Pr.da u)),(21,.int .i64 tk),(22,.int .i64 c)]∧r= [.ag 35 4 [[.int .i64 z.eI,.int .i64 z.lw,.int .i64 z.lP,.pure 2 (ai z.iA)]],.ag 157 3 [[.int .i64 bP,.int .i64 ah,.pure 3 (ai aa)]],.ag 62 2 [[.int .i64 0,.bH]]])
  (fun D _=>match bs D 22 with| .int _ j=>(z.iA.length-j).toNat|_=>0) ?_ ?_
 ·exact E.ac ⟨0,Pr.vg W,-1,0,W,by omega,rfl,fK,⟨_,aPd⟩,aPe,aKx.1,aKx.2,by omega,by omega,kX,rfl,rfl⟩
 rintro D r ⟨gm,tk,a,m,u,kv,he,bc,⟨el,aLs⟩,By,Lz,EH,aC,hm,aLY,rfl,rfl⟩;have aCx:=Pr.nO bc;have aKy:=Pr.Jz bc;have gI:=dB (c:=gm) (by omega)
 by_cases Aa:gm < z.iA.length
 rotate_left
 ·have pW:decide ((gm:Int) < z.iA.length)=false:=decide_eq_false (by omega);rw[List.drop_eq_nil_of_le (by omega),Pr.pR] at he;simp only[go_sem,acW,aHu,pW,bT]
  repeat (refine E.ac ?_;(show eG _ _ _ _ _ _);simp only[go_sem,pW,bT])
  exact E.bg (by simp only[bU,bJ,ck,Bool.and_self,Bool.and_true]) ⟨by rw[HN,if_pos rfl];exact .inl (by rw[nH,if_neg (by decide),he]),rfl⟩
 have pW:decide ((gm:Int) < z.iA.length)=true:=decide_eq_true (by omega);have MU: (ai z.iA).getD gm []= [.int .i64 z.iA[gm].after,.int .i64 z.iA[gm].iP]:=by rw[cT Aa,Pr.ajm]
 rw[List.drop_eq_getElem_cons Aa,Pr.lz,Bool.and_eq_true,decide_eq_true_eq] at aLY;rw[List.drop_eq_getElem_cons Aa,Pr.pR] at he;generalize z.iA[gm]=b at *;simp only[go_sem,acW,aHu,pW,bT]
 repeat (refine E.ac ?_;(show eG _ _ _ _ _ _);simp only[go_sem,pW,bT,MU])
 repeat (refine And.intro (by omega) ?_)
 by_cases lI:Pr.da u≤b.after∨b.iP≤tk
 ·rw[if_pos lI] at he
  by_cases aNn:Pr.da u≤b.after
  ·have d1:decide (Pr.da u≤b.after)=true:=decide_eq_true aNn
   repeat (refine E.ac ?_;(show eG _ _ _ _ _ _);simp only[go_sem,d1])
   (refine E.bB [some 0,some 1,some 2] ?_;simp only[go_sem])
   refine E.ac ⟨⟨gm+1,tk,b.after,b.iP,u,by omega,he,bc,⟨el,aLs⟩,By,Lz,EH,by omega,by omega,aLY.2,by rw[gI],rfl⟩,?_⟩;simp only[go_sem,gI];omega
  ·have d1:decide (Pr.da u≤b.after)=false:=decide_eq_false aNn;have ky:decide (b.iP≤tk)=true:=decide_eq_true (by omega)
   repeat (refine E.ac ?_;(show eG _ _ _ _ _ _);simp only[go_sem,d1,ky])
   (refine E.bB [some 0,some 1,some 2] ?_;simp only[go_sem])
   refine E.ac ⟨⟨gm+1,tk,b.after,b.iP,u,by omega,he,bc,⟨el,aLs⟩,By,Lz,EH,by omega,by omega,aLY.2,by rw[gI],rfl⟩,?_⟩;simp only[go_sem,gI];omega
 ·rw[if_neg lI] at he;have d1:decide (Pr.da u≤b.after)=false:=decide_eq_false (by omega);have ky:decide (b.iP≤tk)=false:=decide_eq_false (by omega);have Cm:0≤min (b.iP-tk) (Pr.da u-b.after):=by omega
  have kL:min (b.iP-tk) (Pr.da u-b.after)≤1000000:=by omega
  have sf:min (b.iP-tk) (Pr.da u-b.after)≤Pr.da u-b.after:=by omega
  have aGB:IntKind.i64.wrap (b.iP-tk)=b.iP-tk:=bl (by omega) (by omega);have aGC:IntKind.i64.wrap (Pr.da u-b.after)=Pr.da u-b.after:=bl (by omega) (by omega);have aGD:IntKind.i64.wrap (tk+min (b.iP-tk) (Pr.da u-b.after))=tk+min (b.iP-tk) (Pr.da u-b.after):=bl (by omega) (by omega);have aue:IntKind.i64.wrap (Pr.da u-min (b.iP-tk) (Pr.da u-b.after))=Pr.da u-min (b.iP-tk) (Pr.da u-b.after):=bl (by omega) (by omega);have aPg:Pr.dd 0 120968640 u=true:=aLD aLs.Sf fun v an=>by have:=bc v an;omega
  have aPh:=aOw u b.after (min (b.iP-tk) (Pr.da u-b.after)) aPg aLs.Sf By (by omega) (by omega) (by omega) Cm kL;obtain⟨c1,c2⟩:=aMW (l:=u) (z:= []) (a:=b.after) Cm bc (by simp[Pr.gz]);obtain⟨aPi,_⟩:=Pr.ajg (a:=b.after) Cm aLs.Sf aLs.xR (fun v an=>(bc v an).1) (Pr.UA (e:=0));have c3:Pr.da (Pr.rb u b.after (min (b.iP-tk) (Pr.da u-b.after)) [])=Pr.da u-min (b.iP-tk) (Pr.da u-b.after):=by
   simp only[Pr.da] at c2;omega
  generalize cA:min (b.iP-tk) (Pr.da u-b.after)=K at *;generalize Pr.rb u b.after K []=OF at *
  repeat (refine E.ac ?_;(show eG _ _ _ _ _ _);simp only[go_sem,d1,ky,aGB,aGC,cA])
  refine bM aPh (by simp only[bU,bJ,ck,Bool.and_self,Bool.and_true]) (by simp only[bU,bJ,ck,Bool.and_self,Bool.and_true]) ?_;simp only[go_sem,aGD,aue]
  repeat (refine E.ac ?_;(show eG _ _ _ _ _ _);simp only[go_sem,aGD,aue])
  (refine E.bB [some 0,some 1,some 2] ?_;simp only[go_sem])
  refine E.ac ⟨⟨gm+1,tk+K,b.after,b.iP,OF,by omega,he,c1,aPi,by omega,by omega,by omega,by omega,by omega,aLY.2,by rw[gI,c3],rfl⟩,?_⟩;simp only[go_sem,gI];omega
theorem aPj (z:Pr.gK)(N:Pr.mq z=0)(ae:Pr.bx)(gy:Pr.HM ae)(bP ah:Int)(aa:List Pr.dF)(kk:Pr.lx aa=0):aO prog 79 [.agg (aJ.J z),.agg (aJ.J ae),.agg [.int .i64 bP,.int .i64 ah,.pure 3 (ai aa)]] []
 (fun v rs=>v= .bo [if Pr.qD z ae aa=0 then .agg [.int .i64 ah,.pure 2 (ai (Pr.pb z ae aa))] else .agg [.int .i64 0,.bH],.int .i64 (Pr.qD z ae aa)]∧rs= []):=by
 refine aO.awN (aPa z N ae gy bP ah aa kk) ?_;rintro v rs ⟨an,rfl⟩;refine⟨_,⟨rfl,rfl⟩,fun C x aj=> ?_⟩
 by_cases h:Pr.qD z ae aa=0
 ·rw[if_pos h] at an ⊢;rw[h];rcases an with rfl|⟨aP,rfl⟩
  ·exact aj
  ·rw[aP];exact W3 _ _ _ (by simp[le,hK,ai]) aj
 ·rw[if_neg h] at an ⊢;rw[an] at aj;exact aj
end Go.Proofs.YtpincjkjoeopkaaGreatDoor
