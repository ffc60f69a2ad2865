/- Calendar and premiums. -/
import Derived.Test.YtpincjkjoeopkaaGreatDoorW17
import Derived.Test.YtpincjkjoeopkaaGreatDoorW5
set_option linter.all false
namespace Go.Proofs.YtpincjkjoeopkaaGreatDoor.Pm
open Go Go.Abs Go.Proofs.Tryz
theorem Ul {l:List dP}{n g:ByteArray}{z f t w B:Int}:ai l++ [[.str n,.str g,.int .i64 z,.int .i64 f,.int .i64 t,.int .i64 w,.int .i64 B]]=ai (l++ [⟨n,g,z,f,t,w,B⟩]):=kT (x:=dP.mk n g z f t w B)
theorem ayK (l:List Int)(hl:mW l)(rL:Bool)(az:Int)(h0:0≤az)(h1:az≤l.length):aO prog 62 [.bd 0 1 0 0,.bool rL] [gp l az]
 (fun v rs=> ∃ (a:Int) (al:List dP),v= .own 1 al.length 0 al.length∧rs= [gp l a,.ag 229 7 (ai al)]∧0≤a∧a≤l.length∧al.length≤3∧(rL=false→qW al=true)):=by
 refine hJ func62 acO (by simp[AC,C8]) ?_;simp only[go_sem,AC,C8,gp]
 (refine E.ac ?_;simp only[go_sem])
 (refine E.ac ?_;simp only[go_sem])
 (refine lN (hi l hl 4 (by omega)) ?_;rintro _ az _ _ ⟨k,rfl,_,_⟩;simp only[go_sem])
 (refine E.ac ?_;simp only[go_sem])
 refine hv (fun D r=> ∃ (a:Int) (al:List dP) (j:Int),D= [(0,.bd 0 1 0 0),(1,.bool rL),(5,.own 1 al.length 0 al.length),(6,.int .i64 j)]∧r= [dX 143 l a,.ag 229 7 (ai al)]∧0≤a∧a≤l.length∧0≤j∧al.length+j≤3∧(rL=false→qW al=true))
  (fun D _=>match bs D 6 with| .int _ j=>j.toNat|_=>0) ?_ ?_
 ·(refine E.iv 5 229 7 rfl (E.eW [0,1,5,6] ?_);simp only[go_sem])
  (refine E.bB [some 0,some 1] ?_;simp only[go_sem])
  exact E.ac ⟨az,[],k,rfl,rfl,by omega,by omega,by omega,by simp;omega,fun _=>rfl⟩
 ·rintro D r ⟨az,al,j,rfl,rfl,_,_,_,jK,pV⟩;simp only[go_sem,AC,C8]
  (refine E.ac ?_;simp only[go_sem])
  refine dj ?_ ?_<;>intro aw<;>simp only[bC] at aw<;>simp only[go_sem,AC,C8]
  ·(refine E.ac ?_;simp only[go_sem])
   have GH: ∀ a:Int,0≤a→a < 4→ ∃ I,([[F.str ⟨#[110,105,103,104,116]⟩],[.str ⟨#[108,97,116,101]⟩],[.str ⟨#[115,117,110,100,97,121]⟩],[.str ⟨#[104,111,108,105,100,97,121]⟩]]:List (List F)).getD a.toNat []= [.str I]∧rO I=true:=by
    intro a YR BT;rcases (show a=0∨a=1∨a=2∨a=3 by omega) with rfl|rfl|rfl|rfl
    ·exact⟨_,rfl,by decide⟩
    ·exact⟨_,rfl,by decide⟩
    ·exact⟨_,rfl,by decide⟩
    ·exact⟨_,rfl,by decide⟩
   have aFU: ∀ a:Int,0≤a→a < 4→ ∃ I,([[F.str ⟨#[]⟩],[.str ⟨#[97]⟩],[.str ⟨#[97]⟩],[.str ⟨#[98]⟩]]:List (List F)).getD a.toNat []= [.str I]∧(ez I ⟨#[]⟩||rO I)=true:=by
    intro a YR BT;rcases (show a=0∨a=1∨a=2∨a=3 by omega) with rfl|rfl|rfl|rfl
    ·exact⟨_,rfl,by rw[FI];rfl⟩
    ·exact⟨_,rfl,by rw[show rO ⟨#[97]⟩=true by decide];simp⟩
    ·exact⟨_,rfl,by rw[show rO ⟨#[97]⟩=true by decide];simp⟩
    ·exact⟨_,rfl,by rw[show rO ⟨#[98]⟩=true by decide];simp⟩
   (refine xW (hi l hl 4 (by omega)) ?_;rintro _ az _ _ ⟨cH,rfl,_,_⟩;simp only[go_sem])
   obtain⟨n,aH,aFV⟩:=GH cH (by omega) (by omega);refine⟨by omega,by omega,?_⟩
   first|rw[aH]|erw [aH]
   simp only[go_sem]
   (refine xW (hi l hl 4 (by omega)) ?_;rintro _ az _ _ ⟨ff,rfl,_,_⟩;simp only[go_sem])
   obtain⟨g,aiL,FG⟩:=aFU ff (by omega) (by omega);refine⟨by omega,by omega,?_⟩
   first|rw[aiL]|erw [aiL]
   simp only[go_sem]
   (refine xW (hi l hl 3 (by omega)) ?_;rintro _ az _ _ ⟨z,rfl,_,_⟩;simp only[go_sem])
   (refine G4 [1320,0,1080,360] (ys l hl _ (by simp) (by simp)) ?_;rintro _ az _ _ ⟨f,cg,rfl⟩;simp only[fR] at cg;simp only[go_sem])
   have hf:0≤f∧f < 1440:=by omega
   clear cg
   (refine G4 [360,1440,0,1380,1080] (ys l hl _ (by simp) (by simp)) ?_;rintro _ az _ _ ⟨t,cg,rfl⟩;simp only[fR] at cg;simp only[go_sem])
   have ht:0≤t∧t≤1440:=by omega
   clear cg
   (refine G4 [127,64,31,8,0] (ys l hl _ (by simp) (by simp)) ?_;rintro _ az _ _ ⟨w,cg,rfl⟩;simp only[fR] at cg;simp only[go_sem])
   have aP:0≤w∧w≤127:=by omega
   clear cg
   (refine xW (hi l hl 3 (by omega)) ?_;rintro _ az _ _ ⟨B,rfl,_,_⟩;simp only[go_sem])
   have aFW:qW (al++ [⟨n,g,z,f,t,w,B⟩])=qW al:=by
    have G: (0≤z∧z≤1000∧0≤f∧f < 1440∧0≤t∧t≤1440∧0≤w∧w≤127∧0≤B∧B≤2):=by omega
    have au:A6 ⟨n,g,z,f,t,w,B⟩=true:=by
     unfold A6 lW;simp only[aFV,FG,Bool.true_and];exact decide_eq_true G
    simp[qW,au]
   have nf:IntKind.i64.wrap (j-1)=j-1:=bl (by omega) (by omega);have cK:al.length < 3:=by omega
   (refine E.bB [some 0,some 1,some 7] ?_;simp only[go_sem])
   (refine E.ac ?_;simp only[go_sem])
   cases rL with
   |false=>
    simp only[go_sem,AC,C8]
    (refine E.ac ?_;simp only[go_sem])
    (refine E.ac ?_;simp only[go_sem])
    refine⟨by omega,?_⟩;rw[Ul]
    (refine E.ac ?_;simp only[go_sem])
    rw[nf]
    (refine E.bB [some 0,some 1] ?_;simp only[go_sem])
    refine E.ac ⟨⟨az,al++ [⟨n,g,z,f,t,w,B⟩],j-1,by simp,by simp,by omega,by omega,by omega,by simp;omega,fun _=>by rw[aFW];exact pV rfl⟩,?_⟩;simp only[go_sem];omega
   |true=>
    simp only[go_sem,AC,C8]
    (refine lN (hi l hl 12 (by omega)) ?_;rintro _ az _ _ ⟨q,rfl,_,_⟩;simp only[go_sem])
    (refine E.ac ?_;simp only[go_sem])
    by_cases aV:q=11
    ·have BL: (q==11)=true:=beq_iff_eq.2 aV;simp only[go_sem,BL,aV]
     (refine ja [1440,-1,5] (ys l hl _ (by simp) (by simp)) ?_;rintro _ az _ _ ⟨ig,cg,rfl⟩;simp only[fR] at cg;simp only[go_sem])
     clear cg
     (refine ja [128,127] (ys l hl _ (by simp) (by simp)) ?_;rintro _ az _ _ ⟨jH,cg,rfl⟩;simp only[fR] at cg;simp only[go_sem])
     clear cg
     (refine E.ac ?_;simp only[go_sem])
     refine⟨by omega,?_⟩;rw[Ul]
     (refine E.ac ?_;simp only[go_sem])
     rw[nf]
     (refine E.bB [some 0,some 1] ?_;simp only[go_sem])
     refine E.ac ⟨⟨az,al++ [⟨n,g,z,ig,t,jH,B⟩],j-1,by simp,by simp,by omega,by omega,by omega,by simp;omega,fun e=>by cases e⟩,?_⟩;simp only[go_sem];omega
    ·have BL: (q==11)=false:=beq_eq_false_iff_ne.2 aV;simp only[go_sem,BL,aV]
     (refine E.ac ?_;simp only[go_sem])
     refine⟨by omega,?_⟩;rw[Ul]
     (refine E.ac ?_;simp only[go_sem])
     rw[nf]
     (refine E.bB [some 0,some 1] ?_;simp only[go_sem])
     refine E.ac ⟨⟨az,al++ [⟨n,g,z,f,t,w,B⟩],j-1,by simp,by simp,by omega,by omega,by omega,by simp;omega,fun e=>by cases e⟩,?_⟩;simp only[go_sem];omega
  ·(refine E.ac ?_;simp only[go_sem])
   (refine E.ac ?_;simp only[go_sem])
   (refine E.bB [some 0,some 1] ?_;simp only[go_sem])
   exact E.ac ⟨az,al,rfl,rfl,by omega,by omega,by omega,pV⟩
open Go.RowKit (Below)
theorem aPK {m:Int}(h1:1≤m)(G:m≤12):hZ 2000 m=pq m:=by
 obtain rfl|rfl|rfl|rfl|rfl|rfl|rfl|rfl|rfl|rfl|rfl|rfl:m=1∨m=2∨m=3∨m=4∨m=5∨m=6∨m=7∨m=8∨m=9∨m=10∨m=11∨m=12:=by omega
 all_goals rfl
theorem aPL (h:cX):aO prog 272 [.agg (aJ.J h)] [] (fun v rs=>v= .bool (AW h)∧rs= []):=by
 obtain⟨k,m,B,ic,o,b⟩:=h;rw[T4]
 by_cases O:k=0∧1≤m∧m≤12∧1≤B
 ·obtain⟨rfl,h1,G,au⟩:=O;refine cu func272 aBD (by simp[afM,aIa]) ?_;have bF:=aPK h1 G;have hl:=aPJ 2000 m (by omega) h1 G;rw[bF] at hl;simp only[go_sem,afM,aIa,h1,G,au];refine gG hl rfl rfl ?_;simp only[go_sem]
  repeat' ((first|refine gv ?_ ?_|refine gw ?_ ?_|refine cf ?_ ?_|refine dj ?_ ?_)<;>intro aw<;>(have ak:=aw;try simp only[bC] at ak)<;>(first|omega| (simp only[go_sem,aw,afM,aIa];clear aw)))
  all_goals (refine E.bg rfl ⟨congrArg F.bool ?_,rfl⟩;rw[Bool.eq_iff_iff,aih];simp only[bC,Bool.false_eq_true,false_iff,true_iff,iff_true,iff_false,and_true,true_and] at *;omega)
 ·refine cu func272 aBD (by simp[afM,aIa]) ?_;simp only[go_sem,afM,aIa]
  repeat' ((first|refine gv ?_ ?_|refine gw ?_ ?_|refine cf ?_ ?_|refine dj ?_ ?_)<;>intro aw<;>(have ak:=aw;try simp only[bC] at ak)<;>(first|omega| (simp only[go_sem,aw,afM,aIa];clear aw)))
  all_goals first
   | (exfalso;simp only[bC] at *;omega)
   | (refine E.bg rfl ⟨congrArg F.bool ?_,rfl⟩;rw[Bool.eq_iff_iff,aih];simp only[bC,Bool.false_eq_true,false_iff,true_iff,iff_true,iff_false,and_true,true_and] at *;omega)
theorem aMo (l:List cX)(hl:l.length≤9223372036854775806):aO prog 213 [.pure 6 (ai l)] [] (fun v rs=>v= .int .i64 (ng l)∧rs= []):=by
 refine cu func213 aBg (by simp[aeZ,aI6]) ?_;simp only[go_sem,aeZ,aI6];refine cf ?_ ?_<;>intro dI<;>simp only[bC] at dI<;>simp only[go_sem,aeZ,aI6]
 ·exact E.bg rfl ⟨by rw[ng,if_pos (by omega)],rfl⟩
 have pM:ng l=if oD l=true then 0 else 1:=by rw[ng,if_neg (by omega)]
 refine dN (fun D r=> ∃ (c:Nat),c≤l.length∧oD l=oD (l.drop c)∧D= [(0,.pure 6 (ai l)),(3,.int .i64 c)]∧r= [])
  (fun D _=>match bs D 3 with| .int _ j=>(l.length-j).toNat|_=>0) ?_ ?_
 ·exact E.ac ⟨0,by omega,by simp,rfl,rfl⟩
 ·rintro D r ⟨c,av,af,rfl,rfl⟩;simp only[go_sem,aeZ,aI6];refine cf ?_ ?_<;>intro ct<;>simp only[bC] at ct<;>simp only[go_sem,aeZ,aI6]
  ·have aI:c < l.length:=by omega
   refine⟨by omega,by omega,?_⟩
   try simp only[Int.toNat_natCast]
   rw[cT aI];rw[List.drop_eq_getElem_cons aI,oD,oD,List.all_cons] at af;generalize l[c]=p at af ⊢;have aP:=dB (c:=c) (by omega);simp only[go_sem,aeZ,aI6,TQ,TR];refine bM (aPL p) rfl rfl ?_;simp only[go_sem];refine cf ?_ ?_<;>intro pd<;>simp only[bC] at pd<;>simp only[go_sem,aeZ,aI6,aP]
   ·exact E.bg rfl ⟨by rw[pM,if_neg (by rw[oD,af,pd];simp)],rfl⟩
   ·refine E.ac ⟨⟨c+1,by omega,?_,rfl,rfl⟩,?_⟩
    ·rw[oD,af,pd,Bool.true_and,oD]
    ·simp only[go_sem];omega
  ·have yF:c=l.length:=by omega
   rw[yF,List.drop_length] at af;exact E.bg rfl ⟨by rw[pM,af];rfl,rfl⟩
theorem aMJ (t:Int):aO prog 218 [.int .i64 t] [] (fun v rs=>v= .bool (decide (0≤t∧t≤120968639))∧rs= []):=by
 refine cu func218 aBl (by simp[a218,aI7]) ?_;simp only[go_sem,a218,aI7]
 repeat' ((first|refine gv ?_ ?_|refine gw ?_ ?_|refine cf ?_ ?_|refine dj ?_ ?_)<;>intro aw<;>(have ak:=aw;try simp only[bC] at ak)<;>(first|omega| (simp only[go_sem,aw,a218,aI7];clear aw)))
 all_goals (refine E.bg rfl ⟨congrArg F.bool ?_,rfl⟩;rw[Bool.eq_iff_iff];simp only[bC,Bool.false_eq_true,false_iff,true_iff,iff_true,iff_false,and_true,true_and] at *;omega)
theorem aNO (o:Int):aO prog 243 [.int .i64 o] [] (fun v rs=>v= .bool (decide (jQ o))∧rs= []):=by
 refine cu func243 aBr (by simp[aft,aH8]) ?_;simp only[go_sem,aft,aH8]
 repeat' ((first|refine gv ?_ ?_|refine gw ?_ ?_|refine cf ?_ ?_|refine dj ?_ ?_)<;>intro aw<;>(have ak:=aw;try simp only[bC] at ak)<;>(first|omega| (simp only[go_sem,aw,aft,aH8];clear aw)))
 all_goals ((refine E.bg rfl ⟨congrArg F.bool ?_,rfl⟩;rw[Bool.eq_iff_iff];simp only[bC,Bool.false_eq_true,false_iff,true_iff,iff_true,iff_false,and_true,true_and] at *;try simp only[jQ] at *;omega))
theorem aLl (M:cc):aO prog 160 [M.v] [] (fun v rs=>v= .int .i64 (fe M)∧rs= []):=by
 refine cu func160 aAO (by simp[aei,aHC]) ?_;unfold fe;simp only[go_sem,aei,aHC,cc.v]
 by_cases h1: (M.cS.length:Int)>64
 ·simp only[go_sem,h1];exact E.bg rfl ⟨by rw[if_pos (by omega)],rfl⟩
 simp only[go_sem,h1];rw[if_neg (by omega)];refine bM (aNO _) rfl rfl ?_
 by_cases G:jQ M.off
 rotate_left
 ·simp only[go_sem,G];exact E.bg rfl ⟨rfl,rfl⟩
 simp only[go_sem,G];refine dN (fun D r=> ∃ (c:Nat) (p:Int),c≤M.cS.length∧qA (-1) M.cS=qA p (M.cS.drop c)∧(c=0→p= -1)∧(∀ j (h:j < M.cS.length),c=j+1→p=M.cS[j].az)∧D= [(1,.bd 0 1 0 0),(3,.int .i64 c)]∧r= [.ag 32 2 [[.int .i64 M.off,.pure 2 (ai M.cS)]]])
  (fun D _=>match bs D 3 with| .int _ j=>(M.cS.length-j).toNat|_=>0) ?_ ?_
 ·exact E.ac ⟨0,-1,by omega,rfl,fun _=>rfl,fun j _ h=>by omega,rfl,rfl⟩
 ·rintro D r ⟨c,p,av,ay,Bx,iK,rfl,rfl⟩;have aP:=dB (c:=c) (by omega);simp only[go_sem,aei,aHC];refine cf ?_ ?_<;>intro ct<;>simp only[bC] at ct<;>simp only[go_sem,aei,aHC]
  ·have aI:c < M.cS.length:=by omega
   refine⟨by omega,by omega,?_⟩
   try simp only[Int.toNat_natCast]
   rw[atL aI] at ay;have dV: ∀ j (h:j < M.cS.length),c+1=j+1→M.cS[c].az=M.cS[j].az:=by intro j h hj;obtain rfl:c=j:=(by omega);rfl
   rw[cT aI];generalize M.cS[c]=J at ay dV ⊢;simp only[go_sem,Hj];refine bM (aMJ _) rfl rfl ?_
   by_cases au:0≤J.az∧J.az≤120968639
   rotate_left
   ·simp only[go_sem,au];exact E.bg rfl ⟨by rw[ay,if_pos (fun h=>au ⟨h.1,h.2.1⟩)],rfl⟩
   simp only[go_sem,au];refine bM (aNO _) rfl rfl ?_
   by_cases cx:jQ J.off
   rotate_left
   ·simp only[go_sem,cx];exact E.bg rfl ⟨by rw[ay,if_pos (fun h=>cx h.2.2)],rfl⟩
   simp only[go_sem,cx];rw[if_neg (by simp only[cx,and_true];omega)] at ay;cases c with
   |zero=>
    simp only[go_sem,Int.natCast_zero,Int.lt_irrefl,gt_iff_lt];obtain rfl:=Bx rfl;rw[if_neg (by omega)] at ay;simp only[go_sem,Int.natCast_zero] at aP
    (refine E.bB [some 0] ?_;simp only[go_sem])
    refine E.ac ⟨⟨1,J.az,by omega,ay,fun h=>by omega,fun j h hj=>dV j h hj,rfl,rfl⟩,?_⟩;simp only[go_sem];omega
   |succ k=>
    have O:k < M.cS.length:=by omega
    obtain rfl:=iK k O rfl;have iG: ((k+1:Nat):Int)>0:=by omega
    have nH:IntKind.i64.wrap (((k+1:Nat):Int)-1)=(k:Int):=by rw[bl (by omega) (by omega)];omega
    simp only[go_sem,iG,nH];refine⟨by omega,by omega,?_⟩
    try simp only[Int.toNat_natCast]
    rw[cT O];simp only[go_sem,Hj]
    by_cases dx:J.az≤M.cS[k].az
    ·rw[if_pos dx] at ay;simp only[go_sem,dx];exact E.bg rfl ⟨by rw[ay],rfl⟩
    ·rw[if_neg dx] at ay;simp only[go_sem,dx,aP]
     (refine E.bB [some 0] ?_;simp only[go_sem])
     refine E.ac ⟨⟨k+1+1,J.az,by omega,ay,fun h=>by omega,fun j h hj=>dV j h hj,rfl,rfl⟩,?_⟩;simp only[go_sem];omega
  ·obtain rfl:c=M.cS.length:=by omega
   refine E.bg rfl ⟨?_,rfl⟩;rw[ay,List.drop_length];rfl
theorem aOf (M:cc)(ba:fe M=0)(t:Int):aO prog 216 [M.v,.int .i64 t] [] (fun v rs=>v= .int .i64 (yf M t)∧rs= []):=by
 have O:=wv ba;have cK:=O.len;refine cu func216 aBj (by simp[afc,aH6]) ?_;simp only[go_sem,afc,aH6,cc.v];refine dN (fun D r=> ∃ (c:Nat),c≤M.cS.length∧yf M t=zQ t M.off (M.cS.take c)∧D= [(1,.int .i64 t),(2,.bd 0 1 0 0),(5,.int .i64 ((c:Int)-1))]∧r= [.ag 32 2 [[.int .i64 M.off,.pure 2 (ai M.cS)]]])
  (fun D _=>match bs D 5 with| .int _ j=>(j+1).toNat|_=>0) ?_ ?_
 ·have aP:IntKind.i64.wrap ((M.cS.length:Int)-1)=(M.cS.length:Int)-1:=bl (by omega) (by omega);simp only[go_sem,aP];exact E.ac ⟨M.cS.length,by omega,by rw[List.take_length];rfl,rfl,rfl⟩
 ·rintro D r ⟨c,av,ao,rfl,rfl⟩;simp only[go_sem,afc,aH6];refine cf ?_ ?_<;>intro ct<;>simp only[bC] at ct<;>simp only[go_sem,afc,aH6]
  ·obtain⟨k,rfl⟩: ∃ k,c=k+1:=⟨c-1,by omega⟩;have aI:k < M.cS.length:=by omega
   have ad: ((k+1:Nat):Int)-1=(k:Int):=by omega
   rw[ad];rw[atM aI] at ao;refine⟨by omega,by omega,?_⟩
   try simp only[Int.toNat_natCast]
   rw[cT aI];simp only[go_sem,Hj]
   by_cases au:M.cS[k].az≤t
   ·rw[if_pos au] at ao;simp only[go_sem,au];refine⟨by omega,by omega,?_⟩
    try simp only[Int.toNat_natCast]
    rw[cT aI];simp only[go_sem,Hj];exact E.bg rfl ⟨by rw[ao],rfl⟩
   ·rw[if_neg au] at ao;have aP:IntKind.i64.wrap ((k:Int)-1)=(k:Int)-1:=bl (by omega) (by omega);simp only[go_sem,au,aP];refine E.ac ⟨⟨k,by omega,ao,rfl,rfl⟩,?_⟩;simp only[go_sem];omega
  ·obtain rfl:c=0:=by omega
   refine E.bg rfl ⟨?_,rfl⟩;rw[ao];rfl
theorem aLa (I:ByteArray):aO prog 129 [.str I] [] (fun v rs=>v= .bool (rO I)∧rs= []):=by
 refine cu func129 aAz (by simp[adL,aHa]) ?_;have af: ((I.data.getD 0 0).toNat:Int)=(jV I 0:Int):=rfl;unfold rO;simp only[go_sem,adL,aHa]
 by_cases h1: (I.size:Int)=0
 ·have ii: ((I.size:Int)==0)=true:=beq_iff_eq.2 h1;simp only[go_sem,ii,h1];exact E.bg rfl ⟨by rw[show decide (1≤I.size)=false from decide_eq_false (by omega)];rfl,rfl⟩
 have aNP: ((I.size:Int)==0)=false:=beq_eq_false_iff_ne.2 h1;have ii: (0:Int) < I.size:=by omega
 by_cases G: (I.size:Int)>24
 ·simp only[go_sem,h1,aNP,G];exact E.bg rfl ⟨by rw[show decide (I.size≤24)=false by simp;omega];simp,rfl⟩
 simp only[go_sem,h1,aNP,G,ii,Int.toNat_zero,af]
 by_cases au: (jV I 0:Int) < 97
 ·simp only[go_sem,au,ii,Int.toNat_zero,af];exact E.bg rfl ⟨by rw[show decide (97≤jV I 0)=false by simp;omega];simp,rfl⟩
 simp only[go_sem,au,ii,Int.toNat_zero,af]
 by_cases bv: (jV I 0:Int)>122
 ·simp only[go_sem,bv];exact E.bg rfl ⟨by rw[show decide (jV I 0≤122)=false by simp;omega];simp,rfl⟩
 simp only[go_sem,bv];have aj: (decide (1≤I.size)&&decide (I.size≤24)&&decide (97≤jV I 0)&&decide (jV I 0≤122)&&xc I I.size)=xc I I.size:=by
  rw[show decide (1≤I.size)=true by simp;omega,show decide (I.size≤24)=true by simp;omega,show decide (97≤jV I 0)=true by simp;omega,show decide (jV I 0≤122)=true by simp;omega];simp
 rw[aj];refine dN (fun D r=> ∃ (c:Nat),c≤I.size∧xc I c=true∧D= [(0,.str I),(3,.int .i64 c)]∧r= [])
  (fun D _=>match bs D 3 with| .int _ j=>(I.size-j).toNat|_=>0) ?_ ?_
 ·exact E.ac ⟨0,by omega,rfl,rfl,rfl⟩
 ·rintro D r ⟨c,av,hall,rfl,rfl⟩;have aP:=dB (c:=c) (by omega);simp only[go_sem,adL,aHa];refine cf ?_ ?_<;>intro ct<;>simp only[bC] at ct<;>simp only[go_sem,adL,aHa]
  ·have aI:c < I.size:=by omega
   have N3: ((I.data.getD c 0).toNat:Int)=(jV I c:Int):=rfl;have OX: (0:Int)≤c:=by omega
   have gm: (c:Int) < I.size:=by omega
   have ao:=aFX I c;rw[hall,Bool.true_and] at ao;simp only[go_sem,OX,gm,Int.toNat_natCast,N3];have aFZ:C9 (jV I c)=false→xc I I.size=false:=aFY aI
   by_cases n1:C9 (jV I c)=true
   ·rw[n1] at ao;unfold C9 at n1;have eo: ¬(((jV I c:Int) < 97∨(jV I c:Int)>122)∧((jV I c:Int) < 48∨(jV I c:Int)>57)∧(jV I c:Int)≠95):=by
     simp only[Bool.or_eq_true,Bool.and_eq_true,decide_eq_true_eq] at n1;omega
    repeat' ((first|refine gv ?_ ?_|refine gw ?_ ?_|refine cf ?_ ?_|refine dj ?_ ?_)<;>intro aw<;>(have ak:=aw;try simp only[bC] at ak)<;>(first|omega| (simp only[go_sem,aw,adL,aHa,aP,OX,gm,Int.toNat_natCast,N3];clear aw)))
    all_goals (try simp only[bC] at *)
    all_goals first
     | (exfalso;omega)
     | (refine E.ac ⟨⟨c+1,by omega,ao,rfl,rfl⟩,?_⟩;simp only[go_sem];omega)
   ·have T3:=aFZ (by simpa using n1);rw[T3];unfold C9 at n1;have eo: ((jV I c:Int) < 97∨(jV I c:Int)>122)∧((jV I c:Int) < 48∨(jV I c:Int)>57)∧(jV I c:Int)≠95:=by
     simp only[Bool.or_eq_true,Bool.and_eq_true,decide_eq_true_eq] at n1;omega
    repeat' ((first|refine gv ?_ ?_|refine gw ?_ ?_|refine cf ?_ ?_|refine dj ?_ ?_)<;>intro aw<;>(have ak:=aw;try simp only[bC] at ak)<;>(first|omega| (simp only[go_sem,aw,adL,aHa,aP,OX,gm,Int.toNat_natCast,N3];clear aw)))
    all_goals (try simp only[bC] at *)
    all_goals first
     | (exfalso;omega)
     |exact E.bg rfl ⟨rfl,rfl⟩
  ·obtain rfl:c=I.size:=by omega
   exact E.bg rfl ⟨by rw[hall],rfl⟩
set_option maxHeartbeats 2000000 in
theorem aPM (w:dP):aO prog 214 [.agg (aJ.J w)] [] (fun v rs=>v= .bool (A6 w)∧rs= []):=by
 refine cu func214 aBh (by simp[afa,aHh]) ?_;unfold A6;simp only[go_sem,afa,aHh,A4];refine bM (aLa w.name) rfl rfl ?_
 by_cases h1:rO w.name=true
 rotate_left
 ·have ii:rO w.name=false:=by simpa using h1
  rw[ii];simp only[go_sem,afa,aHh];exact E.bg rfl ⟨by simp,rfl⟩
 rw[h1];simp only[go_sem,afa,aHh];have dp: (w.ir.toList==({data:= #[]}:ByteArray).toList)=lW w:=rfl;rw[dp]
 by_cases fS: (lW w||rO w.ir)=true
 rotate_left
 ·have G:lW w=false:=by
   cases h:lW w
   ·rfl
   ·rw[h] at fS;simp at fS
  have au:rO w.ir=false:=by
   cases h:rO w.ir
   ·rfl
   ·rw[h] at fS;simp at fS
  rw[G,au];simp only[go_sem,afa,aHh];refine bM (aLa w.ir) rfl rfl ?_;rw[au];simp only[go_sem,afa,aHh];exact E.bg rfl ⟨rfl,rfl⟩
 rw[fS,Bool.true_and]
 by_cases aA:0≤w.jU∧w.jU≤1000∧0≤w.R∧w.R < 1440∧0≤w.ab∧w.ab≤1440∧0≤w.ic∧w.ic≤127∧0≤w.eN∧w.eN≤2
 ·rw[decide_eq_true aA];obtain⟨bO,cd,fk,hB,jE,jF,Nk,IP,aF0,aiM⟩:=aA;have rh:w.jU≥0:=bO;have N5:w.R≥0:=fk;have N6:w.ab≥0:=jE;have aiN:w.ic≥0:=Nk;have aiO:w.eN≥0:=aF0;have aNQ:w.R≤1439:=by omega
  cases G:lW w
  ·rw[G,Bool.false_or] at fS;simp only[go_sem,afa,aHh];refine bM (aLa w.ir) rfl rfl ?_;rw[fS];simp only[go_sem,afa,aHh,rh,cd,N5,aNQ,N6,jF,aiN,IP,aiO,aiM];exact E.bg rfl ⟨rfl,rfl⟩
  ·simp only[go_sem,afa,aHh,rh,cd,N5,aNQ,N6,jF,aiN,IP,aiO,aiM];exact E.bg rfl ⟨rfl,rfl⟩
 ·rw[decide_eq_false aA];cases G:lW w
  ·rw[G,Bool.false_or] at fS;simp only[go_sem,afa,aHh];refine bM (aLa w.ir) rfl rfl ?_;rw[fS];simp only[go_sem,afa,aHh]
   repeat' ((first|refine gv ?_ ?_|refine gw ?_ ?_|refine cf ?_ ?_|refine dj ?_ ?_)<;>intro aw<;>(have ak:=aw;try simp only[bC] at ak)<;>(first|omega| (simp only[go_sem,aw,afa,aHh];clear aw)))
   all_goals (try simp only[bC] at *)
   all_goals first
    | (exfalso;omega)
    |exact E.bg rfl ⟨rfl,rfl⟩
    |exact E.bg rfl ⟨congrArg F.bool (decide_eq_false (by omega)),rfl⟩
  ·simp only[go_sem,afa,aHh]
   repeat' ((first|refine gv ?_ ?_|refine gw ?_ ?_|refine cf ?_ ?_|refine dj ?_ ?_)<;>intro aw<;>(have ak:=aw;try simp only[bC] at ak)<;>(first|omega| (simp only[go_sem,aw,afa,aHh];clear aw)))
   all_goals (try simp only[bC] at *)
   all_goals first
    | (exfalso;omega)
    |exact E.bg rfl ⟨rfl,rfl⟩
    |exact E.bg rfl ⟨congrArg F.bool (decide_eq_false (by omega)),rfl⟩
theorem aPp (M:cc)(h:List cX)(hl:h.length≤9223372036854775806)(al:List dP)(aP:al.length≤1000000):aO prog 135 [M.v,.pure 6 (ai h),.pure 7 (ai al)] [] (fun v rs=>v= .int .i64 (vm M h al)∧rs= []):=by
 refine cu func135 aAF (by simp[adQ,aHA]) ?_;unfold vm;simp only[go_sem,adQ,aHA,cc.v];refine bM (aLl M) rfl rfl ?_;simp only[go_sem]
 by_cases ba:fe M=0
 rotate_left
 ·have aFS: (fe M != 0)=true:=by simp[ba]
  simp only[go_sem,aFS];exact E.bg rfl ⟨by rw[if_neg ba],rfl⟩
 rw[ba,if_pos rfl];simp only[go_sem];refine bM (aMo h hl) rfl rfl ?_;simp only[go_sem]
 by_cases an:ng h=0
 rotate_left
 ·have df: (ng h != 0)=true:=by simp[an]
  simp only[go_sem,df];exact E.bg rfl ⟨by rw[if_neg an],rfl⟩
 rw[an,if_pos rfl];simp only[go_sem]
 by_cases h1: (al.length:Int)>16
 ·simp only[go_sem,h1];exact E.bg rfl ⟨by rw[if_pos (by omega)],rfl⟩
 simp only[go_sem,h1];rw[if_neg (by omega)];refine dN (fun D r=> ∃ (c:Nat),c≤al.length∧qW al=qW (al.drop c)∧D= [(2,.pure 7 (ai al)),(9,.int .i64 c)]∧r= [])
  (fun D _=>match bs D 9 with| .int _ j=>(al.length-j).toNat|_=>0) ?_ ?_
 ·(refine E.bB [] ?_;simp only[go_sem])
  exact E.ac ⟨0,by omega,by simp,rfl,rfl⟩
 ·rintro D r ⟨c,av,af,rfl,rfl⟩;simp only[go_sem,adQ,aHA];refine cf ?_ ?_<;>intro ct<;>simp only[bC] at ct<;>simp only[go_sem,adQ,aHA]
  ·have aI:c < al.length:=by omega
   refine⟨by omega,by omega,?_⟩
   try simp only[Int.toNat_natCast]
   rw[cT aI];rw[List.drop_eq_getElem_cons aI,qW,qW,List.all_cons] at af;generalize al[c]=p at af ⊢;have aP:=dB (c:=c) (by omega);simp only[go_sem,adQ,aHA,A4];refine bM (aPM p) rfl rfl ?_;simp only[go_sem];cases ak:A6 p
   ·simp only[go_sem];exact E.bg rfl ⟨by rw[if_neg (by rw[qW,af,ak];simp)],rfl⟩
   ·simp only[go_sem,aP];refine E.ac ⟨⟨c+1,by omega,?_,rfl,rfl⟩,?_⟩
    ·rw[qW,af,ak,Bool.true_and,qW]
    ·simp only[go_sem];omega
  ·have yF:c=al.length:=by omega
   rw[yF,List.drop_length] at af;exact E.bg rfl ⟨by rw[af];rfl,rfl⟩
end Go.Proofs.YtpincjkjoeopkaaGreatDoor.Pm
