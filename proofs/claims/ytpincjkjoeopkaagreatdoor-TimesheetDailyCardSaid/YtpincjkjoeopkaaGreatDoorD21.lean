/- Calendar and premiums. -/
import Derived.Test.YtpincjkjoeopkaaGreatDoorD20
import Derived.Test.YtpincjkjoeopkaaGreatDoorD19
import Derived.Test.YtpincjkjoeopkaaGreatDoorD15
import Derived.Test.YtpincjkjoeopkaaGreatDoorD5
set_option linter.all false
namespace Go.Proofs.YtpincjkjoeopkaaGreatDoor.Pm
open Go Go.Abs Go.Proofs.Tryz
open Go.RowKit (Below)
theorem ahQ (l:List cX)(hl:l.length≤9223372036854775806):aO prog 198 [.pure 6 (ai l)] [] (fun v rs=>v= .int .i64 (ng l)∧rs= []):=by
 refine cu func198 aeQ (by simp[yD,A0]) ?_;simp only[go_sem,yD,A0];refine cf ?_ ?_<;>intro dI<;>simp only[bC] at dI<;>simp only[go_sem,yD,A0]
 ·exact E.bg rfl ⟨by rw[ng,if_pos (by omega)],rfl⟩
 have pM:ng l=if oD l=true then 0 else 1:=by rw[ng,if_neg (by omega)]
 refine dN (fun D r=> ∃ (c:Nat),c≤l.length∧oD l=oD (l.drop c)∧D= [(8,.pure 6 (ai l)),(9,.int .i64 l.length),(10,.int .i64 c)]∧r= [])
  (fun D _=>match bs D 10 with| .int _ j=>(l.length-j).toNat|_=>0) ?_ ?_
 ·exact E.ac ⟨0,by omega,by simp,rfl,rfl⟩
 ·rintro D r ⟨c,av,hb,rfl,rfl⟩;simp only[go_sem,yD,A0];refine cf ?_ ?_<;>intro ct<;>simp only[bC] at ct<;>simp only[go_sem,yD,A0]
  ·have aI:c < l.length:=by omega
   refine⟨by omega,by omega,?_⟩
   try simp only[Int.toNat_natCast]
   rw[cT aI];rw[List.drop_eq_getElem_cons aI,oD,oD,List.all_cons] at hb;generalize l[c]=p at hb ⊢;have aP:=dB (c:=c) (by omega);simp only[go_sem,yD,A0,T4];refine bM (aET p) rfl rfl ?_;simp only[go_sem];refine cf ?_ ?_<;>intro pd<;>simp only[bC] at pd<;>simp only[go_sem,yD,A0,aP]
   ·exact E.bg rfl ⟨by rw[pM,if_neg (by rw[oD,hb,pd];simp)],rfl⟩
   ·(refine E.bB [] ?_;simp only[go_sem])
    refine E.ac ⟨⟨c+1,by omega,?_,rfl,rfl⟩,?_⟩
    ·rw[oD,hb,pd,Bool.true_and,oD]
    ·simp only[go_sem];omega
  ·have yF:c=l.length:=by omega
   rw[yF,List.drop_length] at hb;exact E.bg rfl ⟨by rw[pM,hb];rfl,rfl⟩
theorem Je {y m B:Int}(bt:qd y)(h1:1≤m)(G:m≤12)(au:0≤B)(bv:B≤100): -2000≤mF y m B∧mF y m B≤201000:=by
 have a:=TZ (y:=y) (by have:=bt.1;omega) (by have:=bt.2;omega);have b:=NH y (m-1).toNat (by omega);unfold mF;omega
theorem NM (B:Int):0≤mG B∧mG B≤6:=by unfold mG;omega
def C4 (y m w:Int):Int:=(w-mG (mF y m 1)+7)%7
def wX (y m w n:Int):Int:=if n= -1 then C4 y m w+(hZ y m-1-C4 y m w) / 7*7 else C4 y m w+7*(n-1)
theorem aEU (y m w n:Int)(bt:qd y)(h1:1≤m)(G:m≤12)(au:0≤w)(bv:w≤6)(cx:n= -1∨1≤n∧n≤5):aO prog 371 [.int .i64 y,.int .i64 m,.int .i64 w,.int .i64 n] []
 (fun v rs=>v=(if wX y m w n < hZ y m then .bo [.int .i64 (mF y m 1+wX y m w n),.bool true] else .bo [.int .i64 0,.bool false])∧rs= []):=by
 refine cu func371 agt (by simp[CS,FQ]) ?_;obtain⟨lu,tU⟩:=bt;have hF:=Je (y:=y) ⟨lu,tU⟩ h1 G (B:=1) (by omega) (by omega);have hL:=yJ (y:=y) h1 G;have hW:=NM (mF y m 1);simp only[go_sem,CS,FQ];refine bM (ahT y m 1 (by omega) (by omega) (by omega) (by omega) (by omega) (by omega)) rfl rfl ?_;simp only[go_sem];refine bM (ES y m (by omega) (by omega) (by omega)) rfl rfl ?_;simp only[go_sem];refine bM (NG (mF y m 1) (by omega) (by omega)) rfl rfl ?_;unfold wX C4;generalize mG (mF y m 1)=W at hW ⊢;generalize mF y m 1=bm at hF ⊢;generalize hZ y m=aY at hL ⊢;simp only[go_sem];rw[bl (x:=w-W) (by omega) (by omega),bl (x:=w-W+7) (by omega) (by omega),Int.tmod_eq_emod_of_nonneg (a:=w-W+7) (by omega)];have av:0≤(w-W+7)%7∧(w-W+7)%7≤6:=by omega
 generalize (w-W+7)%7=hI at av ⊢;refine⟨by decide,?_⟩;refine cf ?_ ?_<;>intro dI<;>simp only[bC] at dI<;>simp only[go_sem,CS,FQ]
 ·rw[if_pos dI];rw[bl (x:=aY-1) (by omega) (by omega),bl (x:=aY-1-hI) (by omega) (by omega),Int.tdiv_eq_ediv_of_nonneg (by omega),bl (x:=(aY-1-hI) / 7) (by omega) (by omega),bl (x:=(aY-1-hI) / 7*7) (by omega) (by omega),bl (x:=hI+(aY-1-hI) / 7*7) (by omega) (by omega)];refine⟨by decide,?_⟩;refine cf ?_ ?_<;>intro ct<;>simp only[bC] at ct<;>simp only[go_sem,CS,FQ]
  ·exact E.bg rfl ⟨by rw[if_neg (by omega)],rfl⟩
  ·exact E.bg rfl ⟨by rw[if_pos (by omega),bl (by omega) (by omega)],rfl⟩
 ·rw[if_neg dI];rw[bl (x:=n-1) (by omega) (by omega),bl (x:=7*(n-1)) (by omega) (by omega),bl (x:=hI+7*(n-1)) (by omega) (by omega)];refine cf ?_ ?_<;>intro ct<;>simp only[bC] at ct<;>simp only[go_sem,CS,FQ]
  ·exact E.bg rfl ⟨by rw[if_neg (by omega)],rfl⟩
  ·exact E.bg rfl ⟨by rw[if_pos (by omega),bl (by omega) (by omega)],rfl⟩
def yL (y:Int):Int:=mF y (uj y / 31) (uj y%31+1)
theorem aif {y:Int}(bt:qd y):nU y (uj y / 31) (uj y%31+1)=(yL y,true):=by
 have h:=(aie (y:=y) bt.1 bt.2).1;unfold wW nU at h;unfold nU yL;split
 ·rfl
 ·rename_i aH;rw[if_neg aH] at h;cases h
def uk (h:cX)(y:Int):Option Int:=
 if h.cB=0 then (if h.ah≤hZ y h.rK then some (mF y h.rK h.ah) else none)
 else if h.cB=1 then some (yL y+h.offset)
 else if wX y h.rK h.A1 h.ah < hZ y h.rK then some (mF y h.rK 1+wX y h.rK h.A1 h.ah+h.offset) else none
def yM (b:Bool)(B:Int):Int:=if b=true∧5≤mG B then B+(7-mG B) else B
def NN (h:cX)(y:Int):Option Int:=(uk h y).map (yM h.Jf)
def vu (h:cX)(y:Int):Option Int:=(NN h y).filter fun B=>decide (ui B)
def yK:Option Int→F
 |some B=> .bo [.int .i64 B,.bool true]
 |none=> .bo [.int .i64 0,.bool false]
theorem FR (B:Int):yM false B=B:=by simp[yM]
theorem FT {B:Int}(h:5≤mG B):yM true B=B+(7-mG B):=by simp[yM,h]
theorem FU {B:Int}(h:mG B < 5):yM true B=B:=by rw[yM,if_neg (by omega)]
theorem yN {h:cX}{y aD X:Int}(cU:uk h y=some aD)(eZ:yM h.Jf aD=X)(bp:ui X):yK (vu h y)= .bo [.int .i64 X,.bool true]:=by
 rw[vu,NN,cU,Option.map_some,eZ,Option.filter_some,if_pos (by simpa using bp),yK]
theorem yO {h:cX}{y aD X:Int}(cU:uk h y=some aD)(eZ:yM h.Jf aD=X)(bp: ¬ui X):yK (vu h y)= .bo [.int .i64 0,.bool false]:=by
 rw[vu,NN,cU,Option.map_some,eZ,Option.filter_some,if_neg (by simpa using bp),yK]
theorem aig {h:cX}{y:Int}(cU:uk h y=none):yK (vu h y)= .bo [.int .i64 0,.bool false]:=by
 rw[vu,NN,cU,Option.map_none,Option.filter_none,yK]
theorem aEV {y:Int}(bt:qd y):mF y 3 22≤yL y∧yL y≤mF y 4 25:=by
 have h:=aie (y:=y) bt.1 bt.2;rw[wW,aif bt] at h;obtain⟨_,_,a,b⟩:=h;have sm:=yJ (y:=y) (m:=3) (by omega) (by omega);have ZF:=yJ (y:=y) (m:=4) (by omega) (by omega);rw[nU,if_pos ⟨bt.1,bt.2,by omega,by omega,by omega,by omega⟩] at a;rw[nU,if_pos ⟨bt.1,bt.2,by omega,by omega,by omega,by omega⟩] at b;exact⟨a,b⟩
theorem aDX (h:cX)(y:Int)(N:AW h=true)(bt:qd y):aO prog 368 [.agg (aJ.J h),.int .i64 y] [] (fun v rs=>v=yK (vu h y)∧rs= []):=by
 obtain⟨k,m,B,ic,V,b⟩:=h;rw[aih] at N;rw[T4];refine cu func368 agq (by simp[lD,lV]) ?_;obtain⟨lu,tU⟩:=bt;rcases N with ⟨rfl,h1,G,rfl,rfl,au,bv⟩|⟨rfl,h1,G,rfl,rfl,rfl⟩|⟨rfl,h1,G,au,bv,cx,dx,oN⟩
 ·simp only[go_sem,lD,lV];have hl:=yJ (y:=y) h1 G;have fC:=ahU y m B
  by_cases ay:B≤hZ y m
  ·rw[nU,if_pos ⟨lu,tU,h1,G,au,ay⟩] at fC;refine bM fC rfl rfl ?_;have cU:uk ⟨0,m,B,0,0,b⟩ y=some (mF y m B+0):=by rw[uk,if_pos rfl,if_pos ay,Int.add_zero]
   have hF:=Je (y:=y) ⟨lu,tU⟩ h1 G (B:=B) (by omega) (by omega);generalize mF y m B=aD at cU hF ⊢;simp only[go_sem,lD,lV];rw[bl (x:=aD+0) (by omega) (by omega)];refine bM (NG (aD+0) (by omega) (by omega)) rfl rfl ?_;have wx:=NM (aD+0);cases b
   ·simp only[go_sem];refine bM (lQ (aD+0)) rfl rfl ?_;simp only[go_sem];refine cf ?_ ?_<;>intro aw<;>simp only[bC] at aw<;>simp only[go_sem,lD,lV]
    ·exact E.bg rfl ⟨(yO cU (FR _) aw).symm,rfl⟩
    ·exact E.bg rfl ⟨(yN cU (FR _) aw).symm,rfl⟩
   ·simp only[go_sem];refine cf ?_ ?_<;>intro nW<;>simp only[bC] at nW<;>simp only[go_sem,lD,lV]
    ·rw[bl (x:=7-mG (aD+0)) (by omega) (by omega),bl (x:=aD+0+(7-mG (aD+0))) (by omega) (by omega)];refine bM (lQ (aD+0+(7-mG (aD+0)))) rfl rfl ?_;simp only[go_sem];refine cf ?_ ?_<;>intro aw<;>simp only[bC] at aw<;>simp only[go_sem,lD,lV]
     ·exact E.bg rfl ⟨(yO cU (FT nW) aw).symm,rfl⟩
     ·exact E.bg rfl ⟨(yN cU (FT nW) aw).symm,rfl⟩
    ·refine bM (lQ (aD+0)) rfl rfl ?_;simp only[go_sem];refine cf ?_ ?_<;>intro aw<;>simp only[bC] at aw<;>simp only[go_sem,lD,lV]
     ·exact E.bg rfl ⟨(yO cU (FU nW) aw).symm,rfl⟩
     ·exact E.bg rfl ⟨(yN cU (FU nW) aw).symm,rfl⟩
  ·rw[nU,if_neg (fun h=>ay h.2.2.2.2.2)] at fC;refine bM fC rfl rfl ?_;simp only[go_sem,lD,lV];exact E.bg rfl ⟨(aig (by rw[uk,if_pos rfl,if_neg ay])).symm,rfl⟩
 ·simp only[go_sem,lD,lV];have dp:=aEh y ⟨lu,tU⟩;rw[aif ⟨lu,tU⟩] at dp;refine bM dp rfl rfl ?_;have cU:uk ⟨1,0,0,0,V,b⟩ y=some (yL y+V):=by rw[uk,if_neg (by simp),if_pos rfl]
  have hF: -2000≤yL y∧yL y≤201000:=by
   have a:=aEV (y:=y) ⟨lu,tU⟩;have b:=Je (y:=y) (m:=3) (B:=22) ⟨lu,tU⟩ (by omega) (by omega) (by omega) (by omega);have J:=Je (y:=y) (m:=4) (B:=25) ⟨lu,tU⟩ (by omega) (by omega) (by omega) (by omega);omega
  generalize yL y=aD at cU hF ⊢;simp only[go_sem,lD,lV];rw[bl (x:=aD+V) (by omega) (by omega)];refine bM (NG (aD+V) (by omega) (by omega)) rfl rfl ?_;have wx:=NM (aD+V);cases b
  ·simp only[go_sem];refine bM (lQ (aD+V)) rfl rfl ?_;simp only[go_sem];refine cf ?_ ?_<;>intro aw<;>simp only[bC] at aw<;>simp only[go_sem,lD,lV]
   ·exact E.bg rfl ⟨(yO cU (FR _) aw).symm,rfl⟩
   ·exact E.bg rfl ⟨(yN cU (FR _) aw).symm,rfl⟩
  ·simp only[go_sem];refine cf ?_ ?_<;>intro nW<;>simp only[bC] at nW<;>simp only[go_sem,lD,lV]
   ·rw[bl (x:=7-mG (aD+V)) (by omega) (by omega),bl (x:=aD+V+(7-mG (aD+V))) (by omega) (by omega)];refine bM (lQ (aD+V+(7-mG (aD+V)))) rfl rfl ?_;simp only[go_sem];refine cf ?_ ?_<;>intro aw<;>simp only[bC] at aw<;>simp only[go_sem,lD,lV]
    ·exact E.bg rfl ⟨(yO cU (FT nW) aw).symm,rfl⟩
    ·exact E.bg rfl ⟨(yN cU (FT nW) aw).symm,rfl⟩
   ·refine bM (lQ (aD+V)) rfl rfl ?_;simp only[go_sem];refine cf ?_ ?_<;>intro aw<;>simp only[bC] at aw<;>simp only[go_sem,lD,lV]
    ·exact E.bg rfl ⟨(yO cU (FU nW) aw).symm,rfl⟩
    ·exact E.bg rfl ⟨(yN cU (FU nW) aw).symm,rfl⟩
 ·simp only[go_sem,lD,lV];have fS:=aEU y m ic B ⟨lu,tU⟩ h1 G bv cx au;have hl:=yJ (y:=y) h1 G
  by_cases ay:wX y m ic B < hZ y m
  ·rw[if_pos ay] at fS;refine bM fS rfl rfl ?_;have cU:uk ⟨2,m,B,ic,V,b⟩ y=some (mF y m 1+wX y m ic B+V):=by rw[uk,if_neg (by simp),if_neg (by simp),if_pos ay]
   have hF:=Je (y:=y) ⟨lu,tU⟩ h1 G (B:=1) (by omega) (by omega);have eZ:0≤wX y m ic B:=by
    have:0≤C4 y m ic∧C4 y m ic≤6:=by unfold C4;omega
    unfold wX;split<;>omega
   obtain⟨aD,fC⟩: ∃ aD,aD=mF y m 1+wX y m ic B:=⟨_,rfl⟩;rw[←fC] at cU ⊢
   replace hF: -2000≤aD∧aD≤201031:=by omega
   clear fC;simp only[go_sem,lD,lV];rw[bl (x:=aD+V) (by omega) (by omega)];refine bM (NG (aD+V) (by omega) (by omega)) rfl rfl ?_;have wx:=NM (aD+V);cases b
   ·simp only[go_sem];refine bM (lQ (aD+V)) rfl rfl ?_;simp only[go_sem];refine cf ?_ ?_<;>intro aw<;>simp only[bC] at aw<;>simp only[go_sem,lD,lV]
    ·exact E.bg rfl ⟨(yO cU (FR _) aw).symm,rfl⟩
    ·exact E.bg rfl ⟨(yN cU (FR _) aw).symm,rfl⟩
   ·simp only[go_sem];refine cf ?_ ?_<;>intro nW<;>simp only[bC] at nW<;>simp only[go_sem,lD,lV]
    ·rw[bl (x:=7-mG (aD+V)) (by omega) (by omega),bl (x:=aD+V+(7-mG (aD+V))) (by omega) (by omega)];refine bM (lQ (aD+V+(7-mG (aD+V)))) rfl rfl ?_;simp only[go_sem];refine cf ?_ ?_<;>intro aw<;>simp only[bC] at aw<;>simp only[go_sem,lD,lV]
     ·exact E.bg rfl ⟨(yO cU (FT nW) aw).symm,rfl⟩
     ·exact E.bg rfl ⟨(yN cU (FT nW) aw).symm,rfl⟩
    ·refine bM (lQ (aD+V)) rfl rfl ?_;simp only[go_sem];refine cf ?_ ?_<;>intro aw<;>simp only[bC] at aw<;>simp only[go_sem,lD,lV]
     ·exact E.bg rfl ⟨(yO cU (FU nW) aw).symm,rfl⟩
     ·exact E.bg rfl ⟨(yN cU (FU nW) aw).symm,rfl⟩
  ·rw[if_neg ay] at fS;refine bM fS rfl rfl ?_;simp only[go_sem,lD,lV];exact E.bg rfl ⟨(aig (by rw[uk,if_neg (by simp),if_neg (by simp),if_neg ay])).symm,rfl⟩
theorem aER (ce:List Int)(x:Int):x∈fq ce↔x∈ce:=by unfold fq;exact List.mem_mergeSort
def TT (ce:List Int):List Int:=Lib.compact (fq ce)
def uh (l:List cX)(y:Int):List Int:=l.filterMap fun h=>vu h y
def lU (l:List cX)(a:Int)(n:Nat):List Int:=(List.range n).flatMap fun (c:Nat)=>uh l (a+(c:Int))
theorem ahP (l:List cX)(a:Int)(n:Nat):lU l a (n+1)=lU l a n++uh l (a+n):=by
 unfold lU;rw[List.range_succ,List.flatMap_append];simp
theorem ahO (l:List cX)(y:Int): (uh l y).length≤l.length:=List.length_filterMap_le _ _
theorem TS (l:List cX)(a:Int): ∀ n,(lU l a n).length≤n*l.length
 |0=>by simp[lU]
 |n+1=>by
  rw[ahP,List.length_append,Nat.add_mul,Nat.one_mul];have:=TS l a n;have:=ahO l (a+n);omega
def AX (l:List cX)(a b:Int):List Int:=TT (lU l a (b+1-a).toNat)
theorem aDV {l:List cX}{y:Int}{c:Nat}(h:c < l.length):uh (l.take (c+1)) y=uh (l.take c) y++(vu l[c] y).toList:=by
 unfold uh;rw[List.take_add_one,List.filterMap_append,List.getElem?_eq_getElem h];congr 1
theorem ahM {l:List cX}(h:oD l=true){c:Nat}(av:c < l.length):AW l[c]=true:=List.all_eq_true.1 h _ (List.getElem_mem av)
theorem TQ (h:cX):List.take 6 (aJ.J h)=aJ.J h:=rfl
theorem TR (h:cX): (aJ.J h).length=6:=rfl
theorem ahN (h:cX): (aJ.J h).all Abs.cV=true:=rfl
theorem aDW (l:List cX)(a b:Int)(hl:l.length≤1024)(an:oD l=true)(aC:1970≤a)(hb:b≤2199):aO prog 366 [.pure 6 (ai l),.int .i64 a,.int .i64 b] [] (fun v rs=>v= .pure 1 (cJ .i64 (AX l a b))∧rs= []):=by
 refine hJ func366 agp (by simp[AJ,C3]) ?_;simp only[go_sem,AJ,C3]
 repeat (refine E.ac ?_;simp only[go_sem])
 refine hv (fun D r=> ∃ n:Nat,(a+n≤b+1∨n=0)∧n≤230∧D= [(0,.pure 6 (ai l)),(2,.int .i64 b),(7,.own 0 (lU l a n).length 0 (lU l a n).length),(8,.int .i64 (a+n))]∧r= [.ag 3 1 (cJ .i64 (lU l a n))])
  (fun D _=>match bs D 8 with| .int _ j=>(2300-j).toNat|_=>0) ?_ ?_
 ·(refine E.iv 7 3 1 rfl (E.eW [0,2,7,8] ?_);simp only[go_sem])
  exact E.ac ⟨0,.inr rfl,by omega,by simp[lU],rfl⟩
 ·rintro D r ⟨n,aH,Ay,rfl,rfl⟩;have cK:=TS l a n;have ahD: (lU l a n).length≤235520:=by
   have:n*l.length≤230*1024:=Nat.mul_le_mul Ay hl;omega
  simp only[go_sem,AJ,C3]
  repeat (refine E.ac ?_;simp only[go_sem])
  refine dj ?_ ?_<;>intro dI<;>simp only[bC] at dI<;>simp only[go_sem,AJ,C3]
  ·repeat (refine E.ac ?_;simp only[go_sem])
   have aKk:n < 230:=by omega
   refine hv (fun D r=> ∃ c:Nat,c≤l.length∧D= [(0,.pure 6 (ai l)),(2,.int .i64 b),(7,.own 0 (lU l a n++uh (l.take c) (a+n)).length 0 (lU l a n++uh (l.take c) (a+n)).length),(8,.int .i64 (a+n)),(19,.pure 6 (ai l)),(20,.int .i64 l.length),(21,.int .i64 c)]∧r= [.ag 3 1 (cJ .i64 (lU l a n++uh (l.take c) (a+n)))])
    (fun D _=>match bs D 21 with| .int _ j=>(l.length-j).toNat|_=>0) ?_ ?_
   ·exact E.ac ⟨0,by omega,by simp[uh],by simp[uh]⟩
   ·rintro D r ⟨c,av,rfl,rfl⟩;have Qz: (lU l a n++uh (l.take c) (a+n)).length≤236544:=by
     have:=ahO (l.take c) (a+n);rw[List.length_take] at this;rw[List.length_append];omega
    simp only[go_sem,AJ,C3]
    repeat (refine E.ac ?_;simp only[go_sem])
    refine dj ?_ ?_<;>intro ct<;>simp only[bC] at ct<;>simp only[go_sem,AJ,C3]
    ·have aI:c < l.length:=by omega
     repeat (refine E.ac ?_;simp only[go_sem])
     have N:=ahM an aI;have vv:=aDV (y:=a+n) aI;have aP:=dB (c:=c) (by omega);simp only[cT aI];generalize l[c]=hh at N vv ⊢;refine⟨by omega,by omega,by rw[TR];decide,rfl,rfl,?_⟩;simp only[go_sem,TQ];refine E.ac ?_;simp only[go_sem,TQ,TR,ahN];refine bM (aDX hh (a+n) N ⟨by omega,by omega⟩) rfl (by cases vu hh (a+n)<;>rfl) ?_;rcases kx:vu hh (a+n) with _|B
     ·rw[yK];rw[kx] at vv;simp only[go_sem]
      (refine E.bB [some 0] ?_;simp only[go_sem])
      repeat (refine E.ac ?_;simp only[go_sem])
      rw[Option.toList_none,List.append_nil] at vv;exact⟨⟨c+1,by omega,by rw[vv,aP],by rw[vv]⟩,by rw[aP];omega⟩
     ·rw[yK];rw[kx,Option.toList_some] at vv;simp only[go_sem]
      (refine E.bB [some 0] ?_;simp only[go_sem])
      (refine E.ac ?_;simp only[go_sem])
      (refine E.ac ?_;simp only[go_sem])
      refine⟨by omega,?_⟩
      (refine E.bB [some 0] ?_;simp only[go_sem])
      repeat (refine E.ac ?_;simp only[go_sem])
      refine⟨⟨c+1,by omega,?_,?_⟩,by rw[aP];omega⟩
      ·rw[vv,aP];simp[Nat.add_assoc]
      ·rw[vv,←List.append_assoc];try rfl
    ·have kv:c=l.length:=by omega
     subst kv;rw[List.take_length,←ahP] at *
     repeat (refine E.ac ?_;simp only[go_sem])
     have aP:IntKind.i64.wrap (a+(n:Int)+1)=a+((n+1:Nat):Int):=by rw[bl (by omega) (by omega)];omega
     exact⟨⟨n+1,.inl (by omega),by omega,by rw[aP],rfl⟩,by rw[aP];omega⟩
  ·repeat (refine E.ac ?_;simp only[go_sem])
   have G1:n=(b+1-a).toNat:=by omega
   have aDY:AX l a b=Lib.compact (fq (lU l a n)):=by rw[AX,TT,G1]
   rw[aDY];have fF:=zY (lU l a n);have rW:=auK (lU l a n) (by omega);have vk:=auL (fq (lU l a n)) (by omega);have gN:=QT (fq (lU l a n));rw[fF] at vk gN;generalize lU l a n=ce at *;generalize fq ce=ys at *;generalize Lib.compact ys=aq at *
   (refine fy [0] (rW) ?_;rintro _ _ ⟨rfl,rfl⟩;simp only[go_sem])
   repeat (refine E.ac ?_;simp only[go_sem])
   (refine fy [0] (vk) ?_;rintro _ _ ⟨rfl,rfl⟩;simp only[go_sem])
   have lp:ce.length=(cJ .i64 (aq++List.replicate (ce.length-aq.length) 0)).length:=by rw[mV,List.length_append,List.length_replicate];omega
   have pV: ((cJ .i64 (aq++List.replicate (ce.length-aq.length) 0)).drop 0).take aq.length=cJ .i64 aq:=by rw[List.drop_zero,WF,List.take_left]
   have yy:dY (cJ .i64 (aq++List.replicate (ce.length-aq.length) 0))=true:=DZ;generalize cJ .i64 (aq++List.replicate (ce.length-aq.length) 0)=al at *;refine E.jN [] [0] rfl rfl (by simp only[go_sem]<;>rfl) ?_;have nL:bW [.ag 3 1 al] [] [0] (.own 0 ce.length 0 aq.length)= .pure 1 (cJ .i64 aq):=by
    rw[arS (by rfl) (by rfl) (by rfl) lp (by omega) yy,pV]
   simp only[List.map_cons,List.map_nil,nL]
   (refine E.ac ?_;simp only[go_sem])
   exact E.ac ⟨rfl,rfl⟩
def I9 (l:List cX)(y:Int):F:=
 if ng l=0 then (if qd y then .bo [.pure 1 (cJ .i64 (AX l y y)),.int .i64 0] else .bo [.bH,.int .i64 2]) else .bo [.bH,.int .i64 (ng l)]
theorem TU {l:List cX}(h:ng l=0):l.length≤1024∧oD l=true:=by
 unfold ng at h;split at h
 ·omega
 ·split at h
  ·exact⟨by omega,by assumption⟩
  ·omega
theorem aDZ (l:List cX)(hl:l.length≤9223372036854775806)(y:Int):aO prog 353 [.pure 6 (ai l),.int .i64 y] [] (fun v rs=>v=I9 l y∧rs= []):=by
 refine cu func353 agk (by simp[IN,NE]) ?_;simp only[go_sem,IN,NE];refine bM (ahQ l hl) rfl rfl ?_;simp only[go_sem];refine cf ?_ ?_<;>intro an<;>simp only[bC] at an<;>simp only[go_sem,IN,NE]
 ·exact E.bg rfl ⟨by rw[I9,if_neg an],rfl⟩
 rw[I9,if_pos an];obtain⟨lp,xx⟩:=TU an
 repeat' ((first|refine gv ?_ ?_|refine gw ?_ ?_|refine cf ?_ ?_|refine dj ?_ ?_)<;>intro aw<;>(have ak:=aw;try simp only[bC] at ak)<;>(first|omega| (simp only[go_sem,aw,];clear aw)))
 ·exact E.bg rfl ⟨by rw[if_neg (by unfold qd;omega)],rfl⟩
 ·exact E.bg rfl ⟨by rw[if_neg (by unfold qd;omega)],rfl⟩
 ·refine bM (aDW l y y lp xx (by omega) (by omega)) rfl rfl ?_;simp only[go_sem];exact E.bg rfl ⟨by rw[if_pos ⟨by omega,by omega⟩],rfl⟩
theorem aFb (l:List cX)(a b:Int)(hl:l.length≤1024)(aC:1970≤a)(hb:b≤2199): (AX l a b).length≤235520:=by
 unfold AX TT;have h1:=QT (fq (lU l a (b+1-a).toNat));rw[zY] at h1;have G:=TS l a (b+1-a).toNat;have au: (b+1-a).toNat*l.length≤230*1024:=Nat.mul_le_mul (by omega) hl;omega
def de (f:Int→F)(Y:List Int):List (F×F):=Y.map fun k=>(.int .i64 k,f k)
def ek (k:Int)(Y:List Int):List Int:=if k∈Y then Y else Y++ [k]
theorem Jg {f:Int→F}(hf: ∀ k,bJ (f k)=true): ∀ (l:List Int),kh (de f l)=true
 | []=>_root_.id rfl
 |k::l=>by
  have:=Jg hf l;simp only[kh,de,List.map_map,Bool.and_eq_true] at this ⊢;simp only[List.map_cons,bU,Function.comp_apply,bJ,hf,Bool.true_and];exact this
theorem EW {f:Int→F}{k:Int}: ∀ {l:List Int},dm (.int .i64 k) (de f l)=if k∈l then some (f k) else none
 | []=>by simp[de,dm]
 |p::l=>by
  have ih:=EW (f:=f) (k:=k) (l:=l);unfold de at *;rw[List.map_cons,dm];have:fB (.int .i64 k) (.int .i64 p)=(k==p):=by simp[fB,cp,ed]
  simp only[this]
  by_cases O:k=p
  ·subst O;simp
  ·simp only[beq_iff_eq,O,if_false,ih,List.mem_cons,false_or]
theorem NO {f:Int→F}{k:Int}: ∀ {l:List Int},dy (.int .i64 k) (f k) (de f l)=de f (ek k l)
 | []=>by simp[de,dy,ek]
 |p::l=>by
  have ih:=NO (f:=f) (k:=k) (l:=l);unfold de ek at *;rw[List.map_cons,dy];have:fB (.int .i64 k) (.int .i64 p)=(k==p):=by simp[fB,cp,ed]
  simp only[this]
  by_cases O:k=p
  ·subst O;simp
  ·simp only[beq_iff_eq,O,if_false,ih,List.mem_cons,false_or];split<;>simp
def C5 (h:List cX)(y:Int):List Int:=if qd y then AX h y y else []
def nX (h:List cX)(y:Int):F:=if qd y then .pure 1 (cJ .i64 (AX h y y)) else .bH
def lf (h:List cX)(B:Int):Bool:=decide (ui B)&&(decide (B∈C5 h (eT B-1))||decide (B∈C5 h (eT B))||decide (B∈C5 h (eT B+1)))
theorem Jh (h:List cX)(y:Int):bJ (nX h y)=true:=by
 unfold nX;split<;>simp[bJ]
theorem aFc (h:List cX)(l:List Int):kh (de (nX h) l)=true:=Jg (Jh h) l
theorem aFd (h:List cX)(l:List Int):kh (de (fun B=> .bool (lf h B)) l)=true:=Jg (fun _=>rfl) l
attribute [go_sem] aFc aFd EW
def mH (h:List cX)(ys ds:List Int):List Z:= [.be (.map false [.int .i64] (de (nX h) ys)),.be (.map false [.int .i64] (de (fun B=> .bool (lf h B)) ds)),.ag 359 3 [[.pure 6 (ai h),.bE 0,.bE 1]]]
theorem aFe (h:List cX):aO prog 200 [.pure 6 (ai h)] [] (fun v rs=>v= .bd 2 1 0 0∧rs=mH h [] []):=by
 refine cu func200 aeS (by simp[M9,T7]) ?_;simp only[go_sem,M9,T7];exact E.ac ⟨rfl,rfl⟩
theorem aFf (l:List Int)(hl:l.length≤1000000)(x:Int):aO prog 352 [.pure 1 (cJ .i64 l),.int .i64 x] [] (fun v rs=>(∃ c:Int,v= .int .i64 c∧(0≤c↔x∈l))∧rs= []):=by
 refine cu func352 agj (by simp[FA,Ji]) ?_;simp only[go_sem,FA,Ji];refine dN (fun D r=> ∃ (c:Nat),c≤l.length∧(∀ j (h:j < l.length),j < c→x≠l[j])∧D= [(0,.pure 1 (cJ .i64 l)),(1,.int .i64 x),(7,.int .i64 l.length),(8,.int .i64 c)]∧r= [])
  (fun D _=>match bs D 8 with| .int _ j=>(l.length-j).toNat|_=>0) ?_ ?_
 ·exact E.ac ⟨0,by omega,fun j _ h=>by omega,rfl,rfl⟩
 ·rintro D r ⟨c,av,kx,rfl,rfl⟩;have aP:=dB (c:=c) (by omega);simp only[go_sem,FA,Ji];refine cf ?_ ?_<;>intro ct<;>simp only[bC] at ct<;>simp only[go_sem,FA,Ji]
  ·have aI:c < l.length:=by omega
   refine⟨by omega,by omega,?_⟩
   try simp only[Int.toNat_natCast]
   rw[tw aI,show l.getD c 0=l[c] by simp[List.getD_eq_getElem?_getD,aI]];simp only[go_sem]
   by_cases au:x=l[c]
   ·have bv: (x==l[c])=true:=by simpa using au
    simp only[go_sem,bv];exact E.bg rfl ⟨⟨c,rfl,by simp[au]⟩,rfl⟩
   ·have bv: (x==l[c])=false:=by simpa using au
    simp only[go_sem,bv,aP];refine E.ac ⟨⟨c+1,by omega,fun j aX lL=> ?_,rfl,rfl⟩,?_⟩
    ·by_cases aFg:j=c
     ·subst aFg;exact au
     ·exact kx j aX (by omega)
    ·simp only[go_sem];omega
  ·obtain rfl:c=l.length:=by omega
   refine E.bg rfl ⟨⟨-1,rfl,?_⟩,rfl⟩;refine⟨fun h=>by omega,fun h=> ?_⟩;obtain⟨j,aX,rfl⟩:=List.getElem_of_mem h;exact absurd rfl (kx j aX aX)
theorem aik (l:List Int)(hl:l.length≤1000000)(x:Int):aO prog 323 [.pure 1 (cJ .i64 l),.int .i64 x] [] (fun v rs=>v= .bool (decide (x∈l))∧rs= []):=by
 refine cu func323 agc (by simp[Ng,T8]) ?_;simp only[go_sem,Ng,T8];refine PP (aFf l hl x) rfl ?_;rintro _ ⟨c,rfl,av⟩;refine⟨rfl,?_⟩;simp only[go_sem];exact E.bg rfl ⟨by simp only[ge_iff_le,av],rfl⟩
theorem aFh (h:List cX)(an:ng h=0)(ys ds:List Int)(y:Int):aO prog 324 [.bd 2 1 0 0,.int .i64 y] (mH h ys ds) (fun v rs=>v=nX h y∧rs=mH h (ek y ys) ds):=by
 have cK:=(TU an).1;have aFi:I9 h y= .bo [nX h y,.int .i64 (if qd y then 0 else 2)]:=by
  unfold I9 nX;rw[if_pos an];split<;>rfl
 have gN:=Jh h y;have ak:dy (.int .i64 y) (nX h y) (de (nX h) ys)=de (nX h) (ek y ys):=NO;refine cu func324 agd (by simp[IM,NP]) ?_
 by_cases hm:y∈ys
 ·have aC:ek y ys=ys:=by unfold ek;rw[if_pos hm]
  rw[aC];simp only[go_sem,IM,NP,mH,hm];exact E.ac ⟨rfl,rfl⟩
 ·simp only[go_sem,IM,NP,mH,hm];have uQ:=aDZ h (by omega) y;rw[aFi] at uQ;refine bM uQ rfl (by simp[bJ,bU,gN]) ?_;simp only[go_sem,gN,ak];exact E.ac ⟨rfl,rfl⟩
theorem aFj (f:Nat→Nat)(h:List cX)(y:Int):dS f (nX h y)=nX h y:=uD _ _ (Jh h y)
attribute [go_sem] aFj Jh
theorem aFk (h:List cX)(an:ng h=0)(y B:Int):aO prog 323 [nX h y,.int .i64 B] [] (fun v rs=>v= .bool (decide (B∈C5 h y))∧rs= []):=by
 unfold nX C5
 by_cases bt:qd y
 ·rw[if_pos bt,if_pos bt];have:=aFb h y y (TU an).1 bt.1 bt.2;exact aik _ (by omega) B
 ·rw[if_neg bt,if_neg bt];exact (aik [] (by simp) B).le (by simp[hK,le,cJ])
def pr (h:List cX)(a B:Int)(k:Nat):Bool:=(List.range k).any fun (j:Nat)=>decide (B∈C5 h (a+j))
theorem NQ (h:List cX)(a B:Int)(k:Nat):pr h a B (k+1)=(pr h a B k||decide (B∈C5 h (a+k))):=by
 unfold pr;rw[List.range_succ,List.any_append];simp
theorem aFl {h:List cX}{a B:Int}{k m:Nat}(O:k≤m)(aC:pr h a B k=true):pr h a B m=true:=by
 unfold pr at *;rw[List.any_eq_true] at *;obtain⟨j,aX,G⟩:=aC;rw[List.mem_range] at aX;exact⟨j,by rw[List.mem_range];omega,G⟩
theorem aFm {h:List cX}{B:Int}(ay:ui B):lf h B=pr h (eT B-1) B 3:=by
 unfold lf;simp only[ay,decide_true,Bool.true_and];rw[show (3:Nat)=0+1+1+1 from rfl,NQ,NQ,NQ];have iI:pr h (eT B-1) B 0=false:=rfl;rw[iI,Bool.false_or];rw[show eT B-1+((0:Nat):Int)=eT B-1 by omega,show eT B-1+((0+1:Nat):Int)=eT B by omega,show eT B-1+((0+1+1:Nat):Int)=eT B+1 by omega]
theorem ail (h:List cX)(an:ng h=0)(ys ds:List Int)(B:Int):aO prog 260 [.bd 2 1 0 0,.int .i64 B] (mH h ys ds) (fun v rs=>v= .bool (lf h B)∧ ∃ ys' ds',rs=mH h ys' ds'):=by
 have ak:dy (.int .i64 B) (.bool (lf h B)) (de (fun B=> .bool (lf h B)) ds)=de (fun B=> .bool (lf h B)) (ek B ds):=NO (f:=fun B=> .bool (lf h B));refine cu func260 afI (by simp[AI,C6]) ?_
 by_cases hm:B∈ds
 ·simp only[go_sem,AI,C6,mH,hm];exact E.ac ⟨rfl,ys,ds,rfl⟩
 simp only[go_sem,AI,C6,mH,hm];refine bM (aD1 B) rfl (by split<;>rfl) ?_
 by_cases ay:ui B
 rotate_left
 ·have ba:lf h B=false:=by unfold lf;simp[ay]
  rw[if_neg ay];rw[ba] at ak ⊢;simp only[go_sem,ak];exact E.ac ⟨rfl,ys,ek B ds,rfl⟩
 rw[if_pos ay];have vv:=ahL ay.1 (by have:=ay.2;omega);have aKn:1970≤eT B∧eT B≤2240:=⟨vv.2.2.1,vv.2.2.2⟩;have dn:IntKind.i64.wrap (eT B-1)=eT B-1:=bl (by omega) (by omega);have gI:IntKind.i64.wrap (eT B+1)=eT B+1:=bl (by omega) (by omega);simp only[go_sem,dn];refine dN (fun D r=> ∃ (k:Nat) (ys':List Int),k≤3∧D= [(0,.bd 2 1 0 0),(1,.int .i64 B),(7,.bool (pr h (eT B-1) B k)),(8,.int .i64 (eT B)),(12,.int .i64 (eT B-1+k))]∧r=mH h ys' ds)
  (fun D _=>match bs D 12 with| .int _ j=>(eT B+2-j).toNat|_=>0) ?_ ?_
 ·exact E.ac ⟨0,ys,by omega,by simp[pr],rfl⟩
 ·rintro D r ⟨k,ys',O,rfl,rfl⟩;have nH:IntKind.i64.wrap (eT B-1+k+1)=eT B-1+(k+1:Nat):=by rw[bl (by omega) (by omega)];omega
  by_cases aw:k < 3∧pr h (eT B-1) B k=false
  ·obtain⟨wD,aC⟩:=aw;have eA:eT B-1+(k:Int)≤eT B+1:=by omega
   have ao:=NQ h (eT B-1) B k;rw[aC,Bool.false_or] at ao;simp only[go_sem,AI,C6,mH,gI,eA,aC]
   (refine fy [0,1,2] (aFh h an ys' ds (eT B-1+k)) ?_;rintro _ _ ⟨rfl,rfl⟩;simp only[go_sem])
   refine bM (aFk h an _ B) (by simp[bU,Jh,bJ]) rfl ?_;simp only[go_sem,nH,mH];refine E.ac ⟨⟨k+1,ek (eT B-1+k) ys',by omega,by rw[ao],rfl⟩,?_⟩;simp only[go_sem];omega
  ·have mX:pr h (eT B-1) B k=lf h B:=by
    rw[aFm ay]
    by_cases wD:k=3
    ·rw[wD]
    ·have aC:pr h (eT B-1) B k=true:=by
      cases aj:pr h (eT B-1) B k
      ·exact absurd ⟨by omega,aj⟩ aw
      ·rfl
     rw[aC,aFl O aC]
   have Md: (decide (eT B-1+(k:Int)≤eT B+1)&& !(pr h (eT B-1) B k))=false:=by
    by_cases wD:k=3
    ·subst wD;simp;omega
    ·have aC:pr h (eT B-1) B k=true:=by
      cases aj:pr h (eT B-1) B k
      ·exact absurd ⟨by omega,aj⟩ aw
      ·rfl
     rw[aC];simp
   rw[mX] at Md ⊢
   by_cases eA:eT B-1+(k:Int)≤eT B+1
   ·have hh:lf h B=true:=by simpa[eA] using Md
    rw[hh] at ak ⊢;simp only[go_sem,AI,C6,mH,gI,eA,ak];exact E.ac ⟨rfl,ys',ek B ds,rfl⟩
   ·simp only[go_sem,AI,C6,mH,gI,eA,ak];exact E.ac ⟨rfl,ys',ek B ds,rfl⟩
structure dP where
 name:ByteArray
 ir:ByteArray
 jU:Int
 R:Int
 ab:Int
 ic:Int
 eN:Int
def dP.cells (p:dP):List F:= [.str p.name,.str p.ir,.int .i64 p.jU,.int .i64 p.R,.int .i64 p.ab,.int .i64 p.ic,.int .i64 p.eN]
instance:aJ dP:=⟨dP.cells,7,fun _=>rfl,fun _=>rfl,fun _=>rfl⟩
theorem A4 (p:dP):aJ.J p= [.str p.name,.str p.ir,.int .i64 p.jU,.int .i64 p.R,.int .i64 p.ab,.int .i64 p.ic,.int .i64 p.eN]:=rfl
theorem aFK:aJ.U dP=7:=rfl
attribute [go_sem] aFK
def Jj (n c:Int):Bool:=n.toNat.testBit c.toNat
theorem aio {n:Int}{c:Nat}(h0:0≤n)(h1:n < 9223372036854775808)(av:c≤63):ep .i64 (Kx .i64 n c) 1=if Jj n c then 1 else 0:=by
 obtain⟨m,rfl⟩: ∃ m:Nat,n=m:=⟨n.toNat,by omega⟩;have hm:m / 2^c≤m:=Nat.div_le_self _ _;rw[WQ (by omega),show (1:Int)=((1:Nat):Int) from rfl,arf (by omega) (by omega)];unfold Jj;rw[Int.toNat_natCast,Int.toNat_natCast,Nat.testBit,Nat.shiftRight_eq_div_pow,Nat.and_comm];have G:1&&& m / 2^c=0∨1&&& m / 2^c=1:=by
  rw[Nat.and_comm,Nat.and_one_is_mod];omega
 rcases G with G|G<;>rw[G]<;>rfl
def NW (w:dP)(time A5:Int)(ta:Bool):Bool:=
 (if w.ab≤w.R then decide (w.R≤time)||decide (time < w.ab) else decide (w.R≤time)&&decide (time < w.ab))&&Jj w.ic A5&&(if w.eN=1 then ta else if w.eN=2 then !ta else true)
theorem aFI (w:dP)(FD:0≤w.ic)(dn:w.ic≤127)(time A5:Int)(ta:Bool)(h0:0≤A5)(h1:A5≤6):
 aO prog 202 [.agg (aJ.J w),.agg [.int .i64 time,.int .i64 A5,.bool ta]] [] (fun v rs=>v= .bool (NW w time A5 ta)∧rs= []):=by
 have hb:=aio (n:=w.ic) (c:=A5.toNat) FD (by omega) (by omega);rw[Int.toNat_of_nonneg h0] at hb;refine cu func202 aeT (by simp[IG,N4]) ?_;simp only[go_sem,IG,N4,A4];cases yx:Jj w.ic A5<;>rw[yx] at hb<;>simp only[Bool.false_eq_true,if_false,if_true] at hb
 all_goals (repeat' ((first|refine gv ?_ ?_|refine gw ?_ ?_|refine cf ?_ ?_|refine dj ?_ ?_)<;>intro aw<;>(have ak:=aw;try simp only[bC] at ak)<;>(first|omega| (simp only[go_sem,aw,IG,N4,hb,h0];clear aw))))
 all_goals (try (refine E.bg rfl ⟨congrArg F.bool ?_,rfl⟩))
 all_goals (try simp only[bC] at *)
 all_goals (unfold NW;simp only[yx, *,if_true,if_false,Bool.and_false,Bool.false_and,Bool.true_and,Bool.and_true,decide_true,decide_false,Bool.or_true,Bool.true_or])
 all_goals (first|done| (split<;>simp<;>omega)| (simp<;>omega))
end Go.Proofs.YtpincjkjoeopkaaGreatDoor.Pm
