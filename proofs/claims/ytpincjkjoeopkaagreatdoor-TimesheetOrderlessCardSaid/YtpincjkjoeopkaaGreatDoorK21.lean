/- Calendar and premiums. -/
import Derived.Test.YtpincjkjoeopkaaGreatDoorK20
import Derived.Test.YtpincjkjoeopkaaGreatDoorK19
import Derived.Test.YtpincjkjoeopkaaGreatDoorK15
import Derived.Test.YtpincjkjoeopkaaGreatDoorK5
set_option linter.unusedSimpArgs false
set_option linter.unusedVariables false
set_option linter.unusedSectionVars false
namespace Go.Proofs.YtpincjkjoeopkaaGreatDoor.Pm
open Go Go.Abs Go.Proofs.Tryz
open Go.RowKit (Below)
theorem agA (l:List cP)(hl:l.length≤9223372036854775806):aK prog 198 [.pure 6 (ac l)] [] (fun v rs=>v= .int .i64 (mz l)∧rs= []):=by
 refine cr func198 adx (by simp[xy,zN]) ?_;simp only[go_sem,xy,zN];refine cg ?_ ?_<;>intro dL<;>simp only[bA] at dL<;>simp only[go_sem,xy,zN]
 ·exact s.bb rfl ⟨by rw[mz,if_pos (by omega)],rfl⟩
 have pa:mz l=if nK l=true then 0 else 1:=by rw[mz,if_neg (by omega)]
 refine dR (fun r d=> ∃ (c:Nat),c≤l.length∧nK l=nK (l.drop c)∧r= [(8,.pure 6 (ac l)),(9,.int .i64 l.length),(10,.int .i64 c)]∧d= [])
  (fun r _=>match bn r 10 with| .int _ j=>(l.length-j).toNat|_=>0) ?_ ?_
 ·exact s.U ⟨0,by omega,by simp,rfl,rfl⟩
 ·rintro r d ⟨c,an,Z,rfl,rfl⟩;simp only[go_sem,xy,zN];refine cg ?_ ?_<;>intro ck<;>simp only[bA] at ck<;>simp only[go_sem,xy,zN]
  ·have aC:c < l.length:=by omega
   refine⟨by omega,by omega,?_⟩
   try simp only[Int.toNat_natCast]
   rw[cQ aC];rw[List.drop_eq_getElem_cons aC,nK,nK,List.all_cons] at Z;generalize l[c]=p at Z ⊢;have aR:=dr (c:=c) (by omega);simp only[go_sem,xy,zN,SZ];refine bH (aDB p) rfl rfl ?_;simp only[go_sem];refine cg ?_ ?_<;>intro oj<;>simp only[bA] at oj<;>simp only[go_sem,xy,zN,aR]
   ·exact s.bb rfl ⟨by rw[pa,if_neg (by rw[nK,Z,oj];simp)],rfl⟩
   ·(refine s.bw [] ?_;simp only[go_sem])
    refine s.U ⟨⟨c+1,by omega,?_,rfl,rfl⟩,?_⟩
    ·rw[nK,Z,oj,Bool.true_and,nK]
    ·simp only[go_sem];omega
  ·have xA:c=l.length:=by omega
   rw[xA,List.drop_length] at Z;exact s.bb rfl ⟨by rw[pa,Z];rfl,rfl⟩
theorem H0 {y m o:Int}(bl:pu y)(h1:1≤m)(B:m≤12)(am:0≤o)(bp:o≤100): -2000≤lS y m o∧lS y m o≤201000:=by
 have a:=SU (y:=y) (by have:=bl.1;omega) (by have:=bl.2;omega);have b:=ME y (m-1).toNat (by omega);unfold lS;omega
theorem MJ (o:Int):0≤lT o∧lT o≤6:=by unfold lT;omega
def BY (y m w:Int):Int:=(w-lT (lS y m 1)+7)%7
def vP (y m w n:Int):Int:=if n= -1 then BY y m w+(hH y m-1-BY y m w) / 7*7 else BY y m w+7*(n-1)
theorem aDC (y m w n:Int)(bl:pu y)(h1:1≤m)(B:m≤12)(am:0≤w)(bp:w≤6)(cn:n= -1∨1≤n∧n≤5):aK prog 371 [.int .i64 y,.int .i64 m,.int .i64 w,.int .i64 n] []
 (fun v rs=>v=(if vP y m w n < hH y m then .bg [.int .i64 (lS y m 1+vP y m w n),.bool true] else .bg [.int .i64 0,.bool false])∧rs= []):=by
 refine cr func371 aeZ (by simp[BM,EM]) ?_;obtain⟨kS,sS⟩:=bl;have hF:=H0 (y:=y) ⟨kS,sS⟩ h1 B (o:=1) (by omega) (by omega);have hL:=xE (y:=y) h1 B;have hW:=MJ (lS y m 1);simp only[go_sem,BM,EM];refine bH (agD y m 1 (by omega) (by omega) (by omega) (by omega) (by omega) (by omega)) rfl rfl ?_;simp only[go_sem];refine bH (DF y m (by omega) (by omega) (by omega)) rfl rfl ?_;simp only[go_sem];refine bH (MD (lS y m 1) (by omega) (by omega)) rfl rfl ?_;unfold vP BY;generalize lT (lS y m 1)=W at hW ⊢;generalize lS y m 1=be at hF ⊢;generalize hH y m=aU at hL ⊢;simp only[go_sem];rw[bf (x:=w-W) (by omega) (by omega),bf (x:=w-W+7) (by omega) (by omega),Int.tmod_eq_emod_of_nonneg (a:=w-W+7) (by omega)];have an:0≤(w-W+7)%7∧(w-W+7)%7≤6:=by omega
 generalize (w-W+7)%7=hq at an ⊢;refine⟨by decide,?_⟩;refine cg ?_ ?_<;>intro dL<;>simp only[bA] at dL<;>simp only[go_sem,BM,EM]
 ·rw[if_pos dL];rw[bf (x:=aU-1) (by omega) (by omega),bf (x:=aU-1-hq) (by omega) (by omega),Int.tdiv_eq_ediv_of_nonneg (by omega),bf (x:=(aU-1-hq) / 7) (by omega) (by omega),bf (x:=(aU-1-hq) / 7*7) (by omega) (by omega),bf (x:=hq+(aU-1-hq) / 7*7) (by omega) (by omega)];refine⟨by decide,?_⟩;refine cg ?_ ?_<;>intro ck<;>simp only[bA] at ck<;>simp only[go_sem,BM,EM]
  ·exact s.bb rfl ⟨by rw[if_neg (by omega)],rfl⟩
  ·exact s.bb rfl ⟨by rw[if_pos (by omega),bf (by omega) (by omega)],rfl⟩
 ·rw[if_neg dL];rw[bf (x:=n-1) (by omega) (by omega),bf (x:=7*(n-1)) (by omega) (by omega),bf (x:=hq+7*(n-1)) (by omega) (by omega)];refine cg ?_ ?_<;>intro ck<;>simp only[bA] at ck<;>simp only[go_sem,BM,EM]
  ·exact s.bb rfl ⟨by rw[if_neg (by omega)],rfl⟩
  ·exact s.bb rfl ⟨by rw[if_pos (by omega),bf (by omega) (by omega)],rfl⟩
def xG (y:Int):Int:=lS y (tj y / 31) (tj y%31+1)
theorem agP {y:Int}(bl:pu y):nl y (tj y / 31) (tj y%31+1)=(xG y,true):=by
 have h:=(agO (y:=y) bl.1 bl.2).1;unfold vO nl at h;unfold nl xG;split
 ·rfl
 ·rename_i aB;rw[if_neg aB] at h;cases h
def aJb (h:cP)(y:Int):Option Int:=
 if h.cH=0 then (if h.ab≤hH y h.qU then some (lS y h.qU h.ab) else none)
 else if h.cH=1 then some (xG y+h.offset)
 else if vP y h.qU h.zO h.ab < hH y h.qU then some (lS y h.qU 1+vP y h.qU h.zO h.ab+h.offset) else none
def xH (b:Bool)(o:Int):Int:=if b=true∧5≤lT o then o+(7-lT o) else o
def MK (h:cP)(y:Int):Option Int:=(aJb h y).map (xH h.H2)
def uv (h:cP)(y:Int):Option Int:=(MK h y).filter fun o=>decide (ti o)
def xF:Option Int→z
 |some o=> .bg [.int .i64 o,.bool true]
 |none=> .bg [.int .i64 0,.bool false]
theorem EN (o:Int):xH false o=o:=by simp[xH]
theorem EO {o:Int}(h:5≤lT o):xH true o=o+(7-lT o):=by simp[xH,h]
theorem EP {o:Int}(h:lT o < 5):xH true o=o:=by rw[xH,if_neg (by omega)]
theorem xI {h:cP}{y ax X:Int}(cL:aJb h y=some ax)(eD:xH h.H2 ax=X)(bi:ti X):xF (uv h y)= .bg [.int .i64 X,.bool true]:=by
 rw[uv,MK,cL,Option.map_some,eD,Option.filter_some,if_pos (by simpa using bi),xF]
theorem xJ {h:cP}{y ax X:Int}(cL:aJb h y=some ax)(eD:xH h.H2 ax=X)(bi: ¬ti X):xF (uv h y)= .bg [.int .i64 0,.bool false]:=by
 rw[uv,MK,cL,Option.map_some,eD,Option.filter_some,if_neg (by simpa using bi),xF]
theorem agQ {h:cP}{y:Int}(cL:aJb h y=none):xF (uv h y)= .bg [.int .i64 0,.bool false]:=by
 rw[uv,MK,cL,Option.map_none,Option.filter_none,xF]
theorem aDD {y:Int}(bl:pu y):lS y 3 22≤xG y∧xG y≤lS y 4 25:=by
 have h:=agO (y:=y) bl.1 bl.2;rw[vO,agP bl] at h;obtain⟨_,_,a,b⟩:=h;have rz:=xE (y:=y) (m:=3) (by omega) (by omega);have Yp:=xE (y:=y) (m:=4) (by omega) (by omega);rw[nl,if_pos ⟨bl.1,bl.2,by omega,by omega,by omega,by omega⟩] at a;rw[nl,if_pos ⟨bl.1,bl.2,by omega,by omega,by omega,by omega⟩] at b;exact⟨a,b⟩
theorem aCF (h:cP)(y:Int)(G:zJ h=true)(bl:pu y):aK prog 368 [.agg (aG.F h),.int .i64 y] [] (fun v rs=>v=xF (uv h y)∧rs= []):=by
 obtain⟨k,m,o,hK,L,b⟩:=h;rw[agR] at G;rw[SZ];refine cr func368 aeW (by simp[kY,lq]) ?_;obtain⟨kS,sS⟩:=bl;rcases G with ⟨rfl,h1,B,rfl,rfl,am,bp⟩|⟨rfl,h1,B,rfl,rfl,rfl⟩|⟨rfl,h1,B,am,bp,cn,dj,mM⟩
 ·simp only[go_sem,kY,lq];have hl:=xE (y:=y) h1 B;have fr:=agE y m o
  by_cases aq:o≤hH y m
  ·rw[nl,if_pos ⟨kS,sS,h1,B,am,aq⟩] at fr;refine bH fr rfl rfl ?_;have cL:aJb ⟨0,m,o,0,0,b⟩ y=some (lS y m o+0):=by rw[aJb,if_pos rfl,if_pos aq,Int.add_zero]
   have hF:=H0 (y:=y) ⟨kS,sS⟩ h1 B (o:=o) (by omega) (by omega);generalize lS y m o=ax at cL hF ⊢;simp only[go_sem,kY,lq];rw[bf (x:=ax+0) (by omega) (by omega)];refine bH (MD (ax+0) (by omega) (by omega)) rfl rfl ?_;have vq:=MJ (ax+0);cases b
   ·simp only[go_sem];refine bH (mY (ax+0)) rfl rfl ?_;simp only[go_sem];refine cg ?_ ?_<;>intro ao<;>simp only[bA] at ao<;>simp only[go_sem,kY,lq]
    ·exact s.bb rfl ⟨(xJ cL (EN _) ao).symm,rfl⟩
    ·exact s.bb rfl ⟨(xI cL (EN _) ao).symm,rfl⟩
   ·simp only[go_sem];refine cg ?_ ?_<;>intro nn<;>simp only[bA] at nn<;>simp only[go_sem,kY,lq]
    ·rw[bf (x:=7-lT (ax+0)) (by omega) (by omega),bf (x:=ax+0+(7-lT (ax+0))) (by omega) (by omega)];refine bH (mY (ax+0+(7-lT (ax+0)))) rfl rfl ?_;simp only[go_sem];refine cg ?_ ?_<;>intro ao<;>simp only[bA] at ao<;>simp only[go_sem,kY,lq]
     ·exact s.bb rfl ⟨(xJ cL (EO nn) ao).symm,rfl⟩
     ·exact s.bb rfl ⟨(xI cL (EO nn) ao).symm,rfl⟩
    ·refine bH (mY (ax+0)) rfl rfl ?_;simp only[go_sem];refine cg ?_ ?_<;>intro ao<;>simp only[bA] at ao<;>simp only[go_sem,kY,lq]
     ·exact s.bb rfl ⟨(xJ cL (EP nn) ao).symm,rfl⟩
     ·exact s.bb rfl ⟨(xI cL (EP nn) ao).symm,rfl⟩
  ·rw[nl,if_neg (fun h=>aq h.2.2.2.2.2)] at fr;refine bH fr rfl rfl ?_;simp only[go_sem,kY,lq];exact s.bb rfl ⟨(agQ (by rw[aJb,if_pos rfl,if_neg aq])).symm,rfl⟩
 ·simp only[go_sem,kY,lq];have cY:=aCZ y ⟨kS,sS⟩;rw[agP ⟨kS,sS⟩] at cY;refine bH cY rfl rfl ?_;have cL:aJb ⟨1,0,0,0,L,b⟩ y=some (xG y+L):=by rw[aJb,if_neg (by simp),if_pos rfl]
  have hF: -2000≤xG y∧xG y≤201000:=by
   have a:=aDD (y:=y) ⟨kS,sS⟩;have b:=H0 (y:=y) (m:=3) (o:=22) ⟨kS,sS⟩ (by omega) (by omega) (by omega) (by omega);have F:=H0 (y:=y) (m:=4) (o:=25) ⟨kS,sS⟩ (by omega) (by omega) (by omega) (by omega);omega
  generalize xG y=ax at cL hF ⊢;simp only[go_sem,kY,lq];rw[bf (x:=ax+L) (by omega) (by omega)];refine bH (MD (ax+L) (by omega) (by omega)) rfl rfl ?_;have vq:=MJ (ax+L);cases b
  ·simp only[go_sem];refine bH (mY (ax+L)) rfl rfl ?_;simp only[go_sem];refine cg ?_ ?_<;>intro ao<;>simp only[bA] at ao<;>simp only[go_sem,kY,lq]
   ·exact s.bb rfl ⟨(xJ cL (EN _) ao).symm,rfl⟩
   ·exact s.bb rfl ⟨(xI cL (EN _) ao).symm,rfl⟩
  ·simp only[go_sem];refine cg ?_ ?_<;>intro nn<;>simp only[bA] at nn<;>simp only[go_sem,kY,lq]
   ·rw[bf (x:=7-lT (ax+L)) (by omega) (by omega),bf (x:=ax+L+(7-lT (ax+L))) (by omega) (by omega)];refine bH (mY (ax+L+(7-lT (ax+L)))) rfl rfl ?_;simp only[go_sem];refine cg ?_ ?_<;>intro ao<;>simp only[bA] at ao<;>simp only[go_sem,kY,lq]
    ·exact s.bb rfl ⟨(xJ cL (EO nn) ao).symm,rfl⟩
    ·exact s.bb rfl ⟨(xI cL (EO nn) ao).symm,rfl⟩
   ·refine bH (mY (ax+L)) rfl rfl ?_;simp only[go_sem];refine cg ?_ ?_<;>intro ao<;>simp only[bA] at ao<;>simp only[go_sem,kY,lq]
    ·exact s.bb rfl ⟨(xJ cL (EP nn) ao).symm,rfl⟩
    ·exact s.bb rfl ⟨(xI cL (EP nn) ao).symm,rfl⟩
 ·simp only[go_sem,kY,lq];have fu:=aDC y m hK o ⟨kS,sS⟩ h1 B bp cn am;have hl:=xE (y:=y) h1 B
  by_cases aq:vP y m hK o < hH y m
  ·rw[if_pos aq] at fu;refine bH fu rfl rfl ?_;have cL:aJb ⟨2,m,o,hK,L,b⟩ y=some (lS y m 1+vP y m hK o+L):=by rw[aJb,if_neg (by simp),if_neg (by simp),if_pos aq]
   have hF:=H0 (y:=y) ⟨kS,sS⟩ h1 B (o:=1) (by omega) (by omega);have eD:0≤vP y m hK o:=by
    have:0≤BY y m hK∧BY y m hK≤6:=by unfold BY;omega
    unfold vP;split<;>omega
   obtain⟨ax,fr⟩: ∃ ax,ax=lS y m 1+vP y m hK o:=⟨_,rfl⟩;rw[←fr] at cL ⊢
   replace hF: -2000≤ax∧ax≤201031:=by omega
   clear fr;simp only[go_sem,kY,lq];rw[bf (x:=ax+L) (by omega) (by omega)];refine bH (MD (ax+L) (by omega) (by omega)) rfl rfl ?_;have vq:=MJ (ax+L);cases b
   ·simp only[go_sem];refine bH (mY (ax+L)) rfl rfl ?_;simp only[go_sem];refine cg ?_ ?_<;>intro ao<;>simp only[bA] at ao<;>simp only[go_sem,kY,lq]
    ·exact s.bb rfl ⟨(xJ cL (EN _) ao).symm,rfl⟩
    ·exact s.bb rfl ⟨(xI cL (EN _) ao).symm,rfl⟩
   ·simp only[go_sem];refine cg ?_ ?_<;>intro nn<;>simp only[bA] at nn<;>simp only[go_sem,kY,lq]
    ·rw[bf (x:=7-lT (ax+L)) (by omega) (by omega),bf (x:=ax+L+(7-lT (ax+L))) (by omega) (by omega)];refine bH (mY (ax+L+(7-lT (ax+L)))) rfl rfl ?_;simp only[go_sem];refine cg ?_ ?_<;>intro ao<;>simp only[bA] at ao<;>simp only[go_sem,kY,lq]
     ·exact s.bb rfl ⟨(xJ cL (EO nn) ao).symm,rfl⟩
     ·exact s.bb rfl ⟨(xI cL (EO nn) ao).symm,rfl⟩
    ·refine bH (mY (ax+L)) rfl rfl ?_;simp only[go_sem];refine cg ?_ ?_<;>intro ao<;>simp only[bA] at ao<;>simp only[go_sem,kY,lq]
     ·exact s.bb rfl ⟨(xJ cL (EP nn) ao).symm,rfl⟩
     ·exact s.bb rfl ⟨(xI cL (EP nn) ao).symm,rfl⟩
  ·rw[if_neg aq] at fu;refine bH fu rfl rfl ?_;simp only[go_sem,kY,lq];exact s.bb rfl ⟨(agQ (by rw[aJb,if_neg (by simp),if_neg (by simp),if_neg aq])).symm,rfl⟩
theorem aDz (bQ:List Int)(x:Int):x∈fh bQ↔x∈bQ:=by unfold fh;exact List.mem_mergeSort
def SN (bQ:List Int):List Int:=Lib.compact (fh bQ)
def tg (l:List cP)(y:Int):List Int:=l.filterMap fun h=>uv h y
def lp (l:List cP)(a:Int)(n:Nat):List Int:=(List.range n).flatMap fun (c:Nat)=>tg l (a+(c:Int))
theorem agz (l:List cP)(a:Int)(n:Nat):lp l a (n+1)=lp l a n++tg l (a+n):=by
 unfold lp;rw[List.range_succ,List.flatMap_append];simp
theorem agy (l:List cP)(y:Int): (tg l y).length≤l.length:=List.length_filterMap_le _ _
theorem SL (l:List cP)(a:Int): ∀ n,(lp l a n).length≤n*l.length
 |0=>by simp[lp]
 |n+1=>by
  rw[agz,List.length_append,Nat.add_mul,Nat.one_mul];have:=SL l a n;have:=agy l (a+n);omega
def zK (l:List cP)(a b:Int):List Int:=SN (lp l a (b+1-a).toNat)
theorem aCD {l:List cP}{y:Int}{c:Nat}(h:c < l.length):tg (l.take (c+1)) y=tg (l.take c) y++(uv l[c] y).toList:=by
 unfold tg;rw[List.take_add_one,List.filterMap_append,List.getElem?_eq_getElem h];congr 1
theorem agw {l:List cP}(h:nK l=true){c:Nat}(an:c < l.length):zJ l[c]=true:=List.all_eq_true.1 h _ (List.getElem_mem an)
theorem SJ (h:cP):List.take 6 (aG.F h)=aG.F h:=rfl
theorem SK (h:cP): (aG.F h).length=6:=rfl
theorem agx (h:cP): (aG.F h).all Abs.cM=true:=rfl
theorem aCE (l:List cP)(a b:Int)(hl:l.length≤1024)(ag:nK l=true)(aw:1970≤a)(Z:b≤2199):aK prog 366 [.pure 6 (ac l),.int .i64 a,.int .i64 b] [] (fun v rs=>v= .pure 1 (cC .i64 (zK l a b))∧rs= []):=by
 refine hr func366 aeV (by simp[zw,BX]) ?_;simp only[go_sem,zw,BX]
 repeat (refine s.U ?_;simp only[go_sem])
 refine gY (fun r d=> ∃ n:Nat,(a+n≤b+1∨n=0)∧n≤230∧r= [(0,.pure 6 (ac l)),(2,.int .i64 b),(7,.own 0 (lp l a n).length 0 (lp l a n).length),(8,.int .i64 (a+n))]∧d= [.aa 3 1 (cC .i64 (lp l a n))])
  (fun r _=>match bn r 8 with| .int _ j=>(2300-j).toNat|_=>0) ?_ ?_
 ·(refine s.iI 7 3 1 rfl (s.eW [0,2,7,8] ?_);simp only[go_sem])
  exact s.U ⟨0,.inr rfl,by omega,by simp[lp],rfl⟩
 ·rintro r d ⟨n,aB,zo,rfl,rfl⟩;have cB:=SL l a n;have agn: (lp l a n).length≤235520:=by
   have:n*l.length≤230*1024:=Nat.mul_le_mul zo hl;omega
  simp only[go_sem,zw,BX]
  repeat (refine s.U ?_;simp only[go_sem])
  refine dg ?_ ?_<;>intro dL<;>simp only[bA] at dL<;>simp only[go_sem,zw,BX]
  ·repeat (refine s.U ?_;simp only[go_sem])
   have aIO:n < 230:=by omega
   refine gY (fun r d=> ∃ c:Nat,c≤l.length∧r= [(0,.pure 6 (ac l)),(2,.int .i64 b),(7,.own 0 (lp l a n++tg (l.take c) (a+n)).length 0 (lp l a n++tg (l.take c) (a+n)).length),(8,.int .i64 (a+n)),(19,.pure 6 (ac l)),(20,.int .i64 l.length),(21,.int .i64 c)]∧d= [.aa 3 1 (cC .i64 (lp l a n++tg (l.take c) (a+n)))])
    (fun r _=>match bn r 21 with| .int _ j=>(l.length-j).toNat|_=>0) ?_ ?_
   ·exact s.U ⟨0,by omega,by simp[tg],by simp[tg]⟩
   ·rintro r d ⟨c,an,rfl,rfl⟩;have PA: (lp l a n++tg (l.take c) (a+n)).length≤236544:=by
     have:=agy (l.take c) (a+n);rw[List.length_take] at this;rw[List.length_append];omega
    simp only[go_sem,zw,BX]
    repeat (refine s.U ?_;simp only[go_sem])
    refine dg ?_ ?_<;>intro ck<;>simp only[bA] at ck<;>simp only[go_sem,zw,BX]
    ·have aC:c < l.length:=by omega
     repeat (refine s.U ?_;simp only[go_sem])
     have G:=agw ag aC;have uw:=aCD (y:=a+n) aC;have aR:=dr (c:=c) (by omega);simp only[cQ aC];generalize l[c]=hh at G uw ⊢;refine⟨by omega,by omega,by rw[SK];decide,rfl,rfl,?_⟩;simp only[go_sem,SJ];refine s.U ?_;simp only[go_sem,SJ,SK,agx];refine bH (aCF hh (a+n) G ⟨by omega,by omega⟩) rfl (by cases uv hh (a+n)<;>rfl) ?_;rcases ka:uv hh (a+n) with _|o
     ·rw[xF];rw[ka] at uw;simp only[go_sem]
      (refine s.bw [some 0] ?_;simp only[go_sem])
      repeat (refine s.U ?_;simp only[go_sem])
      rw[Option.toList_none,List.append_nil] at uw;exact⟨⟨c+1,by omega,by rw[uw,aR],by rw[uw]⟩,by rw[aR];omega⟩
     ·rw[xF];rw[ka,Option.toList_some] at uw;simp only[go_sem]
      (refine s.bw [some 0] ?_;simp only[go_sem])
      (refine s.U ?_;simp only[go_sem])
      (refine s.U ?_;simp only[go_sem])
      refine⟨by omega,?_⟩
      (refine s.bw [some 0] ?_;simp only[go_sem])
      repeat (refine s.U ?_;simp only[go_sem])
      refine⟨⟨c+1,by omega,?_,?_⟩,by rw[aR];omega⟩
      ·rw[uw,aR];simp[Nat.add_assoc]
      ·rw[uw,←List.append_assoc];try rfl
    ·have jY:c=l.length:=by omega
     subst jY;rw[List.take_length,←agz] at *
     repeat (refine s.U ?_;simp only[go_sem])
     have aR:IntKind.i64.wrap (a+(n:Int)+1)=a+((n+1:Nat):Int):=by rw[bf (by omega) (by omega)];omega
     exact⟨⟨n+1,.inl (by omega),by omega,by rw[aR],rfl⟩,by rw[aR];omega⟩
  ·repeat (refine s.U ?_;simp only[go_sem])
   have FR:n=(b+1-a).toNat:=by omega
   have aCG:zK l a b=Lib.compact (fh (lp l a n)):=by rw[zK,SN,FR]
   rw[aCG];have fd:=yO (lp l a n);have rh:=asZ (lp l a n) (by omega);have uk:=ata (fh (lp l a n)) (by omega);have gB:=PV (fh (lp l a n));rw[fd] at uk gB;generalize lp l a n=bQ at *;generalize fh bQ=ys at *;generalize Lib.compact ys=ai at *
   (refine eY [0] (rh) ?_;rintro _ _ ⟨rfl,rfl⟩;simp only[go_sem])
   repeat (refine s.U ?_;simp only[go_sem])
   (refine eY [0] (uk) ?_;rintro _ _ ⟨rfl,rfl⟩;simp only[go_sem])
   have kO:bQ.length=(cC .i64 (ai++List.replicate (bQ.length-ai.length) 0)).length:=by rw[mm,List.length_append,List.length_replicate];omega
   have pm: ((cC .i64 (ai++List.replicate (bQ.length-ai.length) 0)).drop 0).take ai.length=cC .i64 ai:=by rw[List.drop_zero,Vs,List.take_left]
   have Ey:eg (cC .i64 (ai++List.replicate (bQ.length-ai.length) 0))=true:=CL;generalize cC .i64 (ai++List.replicate (bQ.length-ai.length) 0)=af at *;refine s.kc [] [0] rfl rfl (by simp only[go_sem]<;>rfl) ?_;have mZ:bU [.aa 3 1 af] [] [0] (.own 0 bQ.length 0 ai.length)= .pure 1 (cC .i64 ai):=by
    rw[aqe (by rfl) (by rfl) (by rfl) kO (by omega) Ey,pm]
   simp only[List.map_cons,List.map_nil,mZ]
   (refine s.U ?_;simp only[go_sem])
   exact s.U ⟨rfl,rfl⟩
def HV (l:List cP)(y:Int):z:=
 if mz l=0 then (if pu y then .bg [.pure 1 (cC .i64 (zK l y y)),.int .i64 0] else .bg [.bD,.int .i64 2]) else .bg [.bD,.int .i64 (mz l)]
theorem SO {l:List cP}(h:mz l=0):l.length≤1024∧nK l=true:=by
 unfold mz at h;split at h
 ·omega
 ·split at h
  ·exact⟨by omega,by assumption⟩
  ·omega
theorem aCH (l:List cP)(hl:l.length≤9223372036854775806)(y:Int):aK prog 353 [.pure 6 (ac l),.int .i64 y] [] (fun v rs=>v=HV l y∧rs= []):=by
 refine cr func353 aeQ (by simp[HB,MB]) ?_;simp only[go_sem,HB,MB];refine bH (agA l hl) rfl rfl ?_;simp only[go_sem];refine cg ?_ ?_<;>intro ag<;>simp only[bA] at ag<;>simp only[go_sem,HB,MB]
 ·exact s.bb rfl ⟨by rw[HV,if_neg ag],rfl⟩
 rw[HV,if_pos ag];obtain⟨kO,wm⟩:=SO ag
 repeat' ((first|refine gF ?_ ?_|refine gP ?_ ?_|refine cg ?_ ?_|refine dg ?_ ?_)<;>intro ao<;>(have ae:=ao;try simp only[bA] at ae)<;>(first|omega| (simp only[go_sem,ao,];clear ao)))
 ·exact s.bb rfl ⟨by rw[if_neg (by unfold pu;omega)],rfl⟩
 ·exact s.bb rfl ⟨by rw[if_neg (by unfold pu;omega)],rfl⟩
 ·refine bH (aCE l y y kO wm (by omega) (by omega)) rfl rfl ?_;simp only[go_sem];exact s.bb rfl ⟨by rw[if_pos ⟨by omega,by omega⟩],rfl⟩
theorem aDT (l:List cP)(a b:Int)(hl:l.length≤1024)(aw:1970≤a)(Z:b≤2199): (zK l a b).length≤235520:=by
 unfold zK SN;have h1:=PV (fh (lp l a (b+1-a).toNat));rw[yO] at h1;have B:=SL l a (b+1-a).toNat;have am: (b+1-a).toNat*l.length≤230*1024:=Nat.mul_le_mul (by omega) hl;omega
def cX (f:Int→z)(M:List Int):List (z×z):=M.map fun k=>(.int .i64 k,f k)
def ea (k:Int)(M:List Int):List Int:=if k∈M then M else M++ [k]
theorem H3 {f:Int→z}(hf: ∀ k,bE (f k)=true): ∀ (l:List Int),jL (cX f l)=true
 | []=>_root_.id rfl
 |k::l=>by
  have:=H3 hf l;simp only[jL,cX,List.map_map,Bool.and_eq_true] at this ⊢;simp only[List.map_cons,bP,Function.comp_apply,bE,hf,Bool.true_and];exact this
theorem DJ {f:Int→z}{k:Int}: ∀ {l:List Int},dd (.int .i64 k) (cX f l)=if k∈l then some (f k) else none
 | []=>by simp[cX,dd]
 |p::l=>by
  have ih:=DJ (f:=f) (k:=k) (l:=l);unfold cX at *;rw[List.map_cons,dd];have:fp (.int .i64 k) (.int .i64 p)=(k==p):=by simp[fp,cf,dU]
  simp only[this]
  by_cases I:k=p
  ·subst I;simp
  ·simp only[beq_iff_eq,I,if_false,ih,List.mem_cons,false_or]
theorem ML {f:Int→z}{k:Int}: ∀ {l:List Int},dp (.int .i64 k) (f k) (cX f l)=cX f (ea k l)
 | []=>by simp[cX,dp,ea]
 |p::l=>by
  have ih:=ML (f:=f) (k:=k) (l:=l);unfold cX ea at *;rw[List.map_cons,dp];have:fp (.int .i64 k) (.int .i64 p)=(k==p):=by simp[fp,cf,dU]
  simp only[this]
  by_cases I:k=p
  ·subst I;simp
  ·simp only[beq_iff_eq,I,if_false,ih,List.mem_cons,false_or];split<;>simp
def BZ (h:List cP)(y:Int):List Int:=if pu y then zK h y y else []
def np (h:List cP)(y:Int):z:=if pu y then .pure 1 (cC .i64 (zK h y y)) else .bD
def kG (h:List cP)(o:Int):Bool:=decide (ti o)&&(decide (o∈BZ h (eK o-1))||decide (o∈BZ h (eK o))||decide (o∈BZ h (eK o+1)))
theorem H4 (h:List cP)(y:Int):bE (np h y)=true:=by
 unfold np;split<;>simp[bE]
theorem aDU (h:List cP)(l:List Int):jL (cX (np h) l)=true:=H3 (H4 h) l
theorem aDV (h:List cP)(l:List Int):jL (cX (fun o=> .bool (kG h o)) l)=true:=H3 (fun _=>rfl) l
attribute [go_sem] aDU aDV DJ
def lU (h:List cP)(ys ds:List Int):List R:= [.aY (.map false [.int .i64] (cX (np h) ys)),.aY (.map false [.int .i64] (cX (fun o=> .bool (kG h o)) ds)),.aa 359 3 [[.pure 6 (ac h),.bu 0,.bu 1]]]
theorem aDW (h:List cP):aK prog 200 [.pure 6 (ac h)] [] (fun v rs=>v= .aW 2 1 0 0∧rs=lU h [] []):=by
 refine cr func200 adz (by simp[L5,S2]) ?_;simp only[go_sem,L5,S2];exact s.U ⟨rfl,rfl⟩
theorem aDX (l:List Int)(hl:l.length≤1000000)(x:Int):aK prog 352 [.pure 1 (cC .i64 l),.int .i64 x] [] (fun v rs=>(∃ c:Int,v= .int .i64 c∧(0≤c↔x∈l))∧rs= []):=by
 refine cr func352 aeP (by simp[Et,H5]) ?_;simp only[go_sem,Et,H5];refine dR (fun r d=> ∃ (c:Nat),c≤l.length∧(∀ j (h:j < l.length),j < c→x≠l[j])∧r= [(0,.pure 1 (cC .i64 l)),(1,.int .i64 x),(7,.int .i64 l.length),(8,.int .i64 c)]∧d= [])
  (fun r _=>match bn r 8 with| .int _ j=>(l.length-j).toNat|_=>0) ?_ ?_
 ·exact s.U ⟨0,by omega,fun j _ h=>by omega,rfl,rfl⟩
 ·rintro r d ⟨c,an,ka,rfl,rfl⟩;have aR:=dr (c:=c) (by omega);simp only[go_sem,Et,H5];refine cg ?_ ?_<;>intro ck<;>simp only[bA] at ck<;>simp only[go_sem,Et,H5]
  ·have aC:c < l.length:=by omega
   refine⟨by omega,by omega,?_⟩
   try simp only[Int.toNat_natCast]
   rw[sA aC,show l.getD c 0=l[c] by simp[List.getD_eq_getElem?_getD,aC]];simp only[go_sem]
   by_cases am:x=l[c]
   ·have bp: (x==l[c])=true:=by simpa using am
    simp only[go_sem,bp];exact s.bb rfl ⟨⟨c,rfl,by simp[am]⟩,rfl⟩
   ·have bp: (x==l[c])=false:=by simpa using am
    simp only[go_sem,bp,aR];refine s.U ⟨⟨c+1,by omega,fun j aT ml=> ?_,rfl,rfl⟩,?_⟩
    ·by_cases aDY:j=c
     ·subst aDY;exact am
     ·exact ka j aT (by omega)
    ·simp only[go_sem];omega
  ·obtain rfl:c=l.length:=by omega
   refine s.bb rfl ⟨⟨-1,rfl,?_⟩,rfl⟩;refine⟨fun h=>by omega,fun h=> ?_⟩;obtain⟨j,aT,rfl⟩:=List.getElem_of_mem h;exact absurd rfl (ka j aT aT)
theorem agU (l:List Int)(hl:l.length≤1000000)(x:Int):aK prog 323 [.pure 1 (cC .i64 l),.int .i64 x] [] (fun v rs=>v= .bool (decide (x∈l))∧rs= []):=by
 refine cr func323 aeJ (by simp[Mb,S3]) ?_;simp only[go_sem,Mb,S3];refine Vr (aDX l hl x) rfl ?_;rintro _ ⟨c,rfl,an⟩;refine⟨rfl,?_⟩;simp only[go_sem];exact s.bb rfl ⟨by simp only[ge_iff_le,an],rfl⟩
theorem aDZ (h:List cP)(ag:mz h=0)(ys ds:List Int)(y:Int):aK prog 324 [.aW 2 1 0 0,.int .i64 y] (lU h ys ds) (fun v rs=>v=np h y∧rs=lU h (ea y ys) ds):=by
 have cB:=(SO ag).1;have aD0:HV h y= .bg [np h y,.int .i64 (if pu y then 0 else 2)]:=by
  unfold HV np;rw[if_pos ag];split<;>rfl
 have gB:=H4 h y;have ae:dp (.int .i64 y) (np h y) (cX (np h) ys)=cX (np h) (ea y ys):=ML;refine cr func324 aeK (by simp[HA,MM]) ?_
 by_cases hm:y∈ys
 ·have aw:ea y ys=ys:=by unfold ea;rw[if_pos hm]
  rw[aw];simp only[go_sem,HA,MM,lU,hm];exact s.U ⟨rfl,rfl⟩
 ·simp only[go_sem,HA,MM,lU,hm];have rB:=aCH h (by omega) y;rw[aD0] at rB;refine bH rB rfl (by simp[bE,bP,gB]) ?_;simp only[go_sem,gB,ae];exact s.U ⟨rfl,rfl⟩
theorem aD1 (f:Nat→Nat)(h:List cP)(y:Int):dI f (np h y)=np h y:=uL _ _ (H4 h y)
attribute [go_sem] aD1 H4
theorem aD2 (h:List cP)(ag:mz h=0)(y o:Int):aK prog 323 [np h y,.int .i64 o] [] (fun v rs=>v= .bool (decide (o∈BZ h y))∧rs= []):=by
 unfold np BZ
 by_cases bl:pu y
 ·rw[if_pos bl,if_pos bl];have:=aDT h y y (SO ag).1 bl.1 bl.2;exact agU _ (by omega) o
 ·rw[if_neg bl,if_neg bl];exact (agU [] (by simp) o).le (by simp[hs,le,cC])
def oC (h:List cP)(a o:Int)(k:Nat):Bool:=(List.range k).any fun (j:Nat)=>decide (o∈BZ h (a+j))
theorem MN (h:List cP)(a o:Int)(k:Nat):oC h a o (k+1)=(oC h a o k||decide (o∈BZ h (a+k))):=by
 unfold oC;rw[List.range_succ,List.any_append];simp
theorem aD3 {h:List cP}{a o:Int}{k m:Nat}(I:k≤m)(aw:oC h a o k=true):oC h a o m=true:=by
 unfold oC at *;rw[List.any_eq_true] at *;obtain⟨j,aT,B⟩:=aw;rw[List.mem_range] at aT;exact⟨j,by rw[List.mem_range];omega,B⟩
theorem aD4 {h:List cP}{o:Int}(aq:ti o):kG h o=oC h (eK o-1) o 3:=by
 unfold kG;simp only[aq,decide_true,Bool.true_and];rw[show (3:Nat)=0+1+1+1 from rfl,MN,MN,MN];have iT:oC h (eK o-1) o 0=false:=rfl;rw[iT,Bool.false_or];rw[show eK o-1+((0:Nat):Int)=eK o-1 by omega,show eK o-1+((0+1:Nat):Int)=eK o by omega,show eK o-1+((0+1+1:Nat):Int)=eK o+1 by omega]
theorem agV (h:List cP)(ag:mz h=0)(ys ds:List Int)(o:Int):aK prog 260 [.aW 2 1 0 0,.int .i64 o] (lU h ys ds) (fun v rs=>v= .bool (kG h o)∧ ∃ ys' ds',rs=lU h ys' ds'):=by
 have ae:dp (.int .i64 o) (.bool (kG h o)) (cX (fun o=> .bool (kG h o)) ds)=cX (fun o=> .bool (kG h o)) (ea o ds):=ML (f:=fun o=> .bool (kG h o));refine cr func260 aep (by simp[zv,B0]) ?_
 by_cases hm:o∈ds
 ·simp only[go_sem,zv,B0,lU,hm];exact s.U ⟨rfl,ys,ds,rfl⟩
 simp only[go_sem,zv,B0,lU,hm];refine bH (aCJ o) rfl (by split<;>rfl) ?_
 by_cases aq:ti o
 rotate_left
 ·have aS:kG h o=false:=by unfold kG;simp[aq]
  rw[if_neg aq];rw[aS] at ae ⊢;simp only[go_sem,ae];exact s.U ⟨rfl,ys,ea o ds,rfl⟩
 rw[if_pos aq];have uw:=agv aq.1 (by have:=aq.2;omega);have aIR:1970≤eK o∧eK o≤2240:=⟨uw.2.2.1,uw.2.2.2⟩;have cW:IntKind.i64.wrap (eK o-1)=eK o-1:=bf (by omega) (by omega);have gg:IntKind.i64.wrap (eK o+1)=eK o+1:=bf (by omega) (by omega);simp only[go_sem,cW];refine dR (fun r d=> ∃ (k:Nat) (ys':List Int),k≤3∧r= [(0,.aW 2 1 0 0),(1,.int .i64 o),(7,.bool (oC h (eK o-1) o k)),(8,.int .i64 (eK o)),(12,.int .i64 (eK o-1+k))]∧d=lU h ys' ds)
  (fun r _=>match bn r 12 with| .int _ j=>(eK o+2-j).toNat|_=>0) ?_ ?_
 ·exact s.U ⟨0,ys,by omega,by simp[oC],rfl⟩
 ·rintro r d ⟨k,ys',I,rfl,rfl⟩;have mV:IntKind.i64.wrap (eK o-1+k+1)=eK o-1+(k+1:Nat):=by rw[bf (by omega) (by omega)];omega
  by_cases ao:k < 3∧oC h (eK o-1) o k=false
  ·obtain⟨vx,aw⟩:=ao;have ed:eK o-1+(k:Int)≤eK o+1:=by omega
   have ak:=MN h (eK o-1) o k;rw[aw,Bool.false_or] at ak;simp only[go_sem,zv,B0,lU,gg,ed,aw]
   (refine eY [0,1,2] (aDZ h ag ys' ds (eK o-1+k)) ?_;rintro _ _ ⟨rfl,rfl⟩;simp only[go_sem])
   refine bH (aD2 h ag _ o) (by simp[bP,H4,bE]) rfl ?_;simp only[go_sem,mV,lU];refine s.U ⟨⟨k+1,ea (eK o-1+k) ys',by omega,by rw[ak],rfl⟩,?_⟩;simp only[go_sem];omega
  ·have mo:oC h (eK o-1) o k=kG h o:=by
    rw[aD4 aq]
    by_cases vx:k=3
    ·rw[vx]
    ·have aw:oC h (eK o-1) o k=true:=by
      cases ad:oC h (eK o-1) o k
      ·exact absurd ⟨by omega,ad⟩ ao
      ·rfl
     rw[aw,aD3 I aw]
   have KW: (decide (eK o-1+(k:Int)≤eK o+1)&& !(oC h (eK o-1) o k))=false:=by
    by_cases vx:k=3
    ·subst vx;simp;omega
    ·have aw:oC h (eK o-1) o k=true:=by
      cases ad:oC h (eK o-1) o k
      ·exact absurd ⟨by omega,ad⟩ ao
      ·rfl
     rw[aw];simp
   rw[mo] at KW ⊢
   by_cases ed:eK o-1+(k:Int)≤eK o+1
   ·have hh:kG h o=true:=by simpa[ed] using KW
    rw[hh] at ae ⊢;simp only[go_sem,zv,B0,lU,gg,ed,ae];exact s.U ⟨rfl,ys',ea o ds,rfl⟩
   ·simp only[go_sem,zv,B0,lU,gg,ed,ae];exact s.U ⟨rfl,ys',ea o ds,rfl⟩
structure dF where
 name:ByteArray
 hZ:ByteArray
 jE:Int
 J:Int
 T:Int
 hK:Int
 eC:Int
def dF.cells (p:dF):List z:= [.str p.name,.str p.hZ,.int .i64 p.jE,.int .i64 p.J,.int .i64 p.T,.int .i64 p.hK,.int .i64 p.eC]
instance:aG dF:=⟨dF.cells,7,fun _=>rfl,fun _=>rfl,fun _=>rfl⟩
theorem zR (p:dF):aG.F p= [.str p.name,.str p.hZ,.int .i64 p.jE,.int .i64 p.J,.int .i64 p.T,.int .i64 p.hK,.int .i64 p.eC]:=rfl
theorem aEs:aG.N dF=7:=rfl
attribute [go_sem] aEs
def H6 (n c:Int):Bool:=n.toNat.testBit c.toNat
theorem agY {n:Int}{c:Nat}(h0:0≤n)(h1:n < 9223372036854775808)(an:c≤63):ep .i64 (Jk .i64 n c) 1=if H6 n c then 1 else 0:=by
 obtain⟨m,rfl⟩: ∃ m:Nat,n=m:=⟨n.toNat,by omega⟩;have hm:m / 2^c≤m:=Nat.div_le_self _ _;rw[apv (by omega),show (1:Int)=((1:Nat):Int) from rfl,aps (by omega) (by omega)];unfold H6;rw[Int.toNat_natCast,Int.toNat_natCast,Nat.testBit,Nat.shiftRight_eq_div_pow,Nat.and_comm];have B:1&&& m / 2^c=0∨1&&& m / 2^c=1:=by
  rw[Nat.and_comm,Nat.and_one_is_mod];omega
 rcases B with B|B<;>rw[B]<;>rfl
def MV (w:dF)(time zT:Int)(sh:Bool):Bool:=
 (if w.T≤w.J then decide (w.J≤time)||decide (time < w.T) else decide (w.J≤time)&&decide (time < w.T))&&H6 w.hK zT&&(if w.eC=1 then sh else if w.eC=2 then !sh else true)
theorem aEq (w:dF)(Ex:0≤w.hK)(cW:w.hK≤127)(time zT:Int)(sh:Bool)(h0:0≤zT)(h1:zT≤6):
 aK prog 202 [.agg (aG.F w),.agg [.int .i64 time,.int .i64 zT,.bool sh]] [] (fun v rs=>v= .bool (MV w time zT sh)∧rs= []):=by
 have Z:=agY (n:=w.hK) (c:=zT.toNat) Ex (by omega) (by omega);rw[Int.toNat_of_nonneg h0] at Z;refine cr func202 adA (by simp[Ht,M3]) ?_;simp only[go_sem,Ht,M3,zR];cases xr:H6 w.hK zT<;>rw[xr] at Z<;>simp only[Bool.false_eq_true,if_false,if_true] at Z
 all_goals (repeat' ((first|refine gF ?_ ?_|refine gP ?_ ?_|refine cg ?_ ?_|refine dg ?_ ?_)<;>intro ao<;>(have ae:=ao;try simp only[bA] at ae)<;>(first|omega| (simp only[go_sem,ao,Ht,M3,Z,h0];clear ao))))
 all_goals (try (refine s.bb rfl ⟨congrArg z.bool ?_,rfl⟩))
 all_goals (try simp only[bA] at *)
 all_goals (unfold MV;simp only[xr, *,if_true,if_false,Bool.and_false,Bool.false_and,Bool.true_and,Bool.and_true,decide_true,decide_false,Bool.or_true,Bool.true_or])
 all_goals (first|done| (split<;>simp<;>omega)| (simp<;>omega))
end Go.Proofs.YtpincjkjoeopkaaGreatDoor.Pm
