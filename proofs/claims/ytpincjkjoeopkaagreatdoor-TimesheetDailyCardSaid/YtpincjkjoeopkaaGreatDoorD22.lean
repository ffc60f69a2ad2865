/- Calendar and premiums. -/
import Derived.Test.YtpincjkjoeopkaaGreatDoorD21
import Derived.Test.YtpincjkjoeopkaaGreatDoorD18
set_option linter.all false
namespace Go.Proofs.YtpincjkjoeopkaaGreatDoor.Pm
open Go Go.Abs Go.Proofs.Tryz
def jV (I:ByteArray)(c:Nat):Nat:=(I.data.getD c 0).toNat
def C9 (J:Nat):Bool:=(decide (97≤J)&&decide (J≤122))||(decide (48≤J)&&decide (J≤57))||decide (J=95)
def xc (I:ByteArray)(n:Nat):Bool:=(List.range n).all fun c=>C9 (jV I c)
def rO (I:ByteArray):Bool:=decide (1≤I.size)&&decide (I.size≤24)&&decide (97≤jV I 0)&&decide (jV I 0≤122)&&xc I I.size
theorem aFX (I:ByteArray)(n:Nat):xc I (n+1)=(xc I n&&C9 (jV I n)):=by
 unfold xc;rw[List.range_succ,List.all_append];simp
theorem aFY {I:ByteArray}{c n:Nat}(av:c < n)(h:C9 (jV I c)=false):xc I n=false:=by
 unfold xc;rw[List.all_eq_false];exact⟨c,List.mem_range.2 av,by simp[h]⟩
theorem CZ (I:ByteArray):aO prog 258 [.str I] [] (fun v rs=>v= .bool (rO I)∧rs= []):=by
 refine cu func258 afH (by simp[AH,Da]) ?_;have hb: ((I.data.getD 0 0).toNat:Int)=(jV I 0:Int):=rfl;unfold rO;simp only[go_sem,AH,Da]
 by_cases h1: (I.size:Int) < 1
 ·simp only[go_sem,h1];exact E.bg rfl ⟨by rw[show decide (1≤I.size)=false from decide_eq_false (by omega)];rfl,rfl⟩
 have ii: (0:Int) < I.size:=by omega
 by_cases G: (I.size:Int)>24
 ·simp only[go_sem,h1,G];exact E.bg rfl ⟨by rw[show decide (I.size≤24)=false by simp;omega];simp,rfl⟩
 simp only[go_sem,h1,G,ii,Int.toNat_zero,hb]
 by_cases au: (jV I 0:Int) < 97
 ·simp only[go_sem,au,ii,Int.toNat_zero,hb];exact E.bg rfl ⟨by rw[show decide (97≤jV I 0)=false by simp;omega];simp,rfl⟩
 simp only[go_sem,au,ii,Int.toNat_zero,hb]
 by_cases bv: (jV I 0:Int)>122
 ·simp only[go_sem,bv];exact E.bg rfl ⟨by rw[show decide (jV I 0≤122)=false by simp;omega];simp,rfl⟩
 simp only[go_sem,bv];have aj: (decide (1≤I.size)&&decide (I.size≤24)&&decide (97≤jV I 0)&&decide (jV I 0≤122)&&xc I I.size)=xc I I.size:=by
  rw[show decide (1≤I.size)=true by simp;omega,show decide (I.size≤24)=true by simp;omega,show decide (97≤jV I 0)=true by simp;omega,show decide (jV I 0≤122)=true by simp;omega];simp
 rw[aj];refine dN (fun D r=> ∃ (c:Nat),c≤I.size∧xc I c=true∧D= [(0,.str I),(24,.int .i64 I.size),(25,.int .i64 c)]∧r= [])
  (fun D _=>match bs D 25 with| .int _ j=>(I.size-j).toNat|_=>0) ?_ ?_
 ·exact E.ac ⟨0,by omega,rfl,rfl,rfl⟩
 ·rintro D r ⟨c,av,hall,rfl,rfl⟩;have aP:=dB (c:=c) (by omega);simp only[go_sem,AH,Da];refine cf ?_ ?_<;>intro ct<;>simp only[bC] at ct<;>simp only[go_sem,AH,Da]
  ·have aI:c < I.size:=by omega
   have N3: ((I.data.getD c 0).toNat:Int)=(jV I c:Int):=rfl;have OX: (0:Int)≤c:=by omega
   have gm: (c:Int) < I.size:=by omega
   have ao:=aFX I c;rw[hall,Bool.true_and] at ao;simp only[go_sem,OX,gm,Int.toNat_natCast,N3];have aFZ:C9 (jV I c)=false→xc I I.size=false:=aFY aI
   by_cases n1:C9 (jV I c)=true
   ·rw[n1] at ao;unfold C9 at n1;have eo: ¬(((jV I c:Int) < 97∨(jV I c:Int)>122)∧((jV I c:Int) < 48∨(jV I c:Int)>57)∧(jV I c:Int)≠95):=by
     simp only[Bool.or_eq_true,Bool.and_eq_true,decide_eq_true_eq] at n1;omega
    repeat' ((first|refine gv ?_ ?_|refine gw ?_ ?_|refine cf ?_ ?_|refine dj ?_ ?_)<;>intro aw<;>(have ak:=aw;try simp only[bC] at ak)<;>(first|omega| (simp only[go_sem,aw,AH,Da,aP];clear aw)))
    all_goals (try simp only[bC] at *)
    all_goals first
     | (exfalso;omega)
     | (refine E.ac ⟨⟨c+1,by omega,ao,rfl,rfl⟩,?_⟩;simp only[go_sem];omega)
   ·have T3:=aFZ (by simpa using n1);rw[T3];unfold C9 at n1;have eo: ((jV I c:Int) < 97∨(jV I c:Int)>122)∧((jV I c:Int) < 48∨(jV I c:Int)>57)∧(jV I c:Int)≠95:=by
     simp only[Bool.or_eq_true,Bool.and_eq_true,decide_eq_true_eq] at n1;omega
    repeat' ((first|refine gv ?_ ?_|refine gw ?_ ?_|refine cf ?_ ?_|refine dj ?_ ?_)<;>intro aw<;>(have ak:=aw;try simp only[bC] at ak)<;>(first|omega| (simp only[go_sem,aw,AH,Da,aP];clear aw)))
    all_goals (try simp only[bC] at *)
    all_goals first
     | (exfalso;omega)
     |exact E.bg rfl ⟨rfl,rfl⟩
  ·obtain rfl:c=I.size:=by omega
   exact E.bg rfl ⟨by rw[hall],rfl⟩
def ez (a b:ByteArray):Bool:=a.toList==b.toList
def lW (w:dP):Bool:=ez w.ir ⟨#[]⟩
def A6 (w:dP):Bool:=rO w.name&&(lW w||rO w.ir)&&decide (0≤w.jU∧w.jU≤1000∧0≤w.R∧w.R < 1440∧0≤w.ab∧w.ab≤1440∧0≤w.ic∧w.ic≤127∧0≤w.eN∧w.eN≤2)
set_option maxHeartbeats 2000000 in
theorem aFT (w:dP):aO prog 199 [.agg (aJ.J w)] [] (fun v rs=>v= .bool (A6 w)∧rs= []):=by
 refine cu func199 aeR (by simp[pX,qX]) ?_;unfold A6;simp only[go_sem,pX,qX,A4];refine bM (CZ w.name) rfl rfl ?_
 by_cases h1:rO w.name=true
 rotate_left
 ·have ii:rO w.name=false:=by simpa using h1
  rw[ii];simp only[go_sem,pX,qX];exact E.bg rfl ⟨by simp,rfl⟩
 rw[h1];simp only[go_sem,pX,qX];have dp: (w.ir.toList==({data:= #[]}:ByteArray).toList)=lW w:=rfl;rw[dp]
 by_cases fS: (lW w||rO w.ir)=true
 rotate_left
 ·have G:lW w=false:=by
   cases h:lW w
   ·rfl
   ·rw[h] at fS;simp at fS
  have au:rO w.ir=false:=by
   cases h:rO w.ir
   ·rfl
   ·rw[h] at fS;simp at fS
  rw[G,au];simp only[go_sem,pX,qX];refine bM (CZ w.ir) rfl rfl ?_;rw[au];simp only[go_sem,pX,qX];exact E.bg rfl ⟨rfl,rfl⟩
 rw[fS,Bool.true_and]
 by_cases aA:0≤w.jU∧w.jU≤1000∧0≤w.R∧w.R < 1440∧0≤w.ab∧w.ab≤1440∧0≤w.ic∧w.ic≤127∧0≤w.eN∧w.eN≤2
 ·rw[decide_eq_true aA];obtain⟨bO,cd,fk,hB,jE,jF,Nk,IP,aF0,aiM⟩:=aA;have rh:w.jU≥0:=bO;have N5:w.R≥0:=fk;have N6:w.ab≥0:=jE;have aiN:w.ic≥0:=Nk;have aiO:w.eN≥0:=aF0;cases G:lW w
  ·rw[G,Bool.false_or] at fS;simp only[go_sem,pX,qX];refine bM (CZ w.ir) rfl rfl ?_;rw[fS];simp only[go_sem,pX,qX,rh,cd,N5,hB,N6,jF,aiN,IP,aiO,aiM];exact E.bg rfl ⟨rfl,rfl⟩
  ·simp only[go_sem,pX,qX,rh,cd,N5,hB,N6,jF,aiN,IP,aiO,aiM];exact E.bg rfl ⟨rfl,rfl⟩
 ·rw[decide_eq_false aA];cases G:lW w
  ·rw[G,Bool.false_or] at fS;simp only[go_sem,pX,qX];refine bM (CZ w.ir) rfl rfl ?_;rw[fS];simp only[go_sem,pX,qX]
   repeat' ((first|refine gv ?_ ?_|refine gw ?_ ?_|refine cf ?_ ?_|refine dj ?_ ?_)<;>intro aw<;>(have ak:=aw;try simp only[bC] at ak)<;>(first|omega| (simp only[go_sem,aw,pX,qX];clear aw)))
   all_goals (try simp only[bC] at *)
   all_goals first
    | (exfalso;omega)
    |exact E.bg rfl ⟨rfl,rfl⟩
    |exact E.bg rfl ⟨congrArg F.bool (decide_eq_false (by omega)),rfl⟩
  ·simp only[go_sem,pX,qX]
   repeat' ((first|refine gv ?_ ?_|refine gw ?_ ?_|refine cf ?_ ?_|refine dj ?_ ?_)<;>intro aw<;>(have ak:=aw;try simp only[bC] at ak)<;>(first|omega| (simp only[go_sem,aw,pX,qX];clear aw)))
   all_goals (try simp only[bC] at *)
   all_goals first
    | (exfalso;omega)
    |exact E.bg rfl ⟨rfl,rfl⟩
    |exact E.bg rfl ⟨congrArg F.bool (decide_eq_false (by omega)),rfl⟩
structure cF where
 ah:Int
 R:Int
 ab:Int
 ep:ByteArray
def cF.cells (p:cF):List F:= [.int .i64 p.ah,.int .i64 p.R,.int .i64 p.ab,.str p.ep]
instance:aJ cF:=⟨cF.cells,4,fun _=>rfl,fun _=>rfl,fun _=>rfl⟩
theorem Ah (p:cF):aJ.J p= [.int .i64 p.ah,.int .i64 p.R,.int .i64 p.ab,.str p.ep]:=rfl
theorem Tq:aJ.U cF=4:=rfl
attribute [go_sem] Tq
def oE (p:cF):Prop:=0≤p.ah∧p.ah≤84005∧0≤p.R∧p.R < p.ab∧p.ab≤120968640
instance (p:cF):Decidable (oE p):=inferInstanceAs (Decidable (_∧_))
def nn (l:List cF):Int:=(l.map fun p=>p.ab-p.R).sum
def vi (l:List cF):Int:=if 4096 < l.length then 3 else if ∀ p∈l,oE p then (if 100000 < nn l then 3 else 0) else 1
theorem aiP {l:List cF}{c:Nat}(h:c < l.length):nn (l.take (c+1))=nn (l.take c)+(l[c].ab-l[c].R):=by
 unfold nn;rw[List.take_succ_eq_append_getElem h,List.map_append,List.sum_append];simp
theorem Ug {l:List cF}: ∀ {c:Nat},c≤l.length→(∀ j (h:j < l.length),j < c→oE l[j])→0≤nn (l.take c)∧nn (l.take c)≤120968640*c
 |0,_,_=>by simp[nn]
 |c+1,av,h=>by
  have ih:=Ug (l:=l) (c:=c) (by omega) fun j aX lL=>h j aX (by omega);have:=h c (by omega) (by omega);unfold oE at this;rw[aiP (by omega)];omega
theorem aFP (l:List cF)(hl:l.length≤1000000):aO prog 114 [.pure 4 (ai l)] [] (fun v rs=>v= .int .i64 (vi l)∧rs= []):=by
 refine cu func114 adF (by simp[yC,A7]) ?_;unfold vi;simp only[go_sem,yC,A7]
 by_cases h1: (l.length:Int)>4096
 ·simp only[go_sem,h1];exact E.bg rfl ⟨by rw[if_pos (by omega)],rfl⟩
 simp only[go_sem,h1];rw[if_neg (by omega)];refine dN (fun D r=> ∃ (c:Nat),c≤l.length∧(∀ j (h:j < l.length),j < c→oE l[j])∧D= [(3,.int .i64 (nn (l.take c))),(9,.pure 4 (ai l)),(10,.int .i64 l.length),(11,.int .i64 c)]∧r= [])
  (fun D _=>match bs D 11 with| .int _ j=>(l.length-j).toNat|_=>0) ?_ ?_
 ·exact E.ac ⟨0,by omega,fun j _ h=>by omega,by simp[nn],rfl⟩
 ·rintro D r ⟨c,av,hall,rfl,rfl⟩;have aP:=dB (c:=c) (by omega);have RH:=Ug av hall;simp only[go_sem,yC,A7];refine cf ?_ ?_<;>intro ct<;>simp only[bC] at ct<;>simp only[go_sem,yC,A7]
  ·have aI:c < l.length:=by omega
   refine⟨by omega,by omega,?_⟩
   try simp only[Int.toNat_natCast]
   rw[cT aI];have cn:=aiP aI;have qR: ¬oE l[c]→ ¬ ∀ p∈l,oE p:=fun h1 G=>h1 (G _ (List.getElem_mem aI));have dV:oE l[c]→ ∀ j (h:j < l.length),j < c+1→oE l[j]:=fun h1 j aX lL=>by
    by_cases e:j=c
    ·subst e;exact h1
    ·exact hall j aX (by omega)
   generalize l[c]=p at cn qR dV ⊢;simp only[go_sem,yC,A7,Ah]
   by_cases ak:oE p
   ·have hT:=ak;unfold oE at hT;obtain⟨bO,cd,fk,hB,jE⟩:=hT;have rh: ¬p.ah < 0:=by omega
    have aF1: ¬p.ah>84005:=by omega
    have N5: ¬p.R < 0:=by omega
    have aF2: ¬p.ab≤p.R:=by omega
    have N6: ¬p.ab>120968640:=by omega
    have jG:IntKind.i64.wrap (p.ab-p.R)=p.ab-p.R:=bl (by omega) (by omega);have jH:IntKind.i64.wrap (nn (l.take c)+(p.ab-p.R))=nn (l.take (c+1)):=by rw[bl (by omega) (by omega),cn]
    simp only[go_sem,yC,A7,rh,aF1,N5,aF2,N6,jG,jH,aP]
    (refine E.bB [] ?_;simp only[go_sem])
    refine E.ac ⟨⟨c+1,by omega,dV ak,rfl,rfl⟩,?_⟩;simp only[go_sem];omega
   ·rw[if_neg (qR ak)];unfold oE at ak
    repeat' ((first|refine gv ?_ ?_|refine gw ?_ ?_|refine cf ?_ ?_|refine dj ?_ ?_)<;>intro aw<;>(have ak:=aw;try simp only[bC] at ak)<;>(first|omega| (simp only[go_sem,aw,yC,A7];clear aw)))
    all_goals (try simp only[bC] at *)
    all_goals first
     | (exfalso;omega)
     |exact E.bg rfl ⟨rfl,rfl⟩
  ·obtain rfl:c=l.length:=by omega
   rw[List.take_length] at RH ⊢;rw[if_pos (fun p ak=>by obtain⟨j,aX,rfl⟩:=List.getElem_of_mem ak;exact hall j aX aX)]
   by_cases au:nn l>100000
   ·simp only[go_sem,au];exact E.bg rfl ⟨rfl,rfl⟩
   ·simp only[go_sem,au];exact E.bg rfl ⟨rfl,rfl⟩
def lG (M:cc)(t:Int):Int:=t+yf M t
theorem aFR {M:cc}(ba:fe M=0){t:Int}(h0:0≤t)(h1:t≤120968639): -840≤lG M t∧lG M t≤120969479:=by
 have:=Yk (wv ba) t;unfold jQ at this;unfold lG;omega
def Uh (M:cc)(h:List cX)(t:Int):List F:= [.int .i64 (lG M t%1440),.int .i64 ((lG M t / 1440+3)%7),.bool (lf h (lG M t / 1440))]
theorem aFH (M:cc)(ba:fe M=0)(h:List cX)(an:ng h=0)(ys ds:List Int)(t:Int)(h0:0≤t)(h1:t≤120968639):
 aO prog 201 [M.v,.bd 2 1 0 0,.int .i64 t] (mH h ys ds) (fun v rs=>v= .agg (Uh M h t)∧ ∃ ys' ds',rs=mH h ys' ds'):=by
 have hb:=aFR ba h0 h1;have hL:=Ym M ba t h0 h1;rw[show t+yf M t=lG M t from rfl] at hL;unfold Uh;refine cu func201 SJ (by simp[Ff,Iy]) ?_;simp only[go_sem,Ff,Iy,cc.v,mH];refine bM hL rfl rfl ?_;generalize lG M t=m at hb ⊢;obtain⟨c1,c2,c3⟩:=ahS (m / 1440);have bF: ((m / 1440).tmod 7+10).tmod 7=(m / 1440+3)%7:=by
  rw[Int.tmod_eq_emod_of_nonneg (by omega)];omega
 have bK:IntKind.i64.wrap ((m / 1440).tmod 7+10)=(m / 1440).tmod 7+10:=bl (by omega) (by omega);have gX:IntKind.i64.wrap (m / 1440*1440)=m / 1440*1440:=bl (by omega) (by omega);have rt:IntKind.i64.wrap (m-m / 1440*1440)=m%1440:=by rw[bl (by omega) (by omega)];omega
 simp only[go_sem];refine⟨by decide,by decide,?_⟩
 by_cases hm:m < 0
 ·have N:m.tmod 1440=m:=by
   rw[Int.tmod_eq_emod];rw[if_neg (by omega)];have: ((1440:Int).natAbs:Int)=1440:=rfl;omega
  have aV:m.tdiv 1440=0:=by
   have:=Int.mul_tdiv_add_tmod m 1440;omega
  have ay:m / 1440= -1:=by omega
  rw[ay] at bF bK gX rt ⊢;rw[N,aV];have iI:IntKind.i64.wrap (IntKind.i64.wrap 0-1)= -1:=by decide
  simp only[go_sem,hm,iI,bF,bK,gX,rt];refine⟨by decide,by decide,?_⟩
  (refine fy [0,1,2] (ail h an ys ds (-1)) ?_;rintro _ _ ⟨rfl,ys',ds',rfl⟩;simp only[go_sem])
  simp only[go_sem,mH]
  (refine E.bB [some 0,some 1,some 2] ?_;simp only[go_sem])
  exact E.ac ⟨rfl,ys',ds',rfl⟩
 ·have aV:m.tdiv 1440=m / 1440:=Int.tdiv_eq_ediv_of_nonneg (by omega);have N:m.tmod 1440=m%1440:=Int.tmod_eq_emod_of_nonneg (by omega);have aH: ¬m%1440 < 0:=by omega
  have iI:IntKind.i64.wrap (m / 1440)=m / 1440:=bl (by omega) (by omega);rw[N,aV];simp only[go_sem,aH,iI,bF,bK,gX,rt];refine⟨by decide,by decide,?_⟩
  (refine fy [0,1,2] (ail h an ys ds (m / 1440)) ?_;rintro _ _ ⟨rfl,ys',ds',rfl⟩;simp only[go_sem])
  simp only[go_sem,mH]
  (refine E.bB [some 0,some 1,some 2] ?_;simp only[go_sem])
  exact E.ac ⟨rfl,ys',ds',rfl⟩
def qW (al:List dP):Bool:=al.all A6
def vm (M:cc)(h:List cX)(al:List dP):Int:=if fe M=0 then (if ng h=0 then (if 16 < al.length then 3 else if qW al=true then 0 else 1) else ng h) else fe M
theorem agv (M:cc)(h:List cX)(hl:h.length≤9223372036854775806)(al:List dP)(aP:al.length≤1000000):aO prog 113 [M.v,.pure 6 (ai h),.pure 7 (ai al)] [] (fun v rs=>v= .int .i64 (vm M h al)∧rs= []):=by
 refine cu func113 adE (by simp[CQ,F1]) ?_;unfold vm;simp only[go_sem,CQ,F1,cc.v];refine bM (Ch M) rfl rfl ?_;simp only[go_sem]
 by_cases ba:fe M=0
 rotate_left
 ·have aFS: (fe M != 0)=true:=by simp[ba]
  simp only[go_sem,aFS];exact E.bg rfl ⟨by rw[if_neg ba],rfl⟩
 rw[ba,if_pos rfl];simp only[go_sem];refine bM (ahQ h hl) rfl rfl ?_;simp only[go_sem]
 by_cases an:ng h=0
 rotate_left
 ·have df: (ng h != 0)=true:=by simp[an]
  simp only[go_sem,df];exact E.bg rfl ⟨by rw[if_neg an],rfl⟩
 rw[an,if_pos rfl];simp only[go_sem]
 by_cases h1: (al.length:Int)>16
 ·simp only[go_sem,h1];exact E.bg rfl ⟨by rw[if_pos (by omega)],rfl⟩
 simp only[go_sem,h1];rw[if_neg (by omega)];refine dN (fun D r=> ∃ (c:Nat),c≤al.length∧qW al=qW (al.drop c)∧D= [(24,.pure 7 (ai al)),(25,.int .i64 al.length),(26,.int .i64 c)]∧r= [])
  (fun D _=>match bs D 26 with| .int _ j=>(al.length-j).toNat|_=>0) ?_ ?_
 ·(refine E.bB [] ?_;simp only[go_sem])
  exact E.ac ⟨0,by omega,by simp,rfl,rfl⟩
 ·rintro D r ⟨c,av,hb,rfl,rfl⟩;simp only[go_sem,CQ,F1];refine cf ?_ ?_<;>intro ct<;>simp only[bC] at ct<;>simp only[go_sem,CQ,F1]
  ·have aI:c < al.length:=by omega
   refine⟨by omega,by omega,?_⟩
   try simp only[Int.toNat_natCast]
   rw[cT aI];rw[List.drop_eq_getElem_cons aI,qW,qW,List.all_cons] at hb;generalize al[c]=p at hb ⊢;have aP:=dB (c:=c) (by omega);simp only[go_sem,CQ,F1,A4];refine bM (aFT p) rfl rfl ?_;simp only[go_sem];cases ak:A6 p
   ·simp only[go_sem];exact E.bg rfl ⟨by rw[if_neg (by rw[qW,hb,ak];simp)],rfl⟩
   ·simp only[go_sem,aP]
    (refine E.bB [] ?_;simp only[go_sem])
    refine E.ac ⟨⟨c+1,by omega,?_,rfl,rfl⟩,?_⟩
    ·rw[qW,hb,ak,Bool.true_and,qW]
    ·simp only[go_sem];omega
  ·have yF:c=al.length:=by omega
   rw[yF,List.drop_length] at hb;exact E.bg rfl ⟨by rw[hb];rfl,rfl⟩
def NV (M:cc)(h:List cX)(w:dP)(t:Int):Bool:=NW w (lG M t%1440) ((lG M t / 1440+3)%7) (lf h (lG M t / 1440))
theorem Sl {M:cc}{h:List cX}{al:List dP}(an:vm M h al=0):fe M=0∧ng h=0∧al.length≤16∧qW al=true:=by
 unfold vm at an;split at an
 ·split at an
  ·split at an
   ·cases an
   ·split at an
    ·exact⟨by assumption,by assumption,by omega,by assumption⟩
    ·cases an
  ·exact absurd an (by assumption)
 ·exact absurd an (by assumption)
theorem aFD {w:dP}(h:A6 w=true):0≤w.ic∧w.ic≤127:=by
 unfold A6 at h;simp only[Bool.and_eq_true,decide_eq_true_eq] at h;omega
def sO (f:Nat→Bool):Nat→Nat
 |0=>0
 |n+1=>if f n then sO f n|||2^n else sO f n
theorem T9 (f:Nat→Bool)(j:Nat): ∀ n,(sO f n).testBit j=(decide (j < n)&&f j)
 |0=>by simp[sO]
 |n+1=>by
  have ih:=T9 f j n;rw[sO]
  by_cases aX:j=n
  ·subst aX;have h0: (decide (j < j)&&f j)=false:=by simp
   split
   ·rename_i h;simp[Nat.testBit_or,ih,h,Nat.testBit_two_pow]
   ·rename_i h;simp[ih,h]
  ·have h1:decide (j < n+1)=decide (j < n):=by simp;omega
   split
   ·rw[Nat.testBit_or,ih,h1,Nat.testBit_two_pow,show decide (n=j)=false by simp;omega,Bool.or_false]
   ·rw[ih,h1]
theorem aim (f:Nat→Bool): ∀ n,sO f n < 2^n
 |0=>by simp[sO]
 |n+1=>by
  have ih:=aim f n;rw[sO];split
  ·exact Nat.or_lt_two_pow (Nat.lt_of_lt_of_le ih (Nat.pow_le_pow_right (by omega) (by omega))) (Nat.pow_lt_pow_right (by omega) (by omega))
  ·exact Nat.lt_of_lt_of_le ih (Nat.pow_le_pow_right (by omega) (by omega))
theorem NR (f:Nat→Bool){n:Nat}(aH:n≤16):sO f n < 65536:=Nat.lt_of_lt_of_le (aim f n) (Nat.pow_le_pow_right (n:=2) (by omega) aH)
theorem aFn {cs c:Nat}(h:cs < 65536)(av:c < 16):cs|||2^c < 65536:=Nat.or_lt_two_pow (n:=16) h (Nat.pow_lt_pow_right (a:=2) (by omega) av)
theorem Ua {cs c:Nat}(h:cs < 65536)(av:c < 16):Kv .i64 (cs:Int) (BP .i64 1 c)=((cs|||2^c:Nat):Int):=by
 have G: (2:Nat)^c < 65536:=Nat.lt_of_lt_of_le (Nat.pow_lt_pow_right (a:=2) (by omega) av) (Nat.le_refl (2^16));generalize aw: (2:Nat)^c=X at G;rw[WO (by omega),show (1:Int)*2^c=((2^c:Nat):Int) by simp,aw,bl (by omega) (by omega),WM (by omega) (by omega)]
theorem ain {cs c:Nat}(h:cs < 65536)(av:c < 16):ep .i64 (Kx .i64 (cs:Int) c) 1=if cs.testBit c then 1 else 0:=by
 have:=aio (n:=(cs:Int)) (c:=c) (by omega) (by omega) (by omega);rw[this];unfold Jj;rw[Int.toNat_natCast,Int.toNat_natCast]
theorem FX {a b:ByteArray}:ez a b=true↔a.toList=b.toList:=by unfold ez;simp
theorem FI (a:ByteArray):ez a a=true:=FX.2 rfl
theorem FY {a b:ByteArray}(h:ez a b=true):ez b a=true:=FX.2 (FX.1 h).symm
theorem NS {a b J:ByteArray}(h:ez a b=true)(k:ez b J=true):ez a J=true:=FX.2 ((FX.1 h).trans (FX.1 k))
theorem Nz (a b:ByteArray):ez a b=ez b a:=by
 rw[Bool.eq_iff_iff];exact⟨FY,FY⟩
theorem Jk {a b J:ByteArray}(h:ez a b=true):ez a J=ez b J:=by
 rw[Bool.eq_iff_iff];exact⟨fun k=>NS (FY h) k,fun k=>NS h k⟩
def je:dP:=⟨⟨#[]⟩,⟨#[]⟩,0,0,0,0,0⟩
def fL (al:List dP)(c:Nat):dP:=(al[c]?).getD je
theorem Jl {al:List dP}{c:Nat}(h:c < al.length):fL al c=al[c]:=by simp[fL,h]
def A2 (al:List dP)(k c:Nat):Bool:=
 ez (fL al k).ir (fL al c).ir&&(decide ((fL al c).jU < (fL al k).jU)||(decide ((fL al k).jU=(fL al c).jU)&&decide (k < c)))
def aip (al:List dP)(J:Nat→Bool)(c:Nat):Bool:=J c&&(lW (fL al c)||(List.range al.length).all fun k=> !(J k&&A2 al k c))
def qT (l:List (ByteArray×Nat)):List (F×F):=l.map fun p=>(.str p.1,.int .i64 p.2)
def lF (l:List (ByteArray×Nat))(g:ByteArray):Option Nat:=(l.find? fun p=>ez g p.1).map (·.2)
def qe (g:ByteArray)(v:Nat):List (ByteArray×Nat)→List (ByteArray×Nat)
 | []=> [(g,v)]
 |p::aa=>if ez g p.1 then (g,v)::aa else p::qe g v aa
theorem NT (l:List (ByteArray×Nat)): (qT l).length=l.length:=by simp[qT]
theorem aiq: ∀ (l:List (ByteArray×Nat)),kh (qT l)=true
 | []=>_root_.id rfl
 |p::l=>by
  have:=aiq l;simp only[kh,qT,List.map_map,Bool.and_eq_true] at this ⊢;simp only[List.map_cons,bU,Function.comp_apply,bJ,Bool.true_and];exact this
theorem air {g:ByteArray}: ∀ {l:List (ByteArray×Nat)},dm (.str g) (qT l)=(lF l g).map fun v=> .int .i64 v
 | []=>_root_.id rfl
 |p::l=>by
  have ih:=air (g:=g) (l:=l);unfold qT lF at *;rw[List.map_cons,dm,List.find?_cons];have:fB (.str g) (.str p.1)=ez g p.1:=by simp[fB,cp,ed,ez]
  simp only[this];cases O:ez g p.1
  ·simpa using ih
  ·rfl
theorem ais {g:ByteArray}{v:Nat}: ∀ {l:List (ByteArray×Nat)},dy (.str g) (.int .i64 v) (qT l)=qT (qe g v l)
 | []=>_root_.id rfl
 |p::l=>by
  have ih:=ais (g:=g) (v:=v) (l:=l);unfold qT at *;rw[List.map_cons,dy,qe];have:fB (.str g) (.str p.1)=ez g p.1:=by simp[fB,cp,ed,ez]
  simp only[this];cases O:ez g p.1
  ·simp only[Bool.false_eq_true,if_false,List.map_cons,ih]
  ·rfl
theorem ait {g h:ByteArray}{v:Nat}: ∀ {l:List (ByteArray×Nat)},lF (qe g v l) h=if ez h g then some v else lF l h
 | []=>by
  unfold lF qe;cases hh:ez h g<;>simp[hh]
 |p::l=>by
  have ih:=ait (g:=g) (h:=h) (v:=v) (l:=l);unfold lF at *;rw[qe];cases O:ez g p.1
  ·simp only[Bool.false_eq_true,if_false,List.find?_cons];cases gj:ez h p.1
   ·exact ih
   ·have:ez h g=false:=by
     cases e:ez h g
     ·rfl
     ·rw[←Jk e,gj] at O;cases O
    simp[this]
  ·simp only[if_true,List.find?_cons];cases hh:ez h g
   ·have:ez h p.1=false:=by
     cases e:ez h p.1
     ·rfl
     ·have:=NS e (FY O);rw[hh] at this;cases this
    simp[this]
   ·simp
def yP (l:List (ByteArray×Nat)):Prop:=l.Pairwise fun p q=>ez p.1 q.1=false
theorem aiu {g:ByteArray}{v:Nat}{q:ByteArray×Nat}: ∀ {l:List (ByteArray×Nat)},q∈qe g v l→q=(g,v)∨q∈l
 | [],h=>by simpa[qe] using h
 |p::l,h=>by
  rw[qe] at h;split at h
  ·rcases List.mem_cons.1 h with h|h
   ·exact .inl h
   ·exact .inr (List.mem_cons_of_mem _ h)
  ·rcases List.mem_cons.1 h with h|h
   ·exact .inr (by rw[h];exact List.mem_cons_self)
   ·rcases aiu h with h|h
    ·exact .inl h
    ·exact .inr (List.mem_cons_of_mem _ h)
theorem Ub {g:ByteArray}{v:Nat}: ∀ {l:List (ByteArray×Nat)},yP l→yP (qe g v l)
 | [],_=>by simp[qe,yP]
 |p::l,h=>by
  unfold yP at h ⊢;rw[List.pairwise_cons] at h;rw[qe];split
  ·rename_i O;rw[List.pairwise_cons];exact⟨fun q aV=>by rw[Jk O];exact h.1 q aV,h.2⟩
  ·rename_i O;rw[List.pairwise_cons];refine⟨fun q aV=> ?_,Ub h.2⟩;rcases aiu aV with rfl|aV
   ·rw[Nz];simpa using O
   ·exact h.1 q aV
theorem Uc: ∀ {l:List (ByteArray×Nat)},yP l→ ∀ p∈l,lF l p.1=some p.2
 | [],_,p,ak=>by simp at ak
 |q::l,h,p,ak=>by
  unfold yP at h;rw[List.pairwise_cons] at h;unfold lF;rw[List.find?_cons];rcases List.mem_cons.1 ak with rfl|ak
  ·rw[FI];rfl
  ·have:=h.1 p ak;rw[Nz] at this;rw[this];exact Uc h.2 p ak
theorem aFo {l:List (ByteArray×Nat)}{g:ByteArray}{v:Nat}(h:lF l g=some v): ∃ p∈l,p.2=v:=by
 unfold lF at h;cases hf:l.find? fun p=>ez g p.1 with
 |none=>rw[hf] at h;cases h
 |some p=>
  rw[hf] at h;exact⟨p,List.mem_of_find?_eq_some hf,by simpa using h⟩
attribute [go_sem] aiq air
def A3 (al:List dP)(J:Nat→Bool)(g:ByteArray)(k:Nat):Prop:=J k=true∧lW (fL al k)=false∧ez g (fL al k).ir=true
def wY (al:List dP)(J:Nat→Bool)(g:ByteArray)(c:Nat):Option Nat→Prop
 |none=> ∀ k,k < c→ ¬A3 al J g k
 |some j=>j < c∧A3 al J g j∧ ∀ k,k < c→A3 al J g k→(fL al k).jU < (fL al j).jU∨((fL al k).jU=(fL al j).jU∧j≤k)
theorem NU {al:List dP}{J:Nat→Bool}{g:ByteArray}{c:Nat}{V:Option Nat}(h:wY al J g c V)(aH: ¬A3 al J g c):wY al J g (c+1) V:=by
 cases V with
 |none=>
  intro k O ad
  by_cases e:k=c
  ·subst e;exact aH ad
  ·exact h k (by omega) ad
 |some j=>
  obtain⟨h1,G,au⟩:=h;refine⟨by omega,G,fun k O ad=> ?_⟩
  by_cases e:k=c
  ·subst e;exact absurd ad aH
  ·exact au k (by omega) ad
theorem aFp {al:List dP}{J:Nat→Bool}{g:ByteArray}{c:Nat}(h:J c=true)(aH:lW (fL al c)=false):A3 al J g c↔ez g (fL al c).ir=true:=⟨fun k=>k.2.2,fun k=>⟨h,aH,k⟩⟩
theorem aFq {al:List dP}{J:Nat→Bool}{g:ByteArray}{c:Nat}{V:Option Nat}(h:wY al J g c V)(ad:A3 al J g c)(N: ∀ j,V=some j→(fL al j).jU < (fL al c).jU):wY al J g (c+1) (some c):=by
 refine⟨by omega,ad,fun k O mb=> ?_⟩
 by_cases e:k=c
 ·subst e;exact .inr ⟨rfl,Nat.le_refl _⟩
 ·cases V with
  |none=>exact absurd mb (h k (by omega))
  |some j=>
   have h1:=h.2.2 k (by omega) mb;have G:=N j rfl;omega
theorem aFr {al:List dP}{J:Nat→Bool}{g:ByteArray}{c j:Nat}(h:wY al J g c (some j))(N: ¬(fL al j).jU < (fL al c).jU):wY al J g (c+1) (some j):=by
 obtain⟨h1,G,au⟩:=h;refine⟨by omega,G,fun k O mb=> ?_⟩
 by_cases e:k=c
 ·subst e;omega
 ·exact au k (by omega) mb
theorem aFs {al:List dP}{J:Nat→Bool}{l:List (ByteArray×Nat)}(aC:yP l)(hb: ∀ g,wY al J g al.length (lF l g))(j:Nat):
 (∃ p∈l,p.2=j)↔(j < al.length∧J j=true∧lW (fL al j)=false∧((List.range al.length).all fun k=> !(J k&&A2 al k j))=true):=by
 rw[List.all_eq_true];constructor
 ·rintro⟨p,ak,rfl⟩;have h1:=hb p.1;rw[Uc aC p ak] at h1;obtain⟨G,⟨au,bv,cx⟩,dx⟩:=h1;refine⟨G,au,bv,fun k O=> ?_⟩;rw[List.mem_range] at O;cases mb:J k
  ·rfl
  ·cases yx:A2 al k p.2
   ·rfl
   ·unfold A2 at yx;simp only[Bool.and_eq_true,Bool.or_eq_true,decide_eq_true_eq] at yx;have aH:lW (fL al k)=false:=by
     rw[←bv];unfold lW;exact Jk yx.1
    have:=dx k O ⟨mb,aH,NS cx (FY yx.1)⟩;omega
 ·rintro⟨h1,G,au,bv⟩;have ad:A3 al J (fL al j).ir j:=⟨G,au,FI _⟩;have cx:=hb (fL al j).ir;cases bp:lF l (fL al j).ir with
  |none=>rw[bp] at cx;exact absurd ad (cx j h1)
  |some c=>
   rw[bp] at cx;obtain⟨bO,⟨cd,fk,hB⟩,jE⟩:=cx;have dx:=jE j h1 ad;have oN:=bv c (List.mem_range.2 bO);rw[cd,Bool.true_and] at oN;have Ia:A2 al c j=false:=by simpa using oN
   unfold A2 at Ia;rw[FY hB,Bool.true_and] at Ia;simp only[Bool.or_eq_false_iff,Bool.and_eq_false_iff,decide_eq_false_iff_not] at Ia;obtain rfl:c=j:=by omega
   exact aFo bp
theorem aFt {l:List (ByteArray×Nat)}{c:Nat}(h:c < l.length){B:F×F}: (qT l).getD c B=(.str l[c].1,.int .i64 l[c].2):=by
 rw[List.getD_eq_getElem?_getD,List.getElem?_eq_getElem (by rw[NT];exact h)];simp[qT]
def vx (al:List dP)(cs:Nat)(c:Nat):Nat:=sO (fun j=>cs.testBit j&&lW (fL al j)) c
def rM (al:List dP)(cs:Nat):Nat:=sO (aip al cs.testBit) al.length
theorem aFu {al:List dP}{cs aF:Nat}{l:List (ByteArray×Nat)}(dc: ∀ j,aF.testBit j=((vx al cs al.length).testBit j||l.any fun p=>p.2==j))
 (aC:yP l) (hb: ∀ g,wY al cs.testBit g al.length (lF l g)):aF=rM al cs:=by
 apply Nat.eq_of_testBit_eq;intro j;rw[dc,rM,T9,vx,T9];have h:=aFs aC hb j;have G: (l.any fun p=>p.2==j)=(decide (j < al.length)&&cs.testBit j&& !(lW (fL al j))&&(List.range al.length).all fun k=> !(cs.testBit k&&A2 al k j)):=by
  rw[Bool.eq_iff_iff,List.any_eq_true];simp only[beq_iff_eq];rw[h];simp only[Bool.and_eq_true,decide_eq_true_eq,Bool.not_eq_true',and_assoc]
 rw[G];unfold aip;generalize (List.range al.length).all (fun k=> !(cs.testBit k&&A2 al k j))=A;cases decide (j < al.length)<;>cases cs.testBit j<;>cases lW (fL al j)<;>cases A<;>rfl
theorem aFv (al:List dP)(aH:al.length≤16)(cs:Nat)(fS:cs < 65536):aO prog 203 [.pure 7 (ai al),.int .i64 cs] [] (fun v rs=>v= .int .i64 (rM al cs)∧rs= []):=by
 refine cu func203 aeU (by simp[pY,qU]) ?_;simp only[go_sem,pY,qU];refine dN (fun D r=> ∃ (c:Nat) (eO:List (ByteArray×Nat)),c≤al.length∧yP eO∧(∀ g,wY al cs.testBit g c (lF eO g))∧D= [(0,.pure 7 (ai al)),(1,.int .i64 cs),(5,.int .i64 (vx al cs c)),(6,.bE 0),(14,.pure 7 (ai al)),(15,.int .i64 al.length),(16,.int .i64 c)]∧r= [.be (.map false [.str] (qT eO))])
  (fun D _=>match bs D 16 with| .int _ j=>(al.length-j).toNat|_=>0) ?_ ?_
 ·exact E.ac ⟨0,[],by omega,List.Pairwise.nil,fun g k O=>by omega,rfl,rfl⟩
 ·rintro D r ⟨c,eO,av,jO,kX,rfl,rfl⟩;have aP:=dB (c:=c) (by omega);have dc:=NR (fun j=>cs.testBit j&&lW (fL al j)) (n:=c) (by omega);have rN:vx al cs (c+1)=if (cs.testBit c&&lW (fL al c))=true then vx al cs c|||2^c else vx al cs c:=rfl
  rw[show sO (fun j=>cs.testBit j&&lW (fL al j)) c=vx al cs c from rfl] at dc;simp only[go_sem,pY,qU];refine cf ?_ ?_<;>intro ct<;>simp only[bC] at ct<;>simp only[go_sem,pY,qU]
  ·have aI:c < al.length:=by omega
   refine⟨by omega,by omega,?_⟩
   try simp only[Int.toNat_natCast]
   rw[cT aI];have FZ:=ain fS (show c < 16 by omega);have uB:=Ua (cs:=vx al cs c) (c:=c) dc (by omega);have C7:=Jl aI;generalize al[c]=w at C7 ⊢;have nT: (0:Int)≤c:=by omega
   cases ad:cs.testBit c
   ·rw[ad] at FZ rN;simp only[Bool.false_eq_true,if_false,Bool.false_and] at FZ rN;simp only[go_sem,pY,qU,A4,nT,FZ,Int.toNat_natCast,aP]
    (refine E.bB [some 0] ?_;simp only[go_sem])
    refine E.ac ⟨⟨c+1,eO,by omega,jO,fun g=>NU (kX g) (fun h=> ?_),by rw[rN],rfl⟩,?_⟩
    ·have:=h.1;rw[ad] at this;cases this
    ·simp only[go_sem];omega
   ·rw[ad] at FZ rN;simp only[if_true,Bool.true_and] at FZ rN;simp only[go_sem,pY,qU,A4,nT,FZ,Int.toNat_natCast,aP];have rr: (w.ir.toList==({data:= #[]}:ByteArray).toList)=lW w:=rfl;rw[rr];rw[C7] at rN;cases wZ:lW w
    rotate_left
    ·rw[wZ] at rN;simp only[if_true] at rN;simp only[go_sem,pY,qU,nT,uB,Int.toNat_natCast,aP]
     (refine E.bB [some 0] ?_;simp only[go_sem])
     refine E.ac ⟨⟨c+1,eO,by omega,jO,fun g=>NU (kX g) (fun h=> ?_),by rw[rN],rfl⟩,?_⟩
     ·have:=h.2.1;rw[C7,wZ] at this;cases this
     ·simp only[go_sem];omega
    rw[wZ] at rN;simp only[Bool.false_eq_true,if_false] at rN;have Ud: ∀ g,A3 al cs.testBit g c↔ez g w.ir=true:=fun g=>by
     have:=aFp (al:=al) (J:=cs.testBit) (g:=g) ad (by rw[C7];exact wZ)
     rwa [C7] at this
    have Bo:dy (.str w.ir) (.int .i64 c) (qT eO)=qT (qe w.ir c eO):=ais;have bg: (∀ j,lF eO w.ir=some j→(fL al j).jU < w.jU)→ ∀ g,wY al cs.testBit g (c+1) (lF (qe w.ir c eO) g):=by
     intro N g;rw[ait];cases aw:ez g w.ir
     ·rw[if_neg (by simp)];exact NU (kX g) (fun h=>by have:=(Ud g).1 h;rw[aw] at this;cases this)
     ·rw[if_pos rfl];have h1:=kX g;have G:lF eO g=lF eO w.ir:=by
       unfold lF;congr 2;funext p;exact Jk aw
      refine aFq h1 ((Ud g).2 aw) (fun j aX=> ?_);rw[C7];exact N j (by rw[←G];exact aX)
    cases hw:lF eO w.ir with
    |none=>
     simp only[go_sem,pY,qU,hw,Option.map_none,Bo,aP]
     (refine E.bB [some 0] ?_;simp only[go_sem])
     refine E.ac ⟨⟨c+1,qe w.ir c eO,by omega,Ub jO,bg (fun j aX=>by rw[hw] at aX;cases aX),by rw[rN],rfl⟩,?_⟩;simp only[go_sem];omega
    |some j=>
     have NC:=kX w.ir;rw[hw] at NC;have nC:j < al.length:=by have:=NC.1;omega
     have I6:=Jl nC;have xz: (0:Int)≤j:=by omega
     have rh: (j:Int) < al.length:=by omega
     have jI: (ai al).getD j []=aJ.J (fL al j):=by rw[I6];exact cT nC
     simp only[go_sem,pY,qU,hw,Option.map_some,xz,rh,Int.toNat_natCast,jI,A4]
     by_cases N: (fL al j).jU < w.jU
     ·have cq:w.jU>(fL al j).jU:=N;simp only[go_sem,pY,qU,cq,Bo,aP]
      (refine E.bB [some 0] ?_;simp only[go_sem])
      refine E.ac ⟨⟨c+1,qe w.ir c eO,by omega,Ub jO,bg (fun aFw aX=>by have aiv:=aX;rw[hw] at aiv;obtain rfl:j=aFw:=(by simpa using aiv);exact N),by rw[rN],rfl⟩,?_⟩;simp only[go_sem];omega
     ·have cq: ¬w.jU>(fL al j).jU:=N;simp only[go_sem,pY,qU,cq,aP]
      (refine E.bB [some 0] ?_;simp only[go_sem])
      refine E.ac ⟨⟨c+1,eO,by omega,jO,fun g=> ?_,by rw[rN],rfl⟩,?_⟩
      ·cases aw:ez g w.ir
       ·exact NU (kX g) (fun h=>by have:=(Ud g).1 h;rw[aw] at this;cases this)
       ·have G:lF eO g=lF eO w.ir:=by
         unfold lF;congr 2;funext p;exact Jk aw
        have h1:=kX g;rw[G,hw] at h1 ⊢;exact aFr h1 (by rw[C7];exact N)
      ·simp only[go_sem];omega
  ·obtain rfl:c=al.length:=by omega
   have hval: ∀ p∈eO,p.2 < 16:=fun p ak=>by
    have:=kX p.1;rw[Uc jO p ak] at this;have:=this.1;omega
   refine dN (fun D r=> ∃ (bX:List Nat) (aF:Nat),bX.Nodup∧(∀ I∈bX,I < eO.length)∧aF < 65536∧(∀ j,aF.testBit j=((vx al cs al.length).testBit j||bX.any fun I=>(eO.getD I (⟨#[]⟩,0)).2==j))∧D= [(5,.int .i64 aF),(58,.fO 1 0)]∧r= [.be (.map false [.str] (qT eO)),.be (.eh eO.length bX)])
    (fun _ r=>match r with| [_,.be (.eh n I)]=>n-I.length|_=>0) ?_ ?_
   ·exact E.ac ⟨[],vx al cs al.length,by simp,by simp,dc,fun j=>by simp,rfl,by rw[NT]⟩
   ·rintro D r ⟨bX,aF,aFx,qC,nJ,aiw,rfl,rfl⟩;simp only[go_sem,pY,qU];unfold Pi sa;simp only[List.getElem?_cons_zero,List.getElem?_cons_succ];refine⟨(NT eO).symm,by decide,fun hall=> ?_,fun j aX Mb=> ?_⟩
    ·have mX:aF=rM al cs:=by
      refine aFu (l:=eO) (fun j=> ?_) jO kX;rw[aiw];congr 1;rw[Bool.eq_iff_iff,List.any_eq_true,List.any_eq_true];simp only[beq_iff_eq];constructor
      ·rintro⟨I,ao,h⟩;have fF:=qC I ao;refine⟨eO[I],List.getElem_mem fF,?_⟩;rw[←h];simp[fF]
      ·rintro⟨p,ak,h⟩;obtain⟨I,ao,rfl⟩:=List.getElem_of_mem ak;exact⟨I,hall I ao,by rw[←h];simp[ao]⟩
     simp only[go_sem,pY,qU];rw[mX];exact E.bg rfl ⟨rfl,rfl⟩
    ·have JT: (bX++ [j]).getLastD 0=j:=by simp
     have oo:j < eO.length:=aX;have eR:=aFt oo (B:=(.cj,.cj));have an:=hval _ (List.getElem_mem oo);have Ay: (bX++ [j]).Nodup:=by
      rw[List.nodup_append];exact⟨aFx,by simp,fun a aC b hb=>by rw[List.mem_singleton] at hb;subst hb;exact fun e=>Mb (e▸aC)⟩
     have H8: ∀ I∈bX++ [j],I < eO.length:=fun x aj=>by
      rcases List.mem_append.1 aj with aj|aj
      ·exact qC x aj
      ·rw[List.mem_singleton] at aj;subst aj;exact oo
     have fF: (bX++ [j]).length≤eO.length:=by
      have:=Ay.length_le_of_subset (l₂:=List.range eO.length) (fun x aj=>List.mem_range.2 (H8 x aj));simpa using this
     rw[List.length_append,List.length_singleton] at fF;have Al:=Ua (cs:=aF) (c:=eO[j].2) nJ an;have v0: (0:Int)≤eO[j].2:=by omega
     have jt: ∀ k,(aF|||2^eO[j].2).testBit k=((vx al cs al.length).testBit k||(bX++ [j]).any fun I=>(eO.getD I (⟨#[]⟩,0)).2==k):=by
      intro k;rw[Nat.testBit_or,aiw,List.any_append,Nat.testBit_two_pow,Bool.or_assoc];congr 2;rw[Bool.eq_iff_iff];simp[oo]
     have Cy:=aFn nJ an;simp only[go_sem,pY,qU,JT,eR,Al,v0,Int.toNat_natCast];refine⟨(NT eO).symm,by simp,oo,?_⟩;refine E.ac ⟨⟨bX++ [j],aF|||2^eO[j].2,Ay,H8,Cy,jt,rfl,rfl⟩,?_⟩;simp;omega
end Go.Proofs.YtpincjkjoeopkaaGreatDoor.Pm
