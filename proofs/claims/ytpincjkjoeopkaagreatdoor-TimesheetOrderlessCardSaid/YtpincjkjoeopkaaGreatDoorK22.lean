/- Calendar and premiums. -/
import Derived.Test.YtpincjkjoeopkaaGreatDoorK21
import Derived.Test.YtpincjkjoeopkaaGreatDoorK18
set_option linter.unusedSimpArgs false
set_option linter.unusedVariables false
set_option linter.unusedSectionVars false
namespace Go.Proofs.YtpincjkjoeopkaaGreatDoor.Pm
open Go Go.Abs Go.Proofs.Tryz
def jF (E:ByteArray)(c:Nat):Nat:=(E.data.getD c 0).toNat
def B3 (F:Nat):Bool:=(decide (97≤F)&&decide (F≤122))||(decide (48≤F)&&decide (F≤57))||decide (F=95)
def vS (E:ByteArray)(n:Nat):Bool:=(List.range n).all fun c=>B3 (jF E c)
def qY (E:ByteArray):Bool:=decide (1≤E.size)&&decide (E.size≤24)&&decide (97≤jF E 0)&&decide (jF E 0≤122)&&vS E E.size
theorem aEF (E:ByteArray)(n:Nat):vS E (n+1)=(vS E n&&B3 (jF E n)):=by
 unfold vS;rw[List.range_succ,List.all_append];simp
theorem aEG {E:ByteArray}{c n:Nat}(an:c < n)(h:B3 (jF E c)=false):vS E n=false:=by
 unfold vS;rw[List.all_eq_false];exact⟨c,List.mem_range.2 an,by simp[h]⟩
theorem BS (E:ByteArray):aK prog 258 [.str E] [] (fun v rs=>v= .bool (qY E)∧rs= []):=by
 refine cr func258 aeo (by simp[zu,B4]) ?_;have Z: ((E.data.getD 0 0).toNat:Int)=(jF E 0:Int):=rfl;unfold qY;simp only[go_sem,zu,B4]
 by_cases h1: (E.size:Int) < 1
 ·simp only[go_sem,h1];exact s.bb rfl ⟨by rw[show decide (1≤E.size)=false from decide_eq_false (by omega)];rfl,rfl⟩
 have hP: (0:Int) < E.size:=by omega
 by_cases B: (E.size:Int)>24
 ·simp only[go_sem,h1,B];exact s.bb rfl ⟨by rw[show decide (E.size≤24)=false by simp;omega];simp,rfl⟩
 simp only[go_sem,h1,B,hP,Int.toNat_zero,Z]
 by_cases am: (jF E 0:Int) < 97
 ·simp only[go_sem,am,hP,Int.toNat_zero,Z];exact s.bb rfl ⟨by rw[show decide (97≤jF E 0)=false by simp;omega];simp,rfl⟩
 simp only[go_sem,am,hP,Int.toNat_zero,Z]
 by_cases bp: (jF E 0:Int)>122
 ·simp only[go_sem,bp];exact s.bb rfl ⟨by rw[show decide (jF E 0≤122)=false by simp;omega];simp,rfl⟩
 simp only[go_sem,bp];have ad: (decide (1≤E.size)&&decide (E.size≤24)&&decide (97≤jF E 0)&&decide (jF E 0≤122)&&vS E E.size)=vS E E.size:=by
  rw[show decide (1≤E.size)=true by simp;omega,show decide (E.size≤24)=true by simp;omega,show decide (97≤jF E 0)=true by simp;omega,show decide (jF E 0≤122)=true by simp;omega];simp
 rw[ad];refine dR (fun r d=> ∃ (c:Nat),c≤E.size∧vS E c=true∧r= [(0,.str E),(24,.int .i64 E.size),(25,.int .i64 c)]∧d= [])
  (fun r _=>match bn r 25 with| .int _ j=>(E.size-j).toNat|_=>0) ?_ ?_
 ·exact s.U ⟨0,by omega,rfl,rfl,rfl⟩
 ·rintro r d ⟨c,an,hall,rfl,rfl⟩;have aR:=dr (c:=c) (by omega);simp only[go_sem,zu,B4];refine cg ?_ ?_<;>intro ck<;>simp only[bA] at ck<;>simp only[go_sem,zu,B4]
  ·have aC:c < E.size:=by omega
   have M2: ((E.data.getD c 0).toNat:Int)=(jF E c:Int):=rfl;have NW: (0:Int)≤c:=by omega
   have ge: (c:Int) < E.size:=by omega
   have ak:=aEF E c;rw[hall,Bool.true_and] at ak;simp only[go_sem,NW,ge,Int.toNat_natCast,M2];have aEH:B3 (jF E c)=false→vS E E.size=false:=aEG aC
   by_cases n1:B3 (jF E c)=true
   ·rw[n1] at ak;unfold B3 at n1;have ec: ¬(((jF E c:Int) < 97∨(jF E c:Int)>122)∧((jF E c:Int) < 48∨(jF E c:Int)>57)∧(jF E c:Int)≠95):=by
     simp only[Bool.or_eq_true,Bool.and_eq_true,decide_eq_true_eq] at n1;omega
    repeat' ((first|refine gF ?_ ?_|refine gP ?_ ?_|refine cg ?_ ?_|refine dg ?_ ?_)<;>intro ao<;>(have ae:=ao;try simp only[bA] at ae)<;>(first|omega| (simp only[go_sem,ao,zu,B4,aR];clear ao)))
    all_goals (try simp only[bA] at *)
    all_goals first
     | (exfalso;omega)
     | (refine s.U ⟨⟨c+1,by omega,ak,rfl,rfl⟩,?_⟩;simp only[go_sem];omega)
   ·have SY:=aEH (by simpa using n1);rw[SY];unfold B3 at n1;have ec: ((jF E c:Int) < 97∨(jF E c:Int)>122)∧((jF E c:Int) < 48∨(jF E c:Int)>57)∧(jF E c:Int)≠95:=by
     simp only[Bool.or_eq_true,Bool.and_eq_true,decide_eq_true_eq] at n1;omega
    repeat' ((first|refine gF ?_ ?_|refine gP ?_ ?_|refine cg ?_ ?_|refine dg ?_ ?_)<;>intro ao<;>(have ae:=ao;try simp only[bA] at ae)<;>(first|omega| (simp only[go_sem,ao,zu,B4,aR];clear ao)))
    all_goals (try simp only[bA] at *)
    all_goals first
     | (exfalso;omega)
     |exact s.bb rfl ⟨rfl,rfl⟩
  ·obtain rfl:c=E.size:=by omega
   exact s.bb rfl ⟨by rw[hall],rfl⟩
def eo (a b:ByteArray):Bool:=a.toList==b.toList
def lr (w:dF):Bool:=eo w.hZ ⟨#[]⟩
def zU (w:dF):Bool:=qY w.name&&(lr w||qY w.hZ)&&decide (0≤w.jE∧w.jE≤1000∧0≤w.J∧w.J < 1440∧0≤w.T∧w.T≤1440∧0≤w.hK∧w.hK≤127∧0≤w.eC∧w.eC≤2)
set_option maxHeartbeats 2000000 in
theorem aEB (w:dF):aK prog 199 [.agg (aG.F w)] [] (fun v rs=>v= .bool (zU w)∧rs= []):=by
 refine cr func199 ady (by simp[po,qp]) ?_;unfold zU;simp only[go_sem,po,qp,zR];refine bH (BS w.name) rfl rfl ?_
 by_cases h1:qY w.name=true
 rotate_left
 ·have hP:qY w.name=false:=by simpa using h1
  rw[hP];simp only[go_sem,po,qp];exact s.bb rfl ⟨by simp,rfl⟩
 rw[h1];simp only[go_sem,po,qp];have cY: (w.hZ.toList==({data:= #[]}:ByteArray).toList)=lr w:=rfl;rw[cY]
 by_cases fu: (lr w||qY w.hZ)=true
 rotate_left
 ·have B:lr w=false:=by
   cases h:lr w
   ·rfl
   ·rw[h] at fu;simp at fu
  have am:qY w.hZ=false:=by
   cases h:qY w.hZ
   ·rfl
   ·rw[h] at fu;simp at fu
  rw[B,am];simp only[go_sem,po,qp];refine bH (BS w.hZ) rfl rfl ?_;rw[am];simp only[go_sem,po,qp];exact s.bb rfl ⟨rfl,rfl⟩
 rw[fu,Bool.true_and]
 by_cases ar:0≤w.jE∧w.jE≤1000∧0≤w.J∧w.J < 1440∧0≤w.T∧w.T≤1440∧0≤w.hK∧w.hK≤127∧0≤w.eC∧w.eC≤2
 ·rw[decide_eq_true ar];obtain⟨bI,ca,fc,hi,jr,js,Mf,HD,aEI,ahv⟩:=ar;have qy:w.jE≥0:=bI;have M4:w.J≥0:=fc;have M5:w.T≥0:=jr;have ahw:w.hK≥0:=Mf;have ahx:w.eC≥0:=aEI;cases B:lr w
  ·rw[B,Bool.false_or] at fu;simp only[go_sem,po,qp];refine bH (BS w.hZ) rfl rfl ?_;rw[fu];simp only[go_sem,po,qp,qy,ca,M4,hi,M5,js,ahw,HD,ahx,ahv];exact s.bb rfl ⟨rfl,rfl⟩
  ·simp only[go_sem,po,qp,qy,ca,M4,hi,M5,js,ahw,HD,ahx,ahv];exact s.bb rfl ⟨rfl,rfl⟩
 ·rw[decide_eq_false ar];cases B:lr w
  ·rw[B,Bool.false_or] at fu;simp only[go_sem,po,qp];refine bH (BS w.hZ) rfl rfl ?_;rw[fu];simp only[go_sem,po,qp]
   repeat' ((first|refine gF ?_ ?_|refine gP ?_ ?_|refine cg ?_ ?_|refine dg ?_ ?_)<;>intro ao<;>(have ae:=ao;try simp only[bA] at ae)<;>(first|omega| (simp only[go_sem,ao,po,qp];clear ao)))
   all_goals (try simp only[bA] at *)
   all_goals first
    | (exfalso;omega)
    |exact s.bb rfl ⟨rfl,rfl⟩
    |exact s.bb rfl ⟨congrArg z.bool (decide_eq_false (by omega)),rfl⟩
  ·simp only[go_sem,po,qp]
   repeat' ((first|refine gF ?_ ?_|refine gP ?_ ?_|refine cg ?_ ?_|refine dg ?_ ?_)<;>intro ao<;>(have ae:=ao;try simp only[bA] at ae)<;>(first|omega| (simp only[go_sem,ao,po,qp];clear ao)))
   all_goals (try simp only[bA] at *)
   all_goals first
    | (exfalso;omega)
    |exact s.bb rfl ⟨rfl,rfl⟩
    |exact s.bb rfl ⟨congrArg z.bool (decide_eq_false (by omega)),rfl⟩
structure cx where
 ab:Int
 J:Int
 T:Int
 ep:ByteArray
def cx.cells (p:cx):List z:= [.int .i64 p.ab,.int .i64 p.J,.int .i64 p.T,.str p.ep]
instance:aG cx:=⟨cx.cells,4,fun _=>rfl,fun _=>rfl,fun _=>rfl⟩
theorem yY (p:cx):aG.F p= [.int .i64 p.ab,.int .i64 p.J,.int .i64 p.T,.str p.ep]:=rfl
theorem Si:aG.N cx=4:=rfl
attribute [go_sem] Si
def nL (p:cx):Prop:=0≤p.ab∧p.ab≤84005∧0≤p.J∧p.J < p.T∧p.T≤120968640
instance (p:cx):Decidable (nL p):=inferInstanceAs (Decidable (_∧_))
def mG (l:List cx):Int:=(l.map fun p=>p.T-p.J).sum
def uh (l:List cx):Int:=if 4096 < l.length then 3 else if ∀ p∈l,nL p then (if 100000 < mG l then 3 else 0) else 1
theorem ahy {l:List cx}{c:Nat}(h:c < l.length):mG (l.take (c+1))=mG (l.take c)+(l[c].T-l[c].J):=by
 unfold mG;rw[List.take_succ_eq_append_getElem h,List.map_append,List.sum_append];simp
theorem Tb {l:List cx}: ∀ {c:Nat},c≤l.length→(∀ j (h:j < l.length),j < c→nL l[j])→0≤mG (l.take c)∧mG (l.take c)≤120968640*c
 |0,_,_=>by simp[mG]
 |c+1,an,h=>by
  have ih:=Tb (l:=l) (c:=c) (by omega) fun j aT ml=>h j aT (by omega);have:=h c (by omega) (by omega);unfold nL at this;rw[ahy (by omega)];omega
theorem aEx (l:List cx)(hl:l.length≤1000000):aK prog 114 [.pure 4 (ac l)] [] (fun v rs=>v= .int .i64 (uh l)∧rs= []):=by
 refine cr func114 acj (by simp[xx,zV]) ?_;unfold uh;simp only[go_sem,xx,zV]
 by_cases h1: (l.length:Int)>4096
 ·simp only[go_sem,h1];exact s.bb rfl ⟨by rw[if_pos (by omega)],rfl⟩
 simp only[go_sem,h1];rw[if_neg (by omega)];refine dR (fun r d=> ∃ (c:Nat),c≤l.length∧(∀ j (h:j < l.length),j < c→nL l[j])∧r= [(3,.int .i64 (mG (l.take c))),(9,.pure 4 (ac l)),(10,.int .i64 l.length),(11,.int .i64 c)]∧d= [])
  (fun r _=>match bn r 11 with| .int _ j=>(l.length-j).toNat|_=>0) ?_ ?_
 ·exact s.U ⟨0,by omega,fun j _ h=>by omega,by simp[mG],rfl⟩
 ·rintro r d ⟨c,an,hall,rfl,rfl⟩;have aR:=dr (c:=c) (by omega);have QF:=Tb an hall;simp only[go_sem,xx,zV];refine cg ?_ ?_<;>intro ck<;>simp only[bA] at ck<;>simp only[go_sem,xx,zV]
  ·have aC:c < l.length:=by omega
   refine⟨by omega,by omega,?_⟩
   try simp only[Int.toNat_natCast]
   rw[cQ aC];have ce:=ahy aC;have qj: ¬nL l[c]→ ¬ ∀ p∈l,nL p:=fun h1 B=>h1 (B _ (List.getElem_mem aC));have dQ:nL l[c]→ ∀ j (h:j < l.length),j < c+1→nL l[j]:=fun h1 j aT ml=>by
    by_cases e:j=c
    ·subst e;exact h1
    ·exact hall j aT (by omega)
   generalize l[c]=p at ce qj dQ ⊢;simp only[go_sem,xx,zV,yY]
   by_cases ae:nL p
   ·have hC:=ae;unfold nL at hC;obtain⟨bI,ca,fc,hi,jr⟩:=hC;have qy: ¬p.ab < 0:=by omega
    have aEJ: ¬p.ab>84005:=by omega
    have M4: ¬p.J < 0:=by omega
    have aEK: ¬p.T≤p.J:=by omega
    have M5: ¬p.T>120968640:=by omega
    have jt:IntKind.i64.wrap (p.T-p.J)=p.T-p.J:=bf (by omega) (by omega);have ju:IntKind.i64.wrap (mG (l.take c)+(p.T-p.J))=mG (l.take (c+1)):=by rw[bf (by omega) (by omega),ce]
    simp only[go_sem,xx,zV,qy,aEJ,M4,aEK,M5,jt,ju,aR]
    (refine s.bw [] ?_;simp only[go_sem])
    refine s.U ⟨⟨c+1,by omega,dQ ae,rfl,rfl⟩,?_⟩;simp only[go_sem];omega
   ·rw[if_neg (qj ae)];unfold nL at ae
    repeat' ((first|refine gF ?_ ?_|refine gP ?_ ?_|refine cg ?_ ?_|refine dg ?_ ?_)<;>intro ao<;>(have ae:=ao;try simp only[bA] at ae)<;>(first|omega| (simp only[go_sem,ao,xx,zV];clear ao)))
    all_goals (try simp only[bA] at *)
    all_goals first
     | (exfalso;omega)
     |exact s.bb rfl ⟨rfl,rfl⟩
  ·obtain rfl:c=l.length:=by omega
   rw[List.take_length] at QF ⊢;rw[if_pos (fun p ae=>by obtain⟨j,aT,rfl⟩:=List.getElem_of_mem ae;exact hall j aT aT)]
   by_cases am:mG l>100000
   ·simp only[go_sem,am];exact s.bb rfl ⟨rfl,rfl⟩
   ·simp only[go_sem,am];exact s.bb rfl ⟨rfl,rfl⟩
def lc (D:bZ)(t:Int):Int:=t+wY D t
theorem aEz {D:bZ}(aS:eR D=0){t:Int}(h0:0≤t)(h1:t≤120968639): -840≤lc D t∧lc D t≤120969479:=by
 have:=W6 (vo aS) t;unfold jB at this;unfold lc;omega
def Tc (D:bZ)(h:List cP)(t:Int):List z:= [.int .i64 (lc D t%1440),.int .i64 ((lc D t / 1440+3)%7),.bool (kG h (lc D t / 1440))]
theorem aEp (D:bZ)(aS:eR D=0)(h:List cP)(ag:mz h=0)(ys ds:List Int)(t:Int)(h0:0≤t)(h1:t≤120968639):
 aK prog 201 [D.v,.aW 2 1 0 0,.int .i64 t] (lU h ys ds) (fun v rs=>v= .agg (Tc D h t)∧ ∃ ys' ds',rs=lU h ys' ds'):=by
 have Z:=aEz aS h0 h1;have hL:=W8 D aS t h0 h1;rw[show t+wY D t=lc D t from rfl] at hL;unfold Tc;refine cr func201 RB (by simp[Eb,Hk]) ?_;simp only[go_sem,Eb,Hk,bZ.v,lU];refine bH hL rfl rfl ?_;generalize lc D t=m at Z ⊢;obtain⟨c1,c2,c3⟩:=agC (m / 1440);have bF: ((m / 1440).tmod 7+10).tmod 7=(m / 1440+3)%7:=by
  rw[Int.tmod_eq_emod_of_nonneg (by omega)];omega
 have bJ:IntKind.i64.wrap ((m / 1440).tmod 7+10)=(m / 1440).tmod 7+10:=bf (by omega) (by omega);have it:IntKind.i64.wrap (m / 1440*1440)=m / 1440*1440:=bf (by omega) (by omega);have qE:IntKind.i64.wrap (m-m / 1440*1440)=m%1440:=by rw[bf (by omega) (by omega)];omega
 simp only[go_sem];refine⟨by decide,by decide,?_⟩
 by_cases hm:m < 0
 ·have G:m.tmod 1440=m:=by
   rw[Int.tmod_eq_emod];rw[if_neg (by omega)];have: ((1440:Int).natAbs:Int)=1440:=rfl;omega
  have aQ:m.tdiv 1440=0:=by
   have:=Int.mul_tdiv_add_tmod m 1440;omega
  have aq:m / 1440= -1:=by omega
  rw[aq] at bF bJ it qE ⊢;rw[G,aQ];have iT:IntKind.i64.wrap (IntKind.i64.wrap 0-1)= -1:=by decide
  simp only[go_sem,hm,iT,bF,bJ,it,qE];refine⟨by decide,by decide,?_⟩
  (refine eY [0,1,2] (agV h ag ys ds (-1)) ?_;rintro _ _ ⟨rfl,ys',ds',rfl⟩;simp only[go_sem])
  simp only[go_sem,lU]
  (refine s.bw [some 0,some 1,some 2] ?_;simp only[go_sem])
  exact s.U ⟨rfl,ys',ds',rfl⟩
 ·have aQ:m.tdiv 1440=m / 1440:=Int.tdiv_eq_ediv_of_nonneg (by omega);have G:m.tmod 1440=m%1440:=Int.tmod_eq_emod_of_nonneg (by omega);have aB: ¬m%1440 < 0:=by omega
  have iT:IntKind.i64.wrap (m / 1440)=m / 1440:=bf (by omega) (by omega);rw[G,aQ];simp only[go_sem,aB,iT,bF,bJ,it,qE];refine⟨by decide,by decide,?_⟩
  (refine eY [0,1,2] (agV h ag ys ds (m / 1440)) ?_;rintro _ _ ⟨rfl,ys',ds',rfl⟩;simp only[go_sem])
  simp only[go_sem,lU]
  (refine s.bw [some 0,some 1,some 2] ?_;simp only[go_sem])
  exact s.U ⟨rfl,ys',ds',rfl⟩
def qo (af:List dF):Bool:=af.all zU
def un (D:bZ)(h:List cP)(af:List dF):Int:=if eR D=0 then (if mz h=0 then (if 16 < af.length then 3 else if qo af=true then 0 else 1) else mz h) else eR D
theorem afb (D:bZ)(h:List cP)(hl:h.length≤9223372036854775806)(af:List dF)(aR:af.length≤1000000):aK prog 113 [D.v,.pure 6 (ac h),.pure 7 (ac af)] [] (fun v rs=>v= .int .i64 (un D h af)∧rs= []):=by
 refine cr func113 aci (by simp[BK,EW]) ?_;unfold un;simp only[go_sem,BK,EW,bZ.v];refine bH (Ba D) rfl rfl ?_;simp only[go_sem]
 by_cases aS:eR D=0
 rotate_left
 ·have aEA: (eR D != 0)=true:=by simp[aS]
  simp only[go_sem,aEA];exact s.bb rfl ⟨by rw[if_neg aS],rfl⟩
 rw[aS,if_pos rfl];simp only[go_sem];refine bH (agA h hl) rfl rfl ?_;simp only[go_sem]
 by_cases ag:mz h=0
 rotate_left
 ·have db: (mz h != 0)=true:=by simp[ag]
  simp only[go_sem,db];exact s.bb rfl ⟨by rw[if_neg ag],rfl⟩
 rw[ag,if_pos rfl];simp only[go_sem]
 by_cases h1: (af.length:Int)>16
 ·simp only[go_sem,h1];exact s.bb rfl ⟨by rw[if_pos (by omega)],rfl⟩
 simp only[go_sem,h1];rw[if_neg (by omega)];refine dR (fun r d=> ∃ (c:Nat),c≤af.length∧qo af=qo (af.drop c)∧r= [(24,.pure 7 (ac af)),(25,.int .i64 af.length),(26,.int .i64 c)]∧d= [])
  (fun r _=>match bn r 26 with| .int _ j=>(af.length-j).toNat|_=>0) ?_ ?_
 ·(refine s.bw [] ?_;simp only[go_sem])
  exact s.U ⟨0,by omega,by simp,rfl,rfl⟩
 ·rintro r d ⟨c,an,Z,rfl,rfl⟩;simp only[go_sem,BK,EW];refine cg ?_ ?_<;>intro ck<;>simp only[bA] at ck<;>simp only[go_sem,BK,EW]
  ·have aC:c < af.length:=by omega
   refine⟨by omega,by omega,?_⟩
   try simp only[Int.toNat_natCast]
   rw[cQ aC];rw[List.drop_eq_getElem_cons aC,qo,qo,List.all_cons] at Z;generalize af[c]=p at Z ⊢;have aR:=dr (c:=c) (by omega);simp only[go_sem,BK,EW,zR];refine bH (aEB p) rfl rfl ?_;simp only[go_sem];cases ae:zU p
   ·simp only[go_sem];exact s.bb rfl ⟨by rw[if_neg (by rw[qo,Z,ae];simp)],rfl⟩
   ·simp only[go_sem,aR]
    (refine s.bw [] ?_;simp only[go_sem])
    refine s.U ⟨⟨c+1,by omega,?_,rfl,rfl⟩,?_⟩
    ·rw[qo,Z,ae,Bool.true_and,qo]
    ·simp only[go_sem];omega
  ·have xA:c=af.length:=by omega
   rw[xA,List.drop_length] at Z;exact s.bb rfl ⟨by rw[Z];rfl,rfl⟩
def MU (D:bZ)(h:List cP)(w:dF)(t:Int):Bool:=MV w (lc D t%1440) ((lc D t / 1440+3)%7) (kG h (lc D t / 1440))
theorem Rc {D:bZ}{h:List cP}{af:List dF}(ag:un D h af=0):eR D=0∧mz h=0∧af.length≤16∧qo af=true:=by
 unfold un at ag;split at ag
 ·split at ag
  ·split at ag
   ·cases ag
   ·split at ag
    ·exact⟨by assumption,by assumption,by omega,by assumption⟩
    ·cases ag
  ·exact absurd ag (by assumption)
 ·exact absurd ag (by assumption)
theorem aEl {w:dF}(h:zU w=true):0≤w.hK∧w.hK≤127:=by
 unfold zU at h;simp only[Bool.and_eq_true,decide_eq_true_eq] at h;omega
def rY (f:Nat→Bool):Nat→Nat
 |0=>0
 |n+1=>if f n then rY f n|||2^n else rY f n
theorem S4 (f:Nat→Bool)(j:Nat): ∀ n,(rY f n).testBit j=(decide (j < n)&&f j)
 |0=>by simp[rY]
 |n+1=>by
  have ih:=S4 f j n;rw[rY]
  by_cases aT:j=n
  ·subst aT;have h0: (decide (j < j)&&f j)=false:=by simp
   split
   ·rename_i h;simp[Nat.testBit_or,ih,h,Nat.testBit_two_pow]
   ·rename_i h;simp[ih,h]
  ·have h1:decide (j < n+1)=decide (j < n):=by simp;omega
   split
   ·rw[Nat.testBit_or,ih,h1,Nat.testBit_two_pow,show decide (n=j)=false by simp;omega,Bool.or_false]
   ·rw[ih,h1]
theorem agW (f:Nat→Bool): ∀ n,rY f n < 2^n
 |0=>by simp[rY]
 |n+1=>by
  have ih:=agW f n;rw[rY];split
  ·exact Nat.or_lt_two_pow (Nat.lt_of_lt_of_le ih (Nat.pow_le_pow_right (by omega) (by omega))) (Nat.pow_lt_pow_right (by omega) (by omega))
  ·exact Nat.lt_of_lt_of_le ih (Nat.pow_le_pow_right (by omega) (by omega))
theorem MO (f:Nat→Bool){n:Nat}(aB:n≤16):rY f n < 65536:=Nat.lt_of_lt_of_le (agW f n) (Nat.pow_le_pow_right (n:=2) (by omega) aB)
theorem aD5 {cj c:Nat}(h:cj < 65536)(an:c < 16):cj|||2^c < 65536:=Nat.or_lt_two_pow (n:=16) h (Nat.pow_lt_pow_right (a:=2) (by omega) an)
theorem S5 {cj c:Nat}(h:cj < 65536)(an:c < 16):Jj .i64 (cj:Int) (Oh .i64 1 c)=((cj|||2^c:Nat):Int):=by
 have B: (2:Nat)^c < 65536:=Nat.lt_of_lt_of_le (Nat.pow_lt_pow_right (a:=2) (by omega) an) (Nat.le_refl (2^16));generalize ao: (2:Nat)^c=X at B;rw[apu (by omega),show (1:Int)*2^c=((2^c:Nat):Int) by simp,ao,bf (by omega) (by omega),apt (by omega) (by omega)]
theorem agX {cj c:Nat}(h:cj < 65536)(an:c < 16):ep .i64 (Jk .i64 (cj:Int) c) 1=if cj.testBit c then 1 else 0:=by
 have:=agY (n:=(cj:Int)) (c:=c) (by omega) (by omega) (by omega);rw[this];unfold H6;rw[Int.toNat_natCast,Int.toNat_natCast]
theorem ES {a b:ByteArray}:eo a b=true↔a.toList=b.toList:=by unfold eo;simp
theorem EE (a:ByteArray):eo a a=true:=ES.2 rfl
theorem ET {a b:ByteArray}(h:eo a b=true):eo b a=true:=ES.2 (ES.1 h).symm
theorem MP {a b F:ByteArray}(h:eo a b=true)(k:eo b F=true):eo a F=true:=ES.2 ((ES.1 h).trans (ES.1 k))
theorem Mw (a b:ByteArray):eo a b=eo b a:=by
 rw[Bool.eq_iff_iff];exact⟨ET,ET⟩
theorem H7 {a b F:ByteArray}(h:eo a b=true):eo a F=eo b F:=by
 rw[Bool.eq_iff_iff];exact⟨fun k=>MP (ET h) k,fun k=>MP h k⟩
def iO:dF:=⟨⟨#[]⟩,⟨#[]⟩,0,0,0,0,0⟩
def fD (af:List dF)(c:Nat):dF:=(af[c]?).getD iO
theorem H8 {af:List dF}{c:Nat}(h:c < af.length):fD af c=af[c]:=by simp[fD,h]
def zP (af:List dF)(k c:Nat):Bool:=
 eo (fD af k).hZ (fD af c).hZ&&(decide ((fD af c).jE < (fD af k).jE)||(decide ((fD af k).jE=(fD af c).jE)&&decide (k < c)))
def agZ (af:List dF)(F:Nat→Bool)(c:Nat):Bool:=F c&&(lr (fD af c)||(List.range af.length).all fun k=> !(F k&&zP af k c))
def ql (l:List (ByteArray×Nat)):List (z×z):=l.map fun p=>(.str p.1,.int .i64 p.2)
def lb (l:List (ByteArray×Nat))(g:ByteArray):Option Nat:=(l.find? fun p=>eo g p.1).map (·.2)
def pv (g:ByteArray)(v:Nat):List (ByteArray×Nat)→List (ByteArray×Nat)
 | []=> [(g,v)]
 |p::O=>if eo g p.1 then (g,v)::O else p::pv g v O
theorem MQ (l:List (ByteArray×Nat)): (ql l).length=l.length:=by simp[ql]
theorem aha: ∀ (l:List (ByteArray×Nat)),jL (ql l)=true
 | []=>_root_.id rfl
 |p::l=>by
  have:=aha l;simp only[jL,ql,List.map_map,Bool.and_eq_true] at this ⊢;simp only[List.map_cons,bP,Function.comp_apply,bE,Bool.true_and];exact this
theorem ahb {g:ByteArray}: ∀ {l:List (ByteArray×Nat)},dd (.str g) (ql l)=(lb l g).map fun v=> .int .i64 v
 | []=>_root_.id rfl
 |p::l=>by
  have ih:=ahb (g:=g) (l:=l);unfold ql lb at *;rw[List.map_cons,dd,List.find?_cons];have:fp (.str g) (.str p.1)=eo g p.1:=by simp[fp,cf,dU,eo]
  simp only[this];cases I:eo g p.1
  ·simpa using ih
  ·rfl
theorem ahc {g:ByteArray}{v:Nat}: ∀ {l:List (ByteArray×Nat)},dp (.str g) (.int .i64 v) (ql l)=ql (pv g v l)
 | []=>_root_.id rfl
 |p::l=>by
  have ih:=ahc (g:=g) (v:=v) (l:=l);unfold ql at *;rw[List.map_cons,dp,pv];have:fp (.str g) (.str p.1)=eo g p.1:=by simp[fp,cf,dU,eo]
  simp only[this];cases I:eo g p.1
  ·simp only[Bool.false_eq_true,if_false,List.map_cons,ih]
  ·rfl
theorem ahd {g h:ByteArray}{v:Nat}: ∀ {l:List (ByteArray×Nat)},lb (pv g v l) h=if eo h g then some v else lb l h
 | []=>by
  unfold lb pv;cases hh:eo h g<;>simp[hh]
 |p::l=>by
  have ih:=ahd (g:=g) (h:=h) (v:=v) (l:=l);unfold lb at *;rw[pv];cases I:eo g p.1
  ·simp only[Bool.false_eq_true,if_false,List.find?_cons];cases gc:eo h p.1
   ·exact ih
   ·have:eo h g=false:=by
     cases e:eo h g
     ·rfl
     ·rw[←H7 e,gc] at I;cases I
    simp[this]
  ·simp only[if_true,List.find?_cons];cases hh:eo h g
   ·have:eo h p.1=false:=by
     cases e:eo h p.1
     ·rfl
     ·have:=MP e (ET I);rw[hh] at this;cases this
    simp[this]
   ·simp
def xK (l:List (ByteArray×Nat)):Prop:=l.Pairwise fun p q=>eo p.1 q.1=false
theorem ahe {g:ByteArray}{v:Nat}{q:ByteArray×Nat}: ∀ {l:List (ByteArray×Nat)},q∈pv g v l→q=(g,v)∨q∈l
 | [],h=>by simpa[pv] using h
 |p::l,h=>by
  rw[pv] at h;split at h
  ·rcases List.mem_cons.1 h with h|h
   ·exact .inl h
   ·exact .inr (List.mem_cons_of_mem _ h)
  ·rcases List.mem_cons.1 h with h|h
   ·exact .inr (by rw[h];exact List.mem_cons_self)
   ·rcases ahe h with h|h
    ·exact .inl h
    ·exact .inr (List.mem_cons_of_mem _ h)
theorem S6 {g:ByteArray}{v:Nat}: ∀ {l:List (ByteArray×Nat)},xK l→xK (pv g v l)
 | [],_=>by simp[pv,xK]
 |p::l,h=>by
  unfold xK at h ⊢;rw[List.pairwise_cons] at h;rw[pv];split
  ·rename_i I;rw[List.pairwise_cons];exact⟨fun q aQ=>by rw[H7 I];exact h.1 q aQ,h.2⟩
  ·rename_i I;rw[List.pairwise_cons];refine⟨fun q aQ=> ?_,S6 h.2⟩;rcases ahe aQ with rfl|aQ
   ·rw[Mw];simpa using I
   ·exact h.1 q aQ
theorem S7: ∀ {l:List (ByteArray×Nat)},xK l→ ∀ p∈l,lb l p.1=some p.2
 | [],_,p,ae=>by simp at ae
 |q::l,h,p,ae=>by
  unfold xK at h;rw[List.pairwise_cons] at h;unfold lb;rw[List.find?_cons];rcases List.mem_cons.1 ae with rfl|ae
  ·rw[EE];rfl
  ·have:=h.1 p ae;rw[Mw] at this;rw[this];exact S7 h.2 p ae
theorem aD6 {l:List (ByteArray×Nat)}{g:ByteArray}{v:Nat}(h:lb l g=some v): ∃ p∈l,p.2=v:=by
 unfold lb at h;cases hf:l.find? fun p=>eo g p.1 with
 |none=>rw[hf] at h;cases h
 |some p=>
  rw[hf] at h;exact⟨p,List.mem_of_find?_eq_some hf,by simpa using h⟩
attribute [go_sem] aha ahb
def zQ (af:List dF)(F:Nat→Bool)(g:ByteArray)(k:Nat):Prop:=F k=true∧lr (fD af k)=false∧eo g (fD af k).hZ=true
def vQ (af:List dF)(F:Nat→Bool)(g:ByteArray)(c:Nat):Option Nat→Prop
 |none=> ∀ k,k < c→ ¬zQ af F g k
 |some j=>j < c∧zQ af F g j∧ ∀ k,k < c→zQ af F g k→(fD af k).jE < (fD af j).jE∨((fD af k).jE=(fD af j).jE∧j≤k)
theorem MR {af:List dF}{F:Nat→Bool}{g:ByteArray}{c:Nat}{L:Option Nat}(h:vQ af F g c L)(aB: ¬zQ af F g c):vQ af F g (c+1) L:=by
 cases L with
 |none=>
  intro k I V
  by_cases e:k=c
  ·subst e;exact aB V
  ·exact h k (by omega) V
 |some j=>
  obtain⟨h1,B,am⟩:=h;refine⟨by omega,B,fun k I V=> ?_⟩
  by_cases e:k=c
  ·subst e;exact absurd V aB
  ·exact am k (by omega) V
theorem aD7 {af:List dF}{F:Nat→Bool}{g:ByteArray}{c:Nat}(h:F c=true)(aB:lr (fD af c)=false):zQ af F g c↔eo g (fD af c).hZ=true:=⟨fun k=>k.2.2,fun k=>⟨h,aB,k⟩⟩
theorem aD8 {af:List dF}{F:Nat→Bool}{g:ByteArray}{c:Nat}{L:Option Nat}(h:vQ af F g c L)(V:zQ af F g c)(G: ∀ j,L=some j→(fD af j).jE < (fD af c).jE):vQ af F g (c+1) (some c):=by
 refine⟨by omega,V,fun k I lx=> ?_⟩
 by_cases e:k=c
 ·subst e;exact .inr ⟨rfl,Nat.le_refl _⟩
 ·cases L with
  |none=>exact absurd lx (h k (by omega))
  |some j=>
   have h1:=h.2.2 k (by omega) lx;have B:=G j rfl;omega
theorem aD9 {af:List dF}{F:Nat→Bool}{g:ByteArray}{c j:Nat}(h:vQ af F g c (some j))(G: ¬(fD af j).jE < (fD af c).jE):vQ af F g (c+1) (some j):=by
 obtain⟨h1,B,am⟩:=h;refine⟨by omega,B,fun k I lx=> ?_⟩
 by_cases e:k=c
 ·subst e;omega
 ·exact am k (by omega) lx
theorem aEa {af:List dF}{F:Nat→Bool}{l:List (ByteArray×Nat)}(aw:xK l)(Z: ∀ g,vQ af F g af.length (lb l g))(j:Nat):
 (∃ p∈l,p.2=j)↔(j < af.length∧F j=true∧lr (fD af j)=false∧((List.range af.length).all fun k=> !(F k&&zP af k j))=true):=by
 rw[List.all_eq_true];constructor
 ·rintro⟨p,ae,rfl⟩;have h1:=Z p.1;rw[S7 aw p ae] at h1;obtain⟨B,⟨am,bp,cn⟩,dj⟩:=h1;refine⟨B,am,bp,fun k I=> ?_⟩;rw[List.mem_range] at I;cases lx:F k
  ·rfl
  ·cases xr:zP af k p.2
   ·rfl
   ·unfold zP at xr;simp only[Bool.and_eq_true,Bool.or_eq_true,decide_eq_true_eq] at xr;have aB:lr (fD af k)=false:=by
     rw[←bp];unfold lr;exact H7 xr.1
    have:=dj k I ⟨lx,aB,MP cn (ET xr.1)⟩;omega
 ·rintro⟨h1,B,am,bp⟩;have V:zQ af F (fD af j).hZ j:=⟨B,am,EE _⟩;have cn:=Z (fD af j).hZ;cases bi:lb l (fD af j).hZ with
  |none=>rw[bi] at cn;exact absurd V (cn j h1)
  |some c=>
   rw[bi] at cn;obtain⟨bI,⟨ca,fc,hi⟩,jr⟩:=cn;have dj:=jr j h1 V;have mM:=bp c (List.mem_range.2 bI);rw[ca,Bool.true_and] at mM;have DX:zP af c j=false:=by simpa using mM
   unfold zP at DX;rw[ET hi,Bool.true_and] at DX;simp only[Bool.or_eq_false_iff,Bool.and_eq_false_iff,decide_eq_false_iff_not] at DX;obtain rfl:c=j:=by omega
   exact aD6 bi
theorem aEb {l:List (ByteArray×Nat)}{c:Nat}(h:c < l.length){o:z×z}: (ql l).getD c o=(.str l[c].1,.int .i64 l[c].2):=by
 rw[List.getD_eq_getElem?_getD,List.getElem?_eq_getElem (by rw[MQ];exact h)];simp[ql]
def uy (af:List dF)(cj:Nat)(c:Nat):Nat:=rY (fun j=>cj.testBit j&&lr (fD af j)) c
def qW (af:List dF)(cj:Nat):Nat:=rY (agZ af cj.testBit) af.length
theorem aEc {af:List dF}{cj az:Nat}{l:List (ByteArray×Nat)}(cU: ∀ j,az.testBit j=((uy af cj af.length).testBit j||l.any fun p=>p.2==j))
 (aw:xK l) (Z: ∀ g,vQ af cj.testBit g af.length (lb l g)):az=qW af cj:=by
 apply Nat.eq_of_testBit_eq;intro j;rw[cU,qW,S4,uy,S4];have h:=aEa aw Z j;have B: (l.any fun p=>p.2==j)=(decide (j < af.length)&&cj.testBit j&& !(lr (fD af j))&&(List.range af.length).all fun k=> !(cj.testBit k&&zP af k j)):=by
  rw[Bool.eq_iff_iff,List.any_eq_true];simp only[beq_iff_eq];rw[h];simp only[Bool.and_eq_true,decide_eq_true_eq,Bool.not_eq_true',and_assoc]
 rw[B];unfold agZ;generalize (List.range af.length).all (fun k=> !(cj.testBit k&&zP af k j))=A;cases decide (j < af.length)<;>cases cj.testBit j<;>cases lr (fD af j)<;>cases A<;>rfl
theorem aEd (af:List dF)(aB:af.length≤16)(cj:Nat)(fu:cj < 65536):aK prog 203 [.pure 7 (ac af),.int .i64 cj] [] (fun v rs=>v= .int .i64 (qW af cj)∧rs= []):=by
 refine cr func203 adB (by simp[pp,qm]) ?_;simp only[go_sem,pp,qm];refine dR (fun r d=> ∃ (c:Nat) (dG:List (ByteArray×Nat)),c≤af.length∧xK dG∧(∀ g,vQ af cj.testBit g c (lb dG g))∧r= [(0,.pure 7 (ac af)),(1,.int .i64 cj),(5,.int .i64 (uy af cj c)),(6,.bu 0),(14,.pure 7 (ac af)),(15,.int .i64 af.length),(16,.int .i64 c)]∧d= [.aY (.map false [.str] (ql dG))])
  (fun r _=>match bn r 16 with| .int _ j=>(af.length-j).toNat|_=>0) ?_ ?_
 ·exact s.U ⟨0,[],by omega,List.Pairwise.nil,fun g k I=>by omega,rfl,rfl⟩
 ·rintro r d ⟨c,dG,an,jy,kB,rfl,rfl⟩;have aR:=dr (c:=c) (by omega);have cU:=MO (fun j=>cj.testBit j&&lr (fD af j)) (n:=c) (by omega);have qX:uy af cj (c+1)=if (cj.testBit c&&lr (fD af c))=true then uy af cj c|||2^c else uy af cj c:=rfl
  rw[show rY (fun j=>cj.testBit j&&lr (fD af j)) c=uy af cj c from rfl] at cU;simp only[go_sem,pp,qm];refine cg ?_ ?_<;>intro ck<;>simp only[bA] at ck<;>simp only[go_sem,pp,qm]
  ·have aC:c < af.length:=by omega
   refine⟨by omega,by omega,?_⟩
   try simp only[Int.toNat_natCast]
   rw[cQ aC];have EU:=agX fu (show c < 16 by omega);have tB:=S5 (cj:=uy af cj c) (c:=c) cU (by omega);have B1:=H8 aC;generalize af[c]=w at B1 ⊢;have nk: (0:Int)≤c:=by omega
   cases V:cj.testBit c
   ·rw[V] at EU qX;simp only[Bool.false_eq_true,if_false,Bool.false_and] at EU qX;simp only[go_sem,pp,qm,zR,nk,EU,Int.toNat_natCast,aR]
    (refine s.bw [some 0] ?_;simp only[go_sem])
    refine s.U ⟨⟨c+1,dG,by omega,jy,fun g=>MR (kB g) (fun h=> ?_),by rw[qX],rfl⟩,?_⟩
    ·have:=h.1;rw[V] at this;cases this
    ·simp only[go_sem];omega
   ·rw[V] at EU qX;simp only[if_true,Bool.true_and] at EU qX;simp only[go_sem,pp,qm,zR,nk,EU,Int.toNat_natCast,aR];have qD: (w.hZ.toList==({data:= #[]}:ByteArray).toList)=lr w:=rfl;rw[qD];rw[B1] at qX;cases MS:lr w
    rotate_left
    ·rw[MS] at qX;simp only[if_true] at qX;simp only[go_sem,pp,qm,nk,tB,Int.toNat_natCast,aR]
     (refine s.bw [some 0] ?_;simp only[go_sem])
     refine s.U ⟨⟨c+1,dG,by omega,jy,fun g=>MR (kB g) (fun h=> ?_),by rw[qX],rfl⟩,?_⟩
     ·have:=h.2.1;rw[B1,MS] at this;cases this
     ·simp only[go_sem];omega
    rw[MS] at qX;simp only[Bool.false_eq_true,if_false] at qX;have S8: ∀ g,zQ af cj.testBit g c↔eo g w.hZ=true:=fun g=>by
     have:=aD7 (af:=af) (F:=cj.testBit) (g:=g) V (by rw[B1];exact MS)
     rwa [B1] at this
    have Aj:dp (.str w.hZ) (.int .i64 c) (ql dG)=ql (pv w.hZ c dG):=ahc;have bb: (∀ j,lb dG w.hZ=some j→(fD af j).jE < w.jE)→ ∀ g,vQ af cj.testBit g (c+1) (lb (pv w.hZ c dG) g):=by
     intro G g;rw[ahd];cases ao:eo g w.hZ
     ·rw[if_neg (by simp)];exact MR (kB g) (fun h=>by have:=(S8 g).1 h;rw[ao] at this;cases this)
     ·rw[if_pos rfl];have h1:=kB g;have B:lb dG g=lb dG w.hZ:=by
       unfold lb;congr 2;funext p;exact H7 ao
      refine aD8 h1 ((S8 g).2 ao) (fun j aT=> ?_);rw[B1];exact G j (by rw[←B];exact aT)
    cases gZ:lb dG w.hZ with
    |none=>
     simp only[go_sem,pp,qm,gZ,Option.map_none,Aj,aR]
     (refine s.bw [some 0] ?_;simp only[go_sem])
     refine s.U ⟨⟨c+1,pv w.hZ c dG,by omega,S6 jy,bb (fun j aT=>by rw[gZ] at aT;cases aT),by rw[qX],rfl⟩,?_⟩;simp only[go_sem];omega
    |some j=>
     have Mz:=kB w.hZ;rw[gZ] at Mz;have oY:j < af.length:=by have:=Mz.1;omega
     have HS:=H8 oY;have wq: (0:Int)≤j:=by omega
     have qy: (j:Int) < af.length:=by omega
     have iV: (ac af).getD j []=aG.F (fD af j):=by rw[HS];exact cQ oY
     simp only[go_sem,pp,qm,gZ,Option.map_some,wq,qy,Int.toNat_natCast,iV,zR]
     by_cases G: (fD af j).jE < w.jE
     ·have ch:w.jE>(fD af j).jE:=G;simp only[go_sem,pp,qm,ch,Aj,aR]
      (refine s.bw [some 0] ?_;simp only[go_sem])
      refine s.U ⟨⟨c+1,pv w.hZ c dG,by omega,S6 jy,bb (fun aEe aT=>by have BD:=aT;rw[gZ] at BD;obtain rfl:j=aEe:=(by simpa using BD);exact G),by rw[qX],rfl⟩,?_⟩;simp only[go_sem];omega
     ·have ch: ¬w.jE>(fD af j).jE:=G;simp only[go_sem,pp,qm,ch,aR]
      (refine s.bw [some 0] ?_;simp only[go_sem])
      refine s.U ⟨⟨c+1,dG,by omega,jy,fun g=> ?_,by rw[qX],rfl⟩,?_⟩
      ·cases ao:eo g w.hZ
       ·exact MR (kB g) (fun h=>by have:=(S8 g).1 h;rw[ao] at this;cases this)
       ·have B:lb dG g=lb dG w.hZ:=by
         unfold lb;congr 2;funext p;exact H7 ao
        have h1:=kB g;rw[B,gZ] at h1 ⊢;exact aD9 h1 (by rw[B1];exact G)
      ·simp only[go_sem];omega
  ·obtain rfl:c=af.length:=by omega
   have hval: ∀ p∈dG,p.2 < 16:=fun p ae=>by
    have:=kB p.1;rw[S7 jy p ae] at this;have:=this.1;omega
   refine dR (fun r d=> ∃ (bR:List Nat) (az:Nat),bR.Nodup∧(∀ E∈bR,E < dG.length)∧az < 65536∧(∀ j,az.testBit j=((uy af cj af.length).testBit j||bR.any fun E=>(dG.getD E (⟨#[]⟩,0)).2==j))∧r= [(5,.int .i64 az),(58,.fG 1 0)]∧d= [.aY (.map false [.str] (ql dG)),.aY (.dY dG.length bR)])
    (fun _ d=>match d with| [_,.aY (.dY n E)]=>n-E.length|_=>0) ?_ ?_
   ·exact s.U ⟨[],uy af cj af.length,by simp,by simp,cU,fun j=>by simp,rfl,by rw[MQ]⟩
   ·rintro r d ⟨bR,az,aEf,pT,mX,ahf,rfl,rfl⟩;simp only[go_sem,pp,qm];unfold Og rk;simp only[List.getElem?_cons_zero,List.getElem?_cons_succ];refine⟨(MQ dG).symm,by decide,fun hall=> ?_,fun j aT KU=> ?_⟩
    ·have mo:az=qW af cj:=by
      refine aEc (l:=dG) (fun j=> ?_) jy kB;rw[ahf];congr 1;rw[Bool.eq_iff_iff,List.any_eq_true,List.any_eq_true];simp only[beq_iff_eq];constructor
      ·rintro⟨E,ak,h⟩;have fd:=pT E ak;refine⟨dG[E],List.getElem_mem fd,?_⟩;rw[←h];simp[fd]
      ·rintro⟨p,ae,h⟩;obtain⟨E,ak,rfl⟩:=List.getElem_of_mem ae;exact⟨E,hall E ak,by rw[←h];simp[ak]⟩
     simp only[go_sem,pp,qm];rw[mo];exact s.bb rfl ⟨rfl,rfl⟩
    ·have IH: (bR++ [j]).getLastD 0=j:=by simp
     have nA:j < dG.length:=aT;have eI:=aEb nA (o:=(.cc,.cc));have ag:=hval _ (List.getElem_mem nA);have zo: (bR++ [j]).Nodup:=by
      rw[List.nodup_append];exact⟨aEf,by simp,fun a aw b Z=>by rw[List.mem_singleton] at Z;subst Z;exact fun e=>KU (e▸aw)⟩
     have G0: ∀ E∈bR++ [j],E < dG.length:=fun x ad=>by
      rcases List.mem_append.1 ad with ad|ad
      ·exact pT x ad
      ·rw[List.mem_singleton] at ad;subst ad;exact nA
     have fd: (bR++ [j]).length≤dG.length:=by
      have:=zo.length_le_of_subset (l₂:=List.range dG.length) (fun x ad=>List.mem_range.2 (G0 x ad));simpa using this
     rw[List.length_append,List.length_singleton] at fd;have zc:=S5 (cj:=az) (c:=dG[j].2) mX ag;have v0: (0:Int)≤dG[j].2:=by omega
     have jg: ∀ k,(az|||2^dG[j].2).testBit k=((uy af cj af.length).testBit k||(bR++ [j]).any fun E=>(dG.getD E (⟨#[]⟩,0)).2==k):=by
      intro k;rw[Nat.testBit_or,ahf,List.any_append,Nat.testBit_two_pow,Bool.or_assoc];congr 2;rw[Bool.eq_iff_iff];simp[nA]
     have Bu:=aD5 mX ag;simp only[go_sem,pp,qm,IH,eI,zc,v0,Int.toNat_natCast];refine⟨(MQ dG).symm,by simp,nA,?_⟩;refine s.U ⟨⟨bR++ [j],az|||2^dG[j].2,zo,G0,Bu,jg,rfl,rfl⟩,?_⟩;simp;omega
end Go.Proofs.YtpincjkjoeopkaaGreatDoor.Pm
