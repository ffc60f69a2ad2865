/- Events and bands. -/
import Derived.Test.YtpincjkjoeopkaaGreatDoorD25
import Derived.Test.YtpincjkjoeopkaaGreatDoorD15
set_option linter.all false
namespace Go.Proofs.YtpincjkjoeopkaaGreatDoor.Ib
open Go Go.Abs Go.Proofs.Tryz
def AR (I:ByteArray)(c:Nat):Nat:=(I.data.getD c 0).toNat
def AS (J c:Nat):Prop:=(97≤J∧J≤122)∨(c≠0∧((48≤J∧J≤57)∨J=95))
instance (J c:Nat):Decidable (AS J c):=inferInstanceAs (Decidable ((97≤J∧J≤122)∨(c≠0∧((48≤J∧J≤57)∨J=95))))
def vo (I:ByteArray):Prop:=(1≤I.size∧I.size≤24)∧ ∀ j,j < I.size→AS (AR I j) j
instance (I:ByteArray):Decidable (vo I):=inferInstanceAs (Decidable ((1≤I.size∧I.size≤24)∧ ∀ j,j < I.size→AS (AR I j) j))
theorem CZ (I:ByteArray):aO prog 192 [.str I] [] (fun v rs=>v= .bool (decide (vo I))∧rs= []):=by
 refine cu func192 aeK (by simp[AG,C0]) ?_;simp only[go_sem,AG,C0]
 by_cases ao:1≤I.size∧I.size≤24
 rotate_left
 ·have aH:decide (vo I)=false:=decide_eq_false fun h=>ao h.1;rw[aH]
  repeat' ((first|refine gv ?_ ?_|refine gw ?_ ?_|refine cf ?_ ?_|refine dj ?_ ?_)<;>intro aw<;>(have ak:=aw;try simp only[bC] at ak)<;>(first|omega| (simp only[go_sem,aw,AG,C0];clear aw)))
  all_goals exact E.bg rfl ⟨rfl,rfl⟩
 have h1: ¬(I.size:Int) < 1:=by omega
 have G: ¬(I.size:Int)>24:=by omega
 simp only[go_sem,h1,G];refine dN (fun D r=> ∃ c:Nat,c≤I.size∧(∀ j,j < c→AS (AR I j) j)∧D= [(0,.str I),(16,.int .i64 I.size),(17,.int .i64 c)]∧r= [])
  (fun D _=>match bs D 17 with| .int _ j=>(I.size-j).toNat|_=>0) ?_ ?_
 ·exact E.ac ⟨0,by omega,fun j aX=>by omega,rfl,rfl⟩
 ·rintro D r ⟨c,av,hall,rfl,rfl⟩;have aP:=dB (c:=c) (by omega);simp only[go_sem,AG,C0];refine cf ?_ ?_<;>intro ct<;>simp only[bC] at ct<;>simp only[go_sem,AG,C0]
  ·refine⟨by omega,by omega,?_⟩
   try simp only[Int.toNat_natCast]
   have hb:AR I c=(I.data.getD c 0).toNat:=rfl;rw[←hb];clear hb h1 G;have qR: ¬AS (AR I c) c→decide (vo I)=false:=fun h=>decide_eq_false fun cR=>h (cR.2 c (by omega));have mD:AS (AR I c) c→ ∀ j,j < c+1→AS (AR I j) j:=fun h j aX=>by
    by_cases lL:j=c
    ·subst lL;exact h
    ·exact hall j (by omega)
   clear hall;generalize AR I c=J at qR mD ⊢;simp only[AS] at qR mD
   repeat' ((first|refine gv ?_ ?_|refine gw ?_ ?_|refine cf ?_ ?_|refine dj ?_ ?_)<;>intro aw<;>(have ak:=aw;try simp only[bC] at ak)<;>(first|omega| (simp only[go_sem,aw,AG,C0,aP];clear aw)))
   all_goals first
    | (refine E.bg rfl ⟨?_,rfl⟩;rw[qR (by omega)];done)
    | (refine E.ac ⟨⟨c+1,by omega,mD (by omega),rfl,rfl⟩,?_⟩;simp only[go_sem];omega)
  ·refine E.bg rfl ⟨?_,rfl⟩;rw[decide_eq_true];exact⟨ao,fun j aX=>hall j (by omega)⟩
def jT:Int→List kr→Bool
 |_,[]=>true
 |b,x::aq=>decide (vo x.name)&&(decide (b < x.after)&&(decide (x.after≤10080)&&jT x.after aq))
theorem aDi {b:Int}{l:List kr}{c:Nat}(h:c < l.length):jT b (l.drop c)=(decide (vo l[c].name)&&(decide (b < l[c].after)&&(decide (l[c].after≤10080)&&jT l[c].after (l.drop (c+1))))):=by
 rw[List.drop_eq_getElem_cons h,jT]
theorem ahe (l:List kr)(hl:l.length≤1000):aO prog 193 [.pure 2 (ai l)] [] (fun v rs=>v= .bool (jT (-1) l)∧rs= []):=by
 refine cu func193 aeL (by simp[Ft,I1]) ?_;simp only[go_sem,Ft,I1];refine dN (fun D r=> ∃ (c:Nat) (b:Int),c≤l.length∧jT (-1) l=jT b (l.drop c)∧D= [(3,.int .i64 b),(6,.pure 2 (ai l)),(7,.int .i64 l.length),(8,.int .i64 c)]∧r= [])
  (fun D _=>match bs D 8 with| .int _ j=>(l.length-j).toNat|_=>0) ?_ ?_
 ·exact E.ac ⟨0,-1,by omega,rfl,rfl,rfl⟩
 ·rintro D r ⟨c,b,av,ay,rfl,rfl⟩;have aP:=dB (c:=c) (by omega);simp only[go_sem,Ft,I1];refine cf ?_ ?_<;>intro ct<;>simp only[bC] at ct<;>simp only[go_sem,Ft,I1]
  ·have aI:c < l.length:=by omega
   refine⟨by omega,by omega,?_⟩
   try simp only[Int.toNat_natCast]
   rw[aDi aI] at ay;rw[cT aI];generalize l[c]=x at ay ⊢;simp only[go_sem,Nu];refine bM (CZ x.name) rfl rfl ?_;simp only[go_sem]
   by_cases h1:vo x.name
   rotate_left
   ·simp only[go_sem,h1];exact E.bg rfl ⟨by rw[ay];simp[h1],rfl⟩
   by_cases G:x.after≤b
   ·simp only[go_sem,h1,G];exact E.bg rfl ⟨by rw[ay];simp;omega,rfl⟩
   have px:b < x.after:=by omega
   by_cases au:10080 < x.after
   ·simp only[go_sem,h1,G,au,gt_iff_lt];exact E.bg rfl ⟨by rw[ay];simp;omega,rfl⟩
   have yg:x.after≤10080:=by omega
   simp only[go_sem,h1,G,au,aP,gt_iff_lt];simp only[h1,px,yg,decide_true,Bool.true_and] at ay;refine E.ll [] [] rfl rfl rfl ?_;simp only[go_sem];refine E.ac ⟨⟨c+1,x.after,by omega,ay,rfl,rfl⟩,?_⟩;simp only[go_sem];omega
  ·obtain rfl:c=l.length:=by omega
   refine E.bg rfl ⟨?_,rfl⟩;rw[ay,List.drop_length];rfl
structure ib where
 ef:ByteArray
 eN:List kr
 gL:List kr
def lA (aF:ib):Int:=if 16 < aF.eN.length∨16 < aF.gL.length then 3 else if vo aF.ef∧jT (-1) aF.eN=true∧jT (-1) aF.gL=true then 0 else 1
def ib.v (aF:ib):F:= .agg [.str aF.ef,.pure 2 (ai aF.eN),.pure 2 (ai aF.gL)]
theorem lQ (aF:ib):aO prog 109 [aF.v] [] (fun v rs=>v= .int .i64 (lA aF)∧rs= []):=by
 refine cu func109 adA (by simp[MZ,Ts]) ?_;unfold lA;simp only[go_sem,MZ,Ts,ib.v]
 by_cases h1: (aF.eN.length:Int)>16
 ·simp only[go_sem,h1];exact E.bg rfl ⟨by rw[if_pos (by omega)],rfl⟩
 by_cases G: (aF.gL.length:Int)>16
 ·simp only[go_sem,h1,G];exact E.bg rfl ⟨by rw[if_pos (by omega)],rfl⟩
 simp only[go_sem,h1,G];rw[if_neg (by omega)];refine bM (CZ _) rfl rfl ?_;simp only[go_sem]
 by_cases au:vo aF.ef
 rotate_left
 ·simp only[go_sem,au];exact E.bg rfl ⟨by rw[if_neg (by simp[au])],rfl⟩
 simp only[go_sem,au];refine bM (ahe _ (by omega)) rfl rfl ?_;rcases bv:jT (-1) aF.eN with _|_
 ·simp only[go_sem];exact E.bg rfl ⟨by rw[if_neg (by simp)],rfl⟩
 simp only[go_sem];refine bM (ahe _ (by omega)) rfl rfl ?_;rcases cx:jT (-1) aF.gL with _|_
 ·simp only[go_sem];exact E.bg rfl ⟨rfl,rfl⟩
 ·simp only[go_sem];exact E.bg rfl ⟨rfl,rfl⟩
def iB (a b:Int):Prop:=0≤a∧a < b∧b≤120968640
instance (a b:Int):Decidable (iB a b):=inferInstanceAs (Decidable (0≤a∧a < b∧b≤120968640))
theorem ahf (a b:Int):aO prog 194 [.agg [.int .i64 a,.int .i64 b]] [] (fun v rs=>v= .bool (decide (iB a b))∧rs= []):=by
 refine cu func194 aeM (by simp[IF,Nw]) ?_;simp only[go_sem,IF,Nw]
 repeat' ((first|refine gv ?_ ?_|refine gw ?_ ?_|refine cf ?_ ?_|refine dj ?_ ?_)<;>intro aw<;>(have ak:=aw;try simp only[bC] at ak)<;>(first|omega| (simp only[go_sem,aw,IF,Nw];clear aw)))
 all_goals ((refine E.bg rfl ⟨congrArg F.bool ?_,rfl⟩;rw[Bool.eq_iff_iff];simp only[bC,Bool.false_eq_true,false_iff,true_iff,iff_true,iff_false,and_true,true_and] at *;try simp only[iB] at *;omega))
def iF:Nat→List kr→Int→Int×Int
 |k,[],_=>((k:Int)-1,100000)
 |k,b::dl,n=>if n < b.after then ((k:Int)-1,b.after-n) else iF (k+1) dl n
theorem aDj {k:Nat}{l:List kr}{n:Int}{c:Nat}(h:c < l.length):iF k (l.drop c) n=if n < l[c].after then ((k:Int)-1,l[c].after-n) else iF (k+1) (l.drop (c+1)) n:=by
 rw[List.drop_eq_getElem_cons h,iF]
theorem ahg: ∀ {b:Int} {l:List kr},jT b l=true→ ∀ c (h:c < l.length),b < l[c].after∧l[c].after≤10080
 |b,[],_,c,h=>by simp at h
 |b,x::aq,hb,c,h=>by
  simp only[jT,Bool.and_eq_true,decide_eq_true_eq] at hb;cases c with
  |zero=>exact⟨hb.2.1,hb.2.2.1⟩
  |succ c=>have:=ahg hb.2.2.2 c (by simpa using h);simp only[List.getElem_cons_succ];omega
theorem ahh (l:List kr)(hl:l.length≤16)(hb:jT (-1) l=true)(n:Int)(aH:0≤n)(Ay:n≤1000000000000):aO prog 197 [.pure 2 (ai l),.int .i64 n] [] (fun v rs=>v= .bo [.int .i64 (iF 0 l n).1,.int .i64 (iF 0 l n).2]∧rs= []):=by
 refine cu func197 aeP (by simp[Fu,I2]) ?_;simp only[go_sem,Fu,I2];refine dN (fun D r=> ∃ c:Nat,c≤l.length∧iF 0 l n=iF c (l.drop c) n∧D= [(0,.pure 2 (ai l)),(1,.int .i64 n),(8,.pure 2 (ai l)),(9,.int .i64 l.length),(10,.int .i64 c)]∧r= [])
  (fun D _=>match bs D 10 with| .int _ j=>(l.length-j).toNat|_=>0) ?_ ?_
 ·exact E.ac ⟨0,by omega,rfl,rfl,rfl⟩
 ·rintro D r ⟨c,av,ay,rfl,rfl⟩;have aP:=dB (c:=c) (by omega);simp only[go_sem,Fu,I2];refine cf ?_ ?_<;>intro ct<;>simp only[bC] at ct<;>simp only[go_sem,Fu,I2]
  ·have aI:c < l.length:=by omega
   refine⟨by omega,by omega,?_⟩
   try simp only[Int.toNat_natCast]
   rw[aDj aI] at ay;have aj:=ahg hb c aI;rw[cT aI];generalize l[c]=x at ay aj ⊢;simp only[go_sem,Nu]
   by_cases h1:n < x.after
   ·rw[if_pos h1] at ay;simp only[go_sem,h1,gt_iff_lt];rw[bl (x:=(c:Int)-1) (by omega) (by omega),bl (x:=x.after-n) (by omega) (by omega)];exact E.bg rfl ⟨by rw[ay],rfl⟩
   ·rw[if_neg h1] at ay;simp only[go_sem,h1,aP,gt_iff_lt];refine E.ll [] [] rfl rfl rfl ?_;simp only[go_sem];refine E.ac ⟨⟨c+1,by omega,ay,rfl,rfl⟩,?_⟩;simp only[go_sem];omega
  ·obtain rfl:c=l.length:=by omega
   rw[List.drop_length] at ay;rw[bl (x:=(l.length:Int)-1) (by omega) (by omega)];exact E.bg rfl ⟨by rw[ay];rfl,rfl⟩
def ev (aD:List (Int×Int))(k:Int):Int:=(Abs.iw aD k).getD 0
theorem aDk {aD:List (Int×Int)}{k:Int}: ((Abs.iw aD k).map (fun x=>F.int .i64 x)).getD (.int .i64 0)= .int .i64 (ev aD k):=by
 unfold ev;cases Abs.iw aD k<;>rfl
theorem FF {aD:List (Int×Int)}{k v br:Int}:ev (jb k v aD) br=if br=k then v else ev aD br:=by
 unfold ev;rw[Abs.Xa];split<;>rfl
attribute [go_sem] aDk
def sK (aF:ib)(aD W:List (Int×Int))(aa:List cF):List Z:=
 [.ag 214 6 [[.str aF.ef,.pure 2 (ai aF.eN),.pure 2 (ai aF.gL),.bE 1,.bE 2,.own 3 aa.length 0 aa.length]],.be (.map false [.int .i64] (xX aD)),.be (.map false [.int .i64] (xX W)),.ag 221 4 (ai aa)]
instance:Inhabited kr:=⟨⟨⟨#[]⟩,0⟩⟩
def AT (l:List kr)(c:Int):ByteArray:=(l.getD c.toNat default).name
def jh (ah:Int):Int:=ah-(ah+3)%7
def lT (aF:ib)(aD W:List (Int×Int))(ah most:Int):ByteArray×Int×List (Int×Int)×List (Int×Int):=
 let f:=iF 0 aF.eN (ev aD ah)
 let n:=min f.2 most
 if 0≤f.1 then (AT aF.eN f.1,n,jb ah (ev aD ah+n) aD,W)
 else
  let g:=iF 0 aF.gL (ev W (jh ah))
  let lq:=min n g.2
  (if 0≤g.1 then AT aF.gL g.1 else aF.ef,lq,jb ah (ev aD ah+lq) aD,jb (jh ah) (ev W (jh ah)+lq) W)
theorem I3: ∀ {l:List kr} {b:Int} (k:Nat) {n:Int},jT b l=true→0≤n→(k:Int)-1≤(iF k l n).1∧(iF k l n).1 < k+l.length∧1≤(iF k l n).2∧(iF k l n).2≤100000
 | [],b,k,n,_,_=>by simp only[iF,List.length_nil];omega
 |x::aq,b,k,n,hb,aH=>by
  simp only[jT,Bool.and_eq_true,decide_eq_true_eq] at hb;rw[iF];split
  ·simp only[List.length_cons];omega
  ·have:=I3 (l:=aq) (k+1) hb.2.2.2 aH;simp only[List.length_cons];omega
structure Tt (aF:ib):Prop where
 B:aF.eN.length≤16
 w:aF.gL.length≤16
 ia:jT (-1) aF.eN=true
 Tu:jT (-1) aF.gL=true
theorem aDl (aF:ib)(dc:Tt aF)(aD W:List (Int×Int))(aa:List cF)(ah most:Int)(h0:0≤ah)(h1:ah≤84005)(G:1≤most)(au:most≤1000000000)
 (fC:0≤ev aD ah) (aKh:ev aD ah≤100000000000) (hW:0≤ev W (jh ah)) (yq:ev W (jh ah)≤100000000000):
 aO prog 111 [.bd 0 1 0 0,.int .i64 ah,.int .i64 most] (sK aF aD W aa)
  (fun v rs=>v= .bo [.str (lT aF aD W ah most).1,.int .i64 (lT aF aD W ah most).2.1]∧rs=sK aF (lT aF aD W ah most).2.2.1 (lT aF aD W ah most).2.2.2 aa):=by
 refine cu func111 adC (by simp[M0,Tv]) ?_;have ahi:=I3 0 dc.ia fC;have ahj:=I3 0 dc.Tu hW;have yG:=ahh aF.eN dc.B dc.ia (ev aD ah) fC (by omega);have Ae:=ahh aF.gL dc.w dc.Tu (ev W (jh ah)) hW (by omega);unfold lT sK;simp only[go_sem,M0,Tv];refine gG yG rfl rfl ?_;clear yG;generalize iF 0 aF.eN (ev aD ah)=f at ahi ⊢;obtain⟨c,n⟩:=f;simp only at ahi ⊢;simp only[go_sem]
 by_cases av:c≥0
 ·have Dz:0≤c:=av;rw[if_pos Dz];have aI:c.toNat < aF.eN.length:=by omega
  have eR: (ai aF.eN).getD c.toNat []= [.str (AT aF.eN c),.int .i64 (aF.eN.getD c.toNat default).after]:=by
   rw[cT aI,Nu,AT,List.getD_eq_getElem?_getD,List.getElem?_eq_getElem aI,Option.getD_some]
  simp only[go_sem,av,eR];rw[bl (x:=ev aD ah+min n most) (by omega) (by omega)];refine⟨by omega,?_⟩;exact E.ac ⟨rfl,rfl⟩
 ·have Dz: ¬0≤c:=av;rw[if_neg Dz];have aDm:IntKind.i64.wrap (ah-(IntKind.i64.wrap (ah+3)).tmod 7)=jh ah:=by
   rw[bl (x:=ah+3) (by omega) (by omega),Int.tmod_eq_emod_of_nonneg (by omega),bl (by omega) (by omega),jh]
  simp only[go_sem,av,aDm];refine⟨by decide,?_⟩;refine gG Ae rfl rfl ?_;clear Ae;generalize iF 0 aF.gL (ev W (jh ah))=g at ahj ⊢;obtain⟨j,m⟩:=g;simp only at ahj ⊢;simp only[go_sem];rw[bl (x:=ev aD ah+min (min n most) m) (by omega) (by omega),bl (x:=ev W (jh ah)+min (min n most) m) (by omega) (by omega)]
  by_cases aX:j≥0
  ·have oo:0≤j:=aX;rw[if_pos oo];have aI:j.toNat < aF.gL.length:=by omega
   have eR: (ai aF.gL).getD j.toNat []= [.str (AT aF.gL j),.int .i64 (aF.gL.getD j.toNat default).after]:=by
    rw[cT aI,Nu,AT,List.getD_eq_getElem?_getD,List.getElem?_eq_getElem aI,Option.getD_some]
   simp only[go_sem,aX,eR];refine⟨by omega,?_⟩;exact E.ac ⟨rfl,rfl⟩
  ·have oo: ¬0≤j:=aX;rw[if_neg oo];simp only[go_sem,aX];exact E.ac ⟨rfl,rfl⟩
def ez (a b:ByteArray):Bool:=a.toList==b.toList
def uf (p q:cF):Bool:=decide (p.ah=q.ah)&&(ez p.ep q.ep&&decide (p.ab=q.R))
def fI (aa:List cF)(q:cF):List cF:=
 match aa.getLast? with
 |some p=>if uf p q then aa.dropLast++ [{p with ab:=q.ab}] else aa++ [q]
 |none=> [q]
theorem aDn (aF:ib)(aD W:List (Int×Int))(aa:List cF)(q:cF)(hl:aa.length≤1000000000):
 aO prog 112 [.bd 0 1 0 0,.agg (aJ.J q)] (sK aF aD W aa) (fun v rs=>v= .bo []∧rs=sK aF aD W (fI aa q)):=by
 refine cu func112 adD (by simp[M1,Tw]) ?_;unfold sK;simp only[go_sem,M1,Tw,Ah]
 by_cases h0:aa= []
 ·subst h0;simp only[go_sem,Nv]
  (refine E.bB [some 0,some 1,some 2,some 3] ?_;simp only[go_sem])
  exact E.ac ⟨rfl,rfl⟩
 ·have iG:0 < aa.length:=List.length_pos_iff.2 h0;have aw: (aa.length:Int)>0:=by omega
  have aP:IntKind.i64.wrap ((aa.length:Int)-1)=((aa.length-1:Nat):Int):=by rw[bl (by omega) (by omega)];omega
  obtain⟨p,ak⟩: ∃ p,aa.getLast?=some p:=⟨_,List.getLast?_eq_some_getLast h0⟩;have aI:aa.length-1 < aa.length:=by omega
  have eR: (ai aa).getD (aa.length-1) []= [.int .i64 p.ah,.int .i64 p.R,.int .i64 p.ab,.str p.ep]:=by
   rw[cT aI];have:aa[aa.length-1]=p:=by
    rw[List.getLast?_eq_getElem?,List.getElem?_eq_getElem aI] at ak;exact Option.some.inj ak
   rw[this,Ah]
  simp only[go_sem,aw,aP];refine⟨by omega,by omega,?_⟩
  try simp only[Int.toNat_natCast]
  simp only[go_sem,eR]
  by_cases h1:p.ah=q.ah
  rotate_left
  ·have ii: (p.ah==q.ah)=false:=by simp[h1]
   have kI:fI aa q=aa++ [q]:=by rw[fI,ak];simp[uf,h1]
   simp only[go_sem,ii,eR,Nv];refine⟨by omega,?_⟩;rw[kI]
   (refine E.bB [some 0,some 1,some 2,some 3] ?_;simp only[go_sem])
   exact E.ac ⟨rfl,by simp⟩
  have ii: (p.ah==q.ah)=true:=by simp[h1]
  rcases G:ez p.ep q.ep with _|_
  ·have px: (p.ep.toList==q.ep.toList)=false:=G;have kI:fI aa q=aa++ [q]:=by rw[fI,ak];simp[uf,G]
   simp only[go_sem,ii,px,eR,Nv];refine⟨by omega,?_⟩;rw[kI]
   (refine E.bB [some 0,some 1,some 2,some 3] ?_;simp only[go_sem])
   exact E.ac ⟨rfl,by simp⟩
  have px: (p.ep.toList==q.ep.toList)=true:=G
  by_cases au:p.ab=q.R
  rotate_left
  ·have yg: (p.ab==q.R)=false:=by simp[au]
   have kI:fI aa q=aa++ [q]:=by rw[fI,ak];simp[uf,au]
   simp only[go_sem,ii,px,yg,eR,Nv];refine⟨by omega,?_⟩;rw[kI]
   (refine E.bB [some 0,some 1,some 2,some 3] ?_;simp only[go_sem])
   exact E.ac ⟨rfl,by simp⟩
  have yg: (p.ab==q.R)=true:=by simp[au]
  have kI:fI aa q=aa.set (aa.length-1) {p with ab:=q.ab}:=by
   rw[fI,ak];simp only[uf,h1,G,au,decide_true,Bool.and_self,if_true];rw[List.dropLast_eq_take,List.set_eq_take_append_cons_drop,if_pos aI,List.drop_eq_nil_of_le (by omega)]
  simp only[go_sem,ii,px,yg,eR];rw[kI];have mc: (ai aa).set (aa.length-1) [.int .i64 p.ah,.int .i64 p.R,.int .i64 q.ab,.str p.ep]=ai (aa.set (aa.length-1) {p with ab:=q.ab}):=xS (x:= {p with ab:=q.ab});rw[mc]
  (refine E.bB [some 0,some 1,some 2,some 3] ?_;simp only[go_sem])
  exact E.ac ⟨rfl,by simp⟩
def qb (w:fv):List ga:=w.gM.map fun v=>⟨w.ah,v.R,v.ab⟩
def gU (al:List fv):List ga:=al.flatMap qb
def pg (a b:ga):Prop:=a.ab≤b.R∨b.ab≤a.R
def wV (w:fv):Prop:=(0≤w.ah∧w.ah≤84005)∧ ∀ v∈w.gM,iB v.R v.ab
def hz:List ga→Int
 | []=>0
 |I::bV=>I.ab-I.R+hz bV
theorem ahk: ∀ (a b:List ga),hz (a++b)=hz a+hz b
 | [],b=>by simp[hz]
 |x::a,b=>by simp only[List.cons_append,hz,ahk a b];omega
theorem Il {a b:List ga}(h:a.Perm b):hz a=hz b:=by
 induction h with
 |nil=>rfl
 |cons x _ ih=>simp only[hz,ih]
 |swap x y l=>simp only[hz];omega
 |trans _ _ GD DC=>exact GD.trans DC
open Classical in
noncomputable def ew (al:List fv):Int:=
 if 1024 < al.length then 3
 else if ∃ w∈al,1024 < w.gM.length then 3
 else if ¬ ∀ w∈al,wV w then 1
 else if ¬(gU al).Pairwise pg then 1
 else if 100000 < hz (gU al) then 3
 else 0
theorem aDo {a b:ga}(h:pg a b):pg b a:=by unfold pg at *;omega
theorem ahl {a b:List ga}(h:a.Perm b):a.Pairwise pg↔b.Pairwise pg:=h.pairwise_iff (fun h=>aDo h)
theorem aDp {al:List fv}{c:Nat}(h:c < al.length):gU (al.take (c+1))=gU (al.take c)++qb al[c]:=by
 unfold gU;rw[List.take_add_one,List.getElem?_eq_getElem h,Option.toList_some,List.flatMap_append];simp
theorem aDq {w:fv}{j:Nat}(h:j < w.gM.length): (qb w).take (j+1)=(qb w).take j++ [⟨w.ah,w.gM[j].R,w.gM[j].ab⟩]:=by
 unfold qb;rw[List.take_add_one,List.getElem?_map,List.getElem?_eq_getElem h];rfl
theorem ahm {w:fv}: (qb w).length=w.gM.length:=by simp[qb]
theorem ahn {al:List fv}{I:ga}:I∈gU al↔ ∃ w∈al,∃ v∈w.gM,I=⟨w.ah,v.R,v.ab⟩:=by
 unfold gU qb;rw[List.mem_flatMap];constructor
 ·rintro⟨w,aP,h⟩;obtain⟨v,an,rfl⟩:=List.mem_map.1 h;exact⟨w,aP,v,an,rfl⟩
 ·rintro⟨w,aP,v,an,rfl⟩;exact⟨w,aP,List.mem_map.2 ⟨v,an,rfl⟩⟩
def sE (S:List ga):Prop:=S.Pairwise fun a b=>a.ab≤b.R
theorem aDr {S:List ga}(h:sE S):S.Pairwise pg:=h.imp fun h=> .inl h
theorem aho {S:List ga}{c:Nat}(av:c < S.length)(h:sE (S.take c))(an: ∀ I∈S,iB I.R I.ab)(h1: ∀ (h0:0 < c),(S[c-1]'(by omega)).ab≤S[c].R):sE (S.take (c+1)):=by
 unfold sE at *;rw[List.take_add_one,List.getElem?_eq_getElem av,Option.toList_some,List.pairwise_append];refine⟨h,by simp,fun a aC b hb=> ?_⟩;rw[List.mem_singleton] at hb;subst hb;obtain⟨k,O,rfl⟩:=List.getElem_of_mem aC;rw[List.length_take] at O;have aKi:k < c:=by omega
 have bF: (S.take c)[k]'(by rw[List.length_take];omega)=S[k]'(by omega):=List.getElem_take;rw[bF];have JT:=h1 (by omega)
 by_cases gO:k=c-1
 ·subst gO;exact JT
 ·rw[List.pairwise_iff_getElem] at h;have:=h k (c-1) (by rw[List.length_take];omega) (by rw[List.length_take];omega) (by omega);rw[List.getElem_take,List.getElem_take] at this;have nD:=an (S[c-1]'(by omega)) (List.getElem_mem _);unfold iB at nD;omega
theorem aDs {S:List ga}(an: ∀ I∈S,iB I.R I.ab):0≤hz S∧hz S≤120968640*S.length:=by
 induction S with
 |nil=>simp[hz]
 |cons I S ih=>
  have h1:=ih fun x aj=>an x (List.mem_cons_of_mem _ aj);have G:=an I List.mem_cons_self;unfold iB at G;simp only[hz,List.length_cons];omega
theorem Tx: ∀ {al:List fv},(∀ w∈al,w.gM.length≤1024)→(gU al).length≤1024*al.length
 | [],_=>by simp[gU]
 |w::al,h=>by
  have h1:=Tx fun x aj=>h x (List.mem_cons_of_mem _ aj);have G:=h w List.mem_cons_self;have:gU (w::al)=qb w++gU al:=rfl;rw[this,List.length_append,ahm,List.length_cons];omega
def aDt (al:List fv)(v:F)(rs:List Z):Prop:=
 (ew al≠0∧v= .bo [.bH,.int .i64 (ew al)]∧rs= [])∨
 (ew al=0∧ ∃ S:List ga,S.Perm (gU al)∧sE S∧v= .bo [.own 0 S.length 0 S.length,.int .i64 0]∧rs= [.ag 216 3 (ai S)])
set_option maxHeartbeats 1000000 in
theorem LH (al:List fv)(oY:al.length≤9223372036854775806):aO prog 110 [.pure 2 (ai al)] [] (aDt al):=by
 refine cu func110 adB (by simp[ub,vt]) ?_;simp only[go_sem,ub,vt]
 by_cases h1: (al.length:Int)>1024
 ·have he:ew al=3:=by unfold ew;rw[if_pos (by omega)]
  simp only[go_sem,h1];exact E.bg rfl (.inl ⟨by rw[he];decide,by rw[he],rfl⟩)
 simp only[go_sem,h1];refine dN (fun D r=> ∃ c:Nat,c≤al.length∧(∀ j (aX:j < c) (hl:j < al.length),al[j].gM.length≤1024)∧D= [(0,.pure 2 (ai al)),(17,.pure 2 (ai al)),(18,.int .i64 al.length),(19,.int .i64 c)]∧r= [])
  (fun D _=>match bs D 19 with| .int _ j=>(al.length-j).toNat|_=>0) ?_ ?_
 ·exact E.ac ⟨0,by omega,fun j aX=>by omega,rfl,rfl⟩
 ·rintro D r ⟨c,av,hall,rfl,rfl⟩;have aP:=dB (c:=c) (by omega);simp only[go_sem,ub,vt];refine cf ?_ ?_<;>intro ct<;>simp only[bC] at ct<;>simp only[go_sem,ub,vt]
  ·have aI:c < al.length:=by omega
   refine⟨by omega,by omega,?_⟩
   try simp only[Int.toNat_natCast]
   rw[cT aI];simp only[go_sem,aha]
   by_cases G: (al[c].gM.length:Int)>1024
   ·have he:ew al=3:=by
     unfold ew;rw[if_neg (by omega),if_pos ⟨al[c],List.getElem_mem _,by omega⟩]
    simp only[go_sem,G];exact E.bg rfl (.inl ⟨by rw[he];decide,by rw[he],rfl⟩)
   ·simp only[go_sem,G,aP];refine E.ll [] [] rfl rfl rfl ?_;simp only[go_sem];refine E.ac ⟨⟨c+1,by omega,fun j aX hl=> ?_,rfl,rfl⟩,?_⟩
    ·by_cases lL:j=c
     ·subst lL;omega
     ·exact hall j (by omega) hl
    ·simp only[go_sem];omega
  have cK: ∀ w∈al,w.gM.length≤1024:=by
   intro w aP;obtain⟨j,aX,rfl⟩:=List.getElem_of_mem aP;exact hall j (by omega) aX
  have dp:ew al=(open Classical in if ¬ ∀ w∈al,wV w then 1 else if ¬(gU al).Pairwise pg then 1 else if 100000 < hz (gU al) then 3 else 0):=by
   unfold ew;rw[if_neg (by omega),if_neg (fun⟨w,aP,h⟩=>by have:=cK w aP;omega)]
  have lj:=Tx cK;clear hall;refine dN (fun D r=> ∃ c:Nat,c≤al.length∧(∀ j (aX:j < c) (hl:j < al.length),wV al[j])∧D= [(6,.own 0 (gU (al.take c)).length 0 (gU (al.take c)).length),(28,.pure 2 (ai al)),(29,.int .i64 al.length),(30,.int .i64 c)]∧r= [.ag 216 3 (ai (gU (al.take c)))])
   (fun D _=>match bs D 30 with| .int _ j=>(al.length-j).toNat|_=>0) ?_ ?_
  ·(refine E.iv 6 216 3 rfl (E.eW [6,28,29,30] ?_);simp only[go_sem])
   exact E.ac ⟨0,by omega,fun j aX=>by omega,rfl,rfl⟩
  rintro D r ⟨c,av,hall,rfl,rfl⟩;have aP:=dB (c:=c) (by omega);simp only[go_sem,ub,vt];refine cf ?_ ?_<;>intro ct<;>simp only[bC] at ct<;>simp only[go_sem,ub,vt]
  ·have aI:c < al.length:=by omega
   refine⟨by omega,by omega,?_⟩
   try simp only[Int.toNat_natCast]
   rw[cT aI];have hN:=aDp aI;have qR: ¬wV al[c]→ew al=1:=fun h=>by rw[dp,if_pos (fun cR=>h (cR _ (List.getElem_mem _)))]
   have sF:=cK al[c] (List.getElem_mem _);have oa: (gU (al.take c)).length≤1024*1024:=by
    have:=Tx (al:=al.take c) fun w aP=>cK w (List.mem_of_mem_take aP);have G:=List.length_take_le c al;have au: (al.take c).length≤1024:=by rw[List.length_take];omega
    omega
   have aA:wV al[c]→ ∀ j (aX:j < c+1) (hl:j < al.length),wV al[j]:=fun h j aX hl=>by
    by_cases lL:j=c
    ·subst lL;exact h
    ·exact hall j (by omega) hl
   generalize al[c]=w at hN qR sF aA ⊢;generalize eZ:gU (al.take c)=X at *;simp only[go_sem,aha]
   by_cases ay:w.ah < 0∨84005 < w.ah
   ·have he:=qR (fun h=>by have:=h.1;omega);rcases ay with ay|ay
    ·simp only[go_sem,ay];refine E.ll [] [] rfl rfl rfl ?_;simp only[go_sem];exact E.ac (.inl ⟨by rw[he];decide,by rw[he];rfl,rfl⟩)
    ·have CY: ¬w.ah < 0:=by omega
     have AQ:w.ah>84005:=ay;simp only[go_sem,CY,AQ];refine E.ll [] [] rfl rfl rfl ?_;simp only[go_sem];exact E.ac (.inl ⟨by rw[he];decide,by rw[he];rfl,rfl⟩)
   have CY: ¬w.ah < 0:=by omega
   have AQ: ¬w.ah>84005:=by omega
   simp only[go_sem,CY,AQ];refine dN (fun D r=> ∃ j:Nat,j≤w.gM.length∧(∀ k (O:k < j) (hl:k < w.gM.length),iB w.gM[k].R w.gM[k].ab)∧D= [(6,.own 0 (X++(qb w).take j).length 0 (X++(qb w).take j).length),(8,.bd 1 1 0 0),(28,.pure 2 (ai al)),(29,.int .i64 al.length),(30,.int .i64 c),(43,.pure 2 (ai w.gM)),(44,.int .i64 w.gM.length),(45,.int .i64 j)]∧r= [.ag 216 3 (ai (X++(qb w).take j)),.ag 62 2 [[.int .i64 w.ah,.pure 2 (ai w.gM)]]])
    (fun D _=>match bs D 45 with| .int _ j=>(w.gM.length-j).toNat|_=>0) ?_ ?_
   ·exact E.ac ⟨0,by omega,fun k O=>by omega,by simp,by simp⟩
   rintro D r ⟨j,aX,qE,rfl,rfl⟩;have nf:=dB (c:=j) (by omega);simp only[go_sem,ub,vt];refine cf ?_ ?_<;>intro fH<;>simp only[bC] at fH<;>simp only[go_sem,ub,vt]
   ·have ahp:j < w.gM.length:=by omega
    refine⟨by omega,by omega,?_⟩
    try simp only[Int.toNat_natCast]
    rw[cT ahp];have ahq:=aDq ahp;have Cu: (X++(qb w).take j).length≤1024*1024+1024:=by rw[List.length_append,List.length_take];omega
    have ahr: ¬iB w.gM[j].R w.gM[j].ab→ew al=1:=fun h=>qR fun cR=>h (cR.2 _ (List.getElem_mem _));have ahs:iB w.gM[j].R w.gM[j].ab→ ∀ k (O:k < j+1) (hl:k < w.gM.length),iB w.gM[k].R w.gM[k].ab:=fun h k O hl=>by
     by_cases KF:k=j
     ·subst KF;exact h
     ·exact qE k (by omega) hl
    generalize w.gM[j]=u at ahq ahr ahs ⊢;simp only[go_sem,eY];refine bM (ahf _ _) rfl rfl ?_
    by_cases bc:iB u.R u.ab
    ·simp only[go_sem,bc,aC3];refine⟨by rw[List.length_append] at Cu ⊢;omega,?_⟩;simp only[go_sem,nf];have wF:X++List.take j (qb w)++ [⟨w.ah,u.R,u.ab⟩]=X++(qb w).take (j+1):=by rw[ahq,List.append_assoc]
     rw[wF]
     (refine E.bB [some 0,some 1] ?_;simp only[go_sem])
     refine E.ac ⟨⟨j+1,by omega,ahs bc,?_,rfl⟩,?_⟩
     ·rw[←wF];simp;omega
     ·simp only[go_sem];omega
    ·have he:=ahr bc;simp only[go_sem,bc];refine E.ll [] [] rfl rfl rfl ?_;simp only[go_sem];exact E.ac (.inl ⟨by rw[he];decide,by rw[he];rfl,rfl⟩)
   ·have nH:wV w:=⟨by omega,fun v an=>by
     obtain⟨k,O,rfl⟩:=List.getElem_of_mem an;exact qE k (by omega) O⟩
    have wF:X++List.take j (qb w)=gU (al.take (c+1)):=by
     rw[hN,List.take_of_length_le (by rw[ahm];omega)]
    rw[wF];simp only[go_sem,aP]
    (refine E.bB [some 0] ?_;simp only[go_sem])
    refine E.ac ⟨⟨c+1,by omega,aA nH,rfl,rfl⟩,?_⟩;simp only[go_sem];omega
  have kv:c=al.length:=by omega
  have yj: ∀ w∈al,wV w:=by
   intro w aP;obtain⟨j,aX,rfl⟩:=List.getElem_of_mem aP;exact hall j (by omega) aX
  rw[kv,List.take_length];rw[if_neg (fun h=>h yj)] at dp;clear hall kv;have kU: ∀ I∈gU al,iB I.R I.ab:=by
   intro I ao;obtain⟨w,aP,v,an,rfl⟩:=ahn.1 ao;exact (yj w aP).2 v an
  have aKj: (gU al).length≤1024*1024:=by omega
  (refine fy [0] (aCn (gU al) (by omega)) ?_;rintro _ _ ⟨rfl,S,kV,K3,rfl⟩;simp only[go_sem])
  have Ag:=kV.length_eq;have Nx: ∀ I∈S,iB I.R I.ab:=fun I ao=>kU I (kV.mem_iff.1 ao)
  replace dp:ew al=(open Classical in if ¬S.Pairwise pg then 1 else if 100000 < hz S then 3 else 0):=by
   rw[dp,Il kV]
   by_cases h:S.Pairwise pg
   ·have G:=(ahl kV).1 h;rw[if_neg (fun cR: ¬List.Pairwise pg (gU al)=>cR G),if_neg (fun cR: ¬List.Pairwise pg S=>cR h)]
   ·have G: ¬List.Pairwise pg (gU al):=fun cR=>h ((ahl kV).2 cR);rw[if_pos G,if_pos h]
  rw[←Ag];clear kU lj cK;refine dN (fun D r=> ∃ c:Nat,c≤S.length∧sE (S.take c)∧D= [(6,.own 0 S.length 0 S.length),(11,.int .i64 (hz (S.take c))),(63,.own 0 S.length 0 S.length),(64,.int .i64 S.length),(65,.int .i64 c)]∧r= [.ag 216 3 (ai S)])
   (fun D _=>match bs D 65 with| .int _ j=>(S.length-j).toNat|_=>0) ?_ ?_
  ·exact E.ac ⟨0,by omega,by simp[sE],rfl,rfl⟩
  rintro D r ⟨c,av,AO,rfl,rfl⟩;have aP:=dB (c:=c) (by omega);have so:=aDs (S:=S.take c) fun I ao=>Nx I (List.mem_of_mem_take ao);have aCc: (S.take c).length≤1048576:=by rw[List.length_take];omega
  simp only[go_sem,ub,vt];refine cf ?_ ?_<;>intro ct<;>simp only[bC] at ct<;>simp only[go_sem,ub,vt]
  ·have aI:c < S.length:=by omega
   have aDu: (ai S).getD c []= [.int .i64 S[c].ah,.int .i64 S[c].R,.int .i64 S[c].ab]:=by rw[cT aI,No]
   refine⟨by omega,by omega,?_⟩
   try simp only[Int.toNat_natCast]
   rw[aDu];have nD:=Nx S[c] (List.getElem_mem _);have Nj:hz (S.take (c+1))=hz (S.take c)+(S[c].ab-S[c].R):=by
    rw[List.take_add_one,List.getElem?_eq_getElem aI,Option.toList_some,ahk];simp[hz]
   have gI:IntKind.i64.wrap (hz (S.take c)+IntKind.i64.wrap (S[c].ab-S[c].R))=hz (S.take (c+1)):=by
    unfold iB at nD;rw[bl (x:=S[c].ab-S[c].R) (by omega) (by omega),bl (by omega) (by omega),Nj]
   by_cases h0:0 < c
   rotate_left
   ·have qo: ¬(c:Int)>0:=by omega
    simp only[go_sem,qo,aP,gI]
    (refine E.bB [some 0] ?_;simp only[go_sem])
    refine E.ac ⟨⟨c+1,by omega,aho aI AO Nx (fun h=>(h0 h).elim),rfl,rfl⟩,?_⟩;simp only[go_sem];omega
   have qo: (c:Int)>0:=by omega
   have dn:IntKind.i64.wrap ((c:Int)-1)=((c-1:Nat):Int):=by rw[bl (by omega) (by omega)];omega
   have Ty:c-1 < S.length:=by omega
   have FG: (ai S).getD (c-1) []= [.int .i64 S[c-1].ah,.int .i64 S[c-1].R,.int .i64 S[c-1].ab]:=by rw[cT Ty,No]
   simp only[go_sem,qo,dn];refine⟨by omega,by omega,?_⟩
   try simp only[Int.toNat_natCast]
   rw[FG];simp only[go_sem]
   by_cases vO:S[c].R < S[c-1].ab
   ·have he:ew al=1:=by
     rw[dp,if_pos];intro K4;rw[List.pairwise_iff_getElem] at K4 K3;have cH:=K4 (c-1) c Ty aI (by omega);have ff:=K3 (c-1) c Ty aI (by omega);unfold pg at cH;unfold iB at nD;omega
    simp only[go_sem,vO];refine E.ll [] [] rfl rfl rfl ?_;simp only[go_sem];exact E.ac (.inl ⟨by rw[he];decide,by rw[he];rfl,rfl⟩)
   ·simp only[go_sem,vO,aP,gI]
    (refine E.bB [some 0] ?_;simp only[go_sem])
    refine E.ac ⟨⟨c+1,by omega,aho aI AO Nx (fun h=>by omega),rfl,rfl⟩,?_⟩;simp only[go_sem];omega
  ·obtain rfl:c=S.length:=by omega
   rw[List.take_length] at *;rw[if_neg (fun h=>h (aDr AO))] at dp
   by_cases hm:hz S>100000
   ·rw[if_pos hm] at dp;simp only[go_sem,hm];refine E.ll [] [] rfl rfl rfl ?_;simp only[go_sem];exact E.ac (.inl ⟨by rw[dp];decide,by rw[dp];rfl,rfl⟩)
   ·rw[if_neg hm] at dp;simp only[go_sem,hm];exact E.ac (.inr ⟨dp,S,kV,AO,rfl,rfl⟩)
theorem TD {k v gA:Int}: ∀ {aD:List (Int×Int)},jb k v (jb k gA aD)=jb k v aD
 | []=>by simp[jb]
 |p::aD=>by
  rw[jb]
  by_cases h: (k==p.1)=true
  ·rw[if_pos h,jb,jb,if_pos h];simp
  ·rw[if_neg h,jb,if_neg h,TD,jb,if_neg h]
theorem TE: ∀ {l:List kr} (k:Nat) {n j:Int},0≤j→j < (iF k l n).2→(iF k l (n+j)).1=(iF k l n).1
 | [],k,n,j,_,_=>rfl
 |b::dl,k,n,j,h0,h1=>by
  rw[iF] at h1 ⊢;rw[iF]
  by_cases h:n < b.after
  ·rw[if_pos h] at h1 ⊢;simp only at h1;rw[if_pos (by omega)]
  ·rw[if_neg h] at h1 ⊢;rw[if_neg (by omega)];exact TE (k+1) h0 h1
structure TF where
 aD:List (Int×Int)
 W:List (Int×Int)
 aa:List cF
def qc (aF:ib)(aD W:List (Int×Int))(ah:Int):ByteArray×Bool:=
 if 0≤(iF 0 aF.eN (ev aD ah)).1 then (AT aF.eN (iF 0 aF.eN (ev aD ah)).1,false)
 else (if 0≤(iF 0 aF.gL (ev W (jh ah))).1 then AT aF.gL (iF 0 aF.gL (ev W (jh ah))).1 else aF.ef,true)
def C2 (aF:ib)(I:TF)(m:Int×Int):TF:=
 ⟨jb m.1 (ev I.aD m.1+1) I.aD,if (qc aF I.aD I.W m.1).2 then jb (jh m.1) (ev I.W (jh m.1)+1) I.W else I.W,fI I.aa ⟨m.1,m.2,m.2+1,(qc aF I.aD I.W m.1).1⟩⟩
def run (aF:ib)(lk:List (Int×Int)):TF:=lk.foldl (C2 aF) ⟨[],[],[]⟩
def mE (ah R:Int)(n:Nat):List (Int×Int):=(List.range n).map fun (j:Nat)=>(ah,R+j)
def FH (I:ga):List (Int×Int):=mE I.ah I.R (I.ab-I.R).toNat
def kE (S:List ga):List (Int×Int):=S.flatMap FH
theorem TG (ah R:Int)(n:Nat):mE ah R (n+1)=mE ah R n++ [(ah,R+n)]:=by
 unfold mE;rw[List.range_succ,List.map_append];rfl
theorem aht (ah R:Int)(n:Nat): ∀ m,mE ah R (n+m)=mE ah R n++mE ah (R+n) m
 |0=>by simp[mE]
 |m+1=>by rw[←Nat.add_assoc,TG,aht ah R n m,TG,List.append_assoc,show R+((n+m:Nat):Int)=R+(n:Int)+(m:Int) from by omega]
theorem TA (ah R:Int)(n:Nat): (mE ah R n).length=n:=by simp[mE]
theorem FI (a:ByteArray):ez a a=true:=by simp[ez]
theorem ahu {aa:List cF}{p q:cF}(ak:aa.getLast?=some p)(h:uf p q=true):fI aa q=aa.dropLast++ [{p with ab:=q.ab}]:=by
 unfold fI;rw[ak];simp only;rw[if_pos h]
theorem ahv {aa:List cF}{p q:cF}(ak:aa.getLast?=some p)(h: ¬uf p q=true):fI aa q=aa++ [q]:=by
 unfold fI;rw[ak];simp only;rw[if_neg h]
theorem aDD {aa:List cF}{q wg:cF}(h1:q.ah=wg.ah)(G:q.ep=wg.ep)(au:q.ab=wg.R):fI (fI aa q) wg=fI aa {q with ab:=wg.ab}:=by
 obtain⟨B,f,t,b⟩:=q;obtain⟨iy,VZ,tC,eE⟩:=wg;simp only at h1 G au;subst h1;subst G;subst au;have key: ∀ (aq:List cF) (p:cF),p.ah=B→ez p.ep b=true→p.ab=t→fI (aq++ [p]) ⟨B,t,tC,b⟩=aq++ [{p with ab:=tC}]:=by
  intro aq p h1 G au;unfold fI;simp only[List.getLast?_append,List.getLast?_singleton,Option.some_or,uf,h1,G,au,decide_true,Bool.and_self,if_true,List.dropLast_concat]
 cases ak:aa.getLast? with
 |none=>
  have e:aa= []:=by simpa using ak
  subst e;exact key [] ⟨B,f,t,b⟩ rfl (FI b) rfl
 |some p=>
  by_cases aw:uf p ⟨B,f,t,b⟩=true
  ·have HA:uf p ⟨B,f,tC,b⟩=true:=aw;rw[ahu ak aw,ahu ak HA];simp only[uf,Bool.and_eq_true,decide_eq_true_eq] at aw;exact key aa.dropLast {p with ab:=t} aw.1 aw.2.1 rfl
  ·have HA: ¬uf p ⟨B,f,tC,b⟩=true:=aw;rw[ahv ak aw,ahv ak HA];exact key aa ⟨B,f,t,b⟩ rfl (FI b) rfl
theorem aDC (aF:ib)(aD W:List (Int×Int))(aa:List cF)(ah most R:Int)(n:Nat)(h1:1≤n)(aH: (n:Int)≤(lT aF aD W ah most).2.1):
 (mE ah R n).foldl (C2 aF) ⟨aD,W,aa⟩=⟨jb ah (ev aD ah+n) aD,if (qc aF aD W ah).2 then jb (jh ah) (ev W (jh ah)+n) W else W,fI aa ⟨ah,R,R+n,(lT aF aD W ah most).1⟩⟩:=by
 have hb: (lT aF aD W ah most).1=(qc aF aD W ah).1:=by
  unfold lT qc;simp only;split<;>rfl
 have ay: (n:Int)≤(iF 0 aF.eN (ev aD ah)).2:=by
  unfold lT at aH;simp only at aH;split at aH
  ·simp only at aH;omega
  ·simp only at aH;omega
 have nH: (qc aF aD W ah).2=true→(n:Int)≤(iF 0 aF.gL (ev W (jh ah))).2:=by
  unfold lT at aH;unfold qc;simp only at aH;split
  ·intro h;cases h
  ·rename_i h;rw[if_neg h] at aH;simp only at aH;intro _;omega
 rw[hb];clear hb aH;have ahw: ∀ j:Nat,j < n→ ∀ BM W',ev BM ah=ev aD ah+j→((qc aF aD W ah).2=true→ev W' (jh ah)=ev W (jh ah)+j)→qc aF BM W' ah=qc aF aD W ah:=by
  intro j aX BM W' aDE hW';have bF:=TE (l:=aF.eN) 0 (n:=ev aD ah) (j:=j) (by omega) (by omega);unfold qc at *;rw[aDE,bF]
  by_cases h:0≤(iF 0 aF.eN (ev aD ah)).1
  ·rw[if_pos h,if_pos h]
  ·rw[if_neg h] at hW' nH ⊢;have bK:=TE (l:=aF.gL) 0 (n:=ev W (jh ah)) (j:=j) (by omega) (by have:=nH rfl;omega);rw[if_neg h,hW' rfl,bK]
 induction n with
 |zero=>omega
 |succ m ih=>
  rw[TG,List.foldl_append]
  by_cases hm:m=0
  ·subst hm;simp only[mE,List.range_zero,List.map_nil,List.foldl_nil,List.foldl_cons];unfold C2;simp
  ·rw[ih (by omega) (by omega) (fun h=>by have:=nH h;omega) (fun j aX=>ahw j (by omega))];simp only[List.foldl_cons,List.foldl_nil];have aDF:=ahw m (by omega) (jb ah (ev aD ah+m) aD) (if (qc aF aD W ah).2=true then jb (jh ah) (ev W (jh ah)+m) W else W) (by rw[FF,if_pos rfl]) (fun h=>by rw[if_pos h,FF,if_pos rfl]);unfold C2;simp only;rw[aDF,FF,if_pos rfl,TD,aDD (q:=⟨ah,R,R+m,_⟩) (wg:=⟨ah,R+m,R+m+1,_⟩) rfl rfl rfl];congr 1
   ·congr 1;omega
   ·split
    ·rw[FF,if_pos rfl,TD];congr 1;omega
    ·rfl
   ·congr 2;simp only;omega
theorem aDB (aF:ib)(aD W:List (Int×Int))(ah most:Int): (lT aF aD W ah most).2.2.1=jb ah (ev aD ah+(lT aF aD W ah most).2.1) aD∧(lT aF aD W ah most).2.2.2=if (qc aF aD W ah).2 then jb (jh ah) (ev W (jh ah)+(lT aF aD W ah most).2.1) W else W:=by
 unfold lT qc;simp only
 by_cases h:0≤(iF 0 aF.eN (ev aD ah)).1
 ·rw[if_pos h,if_pos h];simp
 ·rw[if_neg h,if_neg h];simp
theorem aDA {aF:ib}(dc:Tt aF){aD W:List (Int×Int)}{ah most:Int}(fC:0≤ev aD ah)(hW:0≤ev W (jh ah))(hm:1≤most):1≤(lT aF aD W ah most).2.1∧(lT aF aD W ah most).2.1≤most:=by
 have h1:=I3 0 dc.ia fC;have G:=I3 0 dc.Tu hW;unfold lT;simp only;split
 ·simp only;omega
 ·simp only;omega
theorem aDG (aa:List cF)(q:cF): (fI aa q).length≤aa.length+1:=by
 unfold fI;split
 ·split
  ·simp;try omega
  ·simp
 ·simp
theorem aDH (aF:ib)(lk:List (Int×Int))(m:Int×Int):run aF (lk++ [m])=C2 aF (run aF lk) m:=by
 unfold run;rw[List.foldl_append];rfl
theorem aDy (aF:ib)(lk jJ:List (Int×Int)):run aF (lk++jJ)=jJ.foldl (C2 aF) (run aF lk):=by
 unfold run;rw[List.foldl_append]
theorem aDI {bj:Type}{P:List bj→Prop}(h0:P [])(h1: ∀ l x,P l→P (l++ [x]))(l:List bj):P l:=by
 have: ∀ n (l:List bj),l.length=n→P l:=by
  intro n
  induction n with
  |zero=>intro l hl;rw[List.length_eq_zero_iff.1 hl];exact h0
  |succ n ih=>
   intro l hl;have hne:l≠ []:=fun e=>by rw[e] at hl;simp at hl
   rw[←List.dropLast_concat_getLast hne];exact h1 _ _ (ih _ (by rw[List.length_dropLast];omega))
 exact this l.length l rfl
theorem aaL (aF:ib)(lk:List (Int×Int)): (∀ k,0≤ev (run aF lk).aD k∧ev (run aF lk).aD k≤lk.length)∧(∀ k,0≤ev (run aF lk).W k∧ev (run aF lk).W k≤lk.length)∧(run aF lk).aa.length≤lk.length:=by
 induction lk using aDI with
 |h0=>exact⟨fun k=>by simp[run,ev,Abs.iw],fun k=>by simp[run,ev,Abs.iw],by simp[run]⟩
 |h1 lk m ih=>
  obtain⟨h1,G,au⟩:=ih;rw[aDH,List.length_append];unfold C2;refine⟨fun k=> ?_,fun k=> ?_,?_⟩
  ·simp only[FF];have a:=h1 k;have b:=h1 m.1;split<;>simp<;>omega
  ·simp only;have a:=G k;have b:=G (jh m.1);split
   ·rw[FF];split<;>simp<;>omega
   ·simp;omega
  ·simp only;have:=aDG (run aF lk).aa ⟨m.1,m.2,m.2+1,(qc aF (run aF lk).aD (run aF lk).W m.1).1⟩;simp;omega
theorem aDx {S:List ga}{c:Nat}(h:c < S.length):kE (S.take (c+1))=kE (S.take c)++FH S[c]:=by
 unfold kE;rw[List.take_add_one,List.getElem?_eq_getElem h,Option.toList_some,List.flatMap_append];simp
theorem Sj: ∀ {S:List ga},(∀ I∈S,iB I.R I.ab)→((kE S).length:Int)=hz S
 | [],_=>rfl
 |I::S,h=>by
  have h1:=Sj (S:=S) fun x aj=>h x (List.mem_cons_of_mem _ aj);have G:=h I List.mem_cons_self;have:kE (I::S)=FH I++kE S:=rfl;unfold iB at G;rw[this,List.length_append,FH,TA,hz];omega
end Go.Proofs.YtpincjkjoeopkaaGreatDoor.Ib
