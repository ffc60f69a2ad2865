/- Events and bands. -/
import Derived.Test.YtpincjkjoeopkaaGreatDoorK25
import Derived.Test.YtpincjkjoeopkaaGreatDoorK15
set_option linter.unusedSimpArgs false
set_option linter.unusedVariables false
set_option linter.unusedSectionVars false
namespace Go.Proofs.YtpincjkjoeopkaaGreatDoor.Ib
open Go Go.Abs Go.Proofs.Tryz
def zE (E:ByteArray)(c:Nat):Nat:=(E.data.getD c 0).toNat
def zF (F c:Nat):Prop:=(97≤F∧F≤122)∨(c≠0∧((48≤F∧F≤57)∨F=95))
instance (F c:Nat):Decidable (zF F c):=inferInstanceAs (Decidable ((97≤F∧F≤122)∨(c≠0∧((48≤F∧F≤57)∨F=95))))
def up (E:ByteArray):Prop:=(1≤E.size∧E.size≤24)∧ ∀ j,j < E.size→zF (zE E j) j
instance (E:ByteArray):Decidable (up E):=inferInstanceAs (Decidable ((1≤E.size∧E.size≤24)∧ ∀ j,j < E.size→zF (zE E j) j))
theorem BS (E:ByteArray):aK prog 192 [.str E] [] (fun v rs=>v= .bool (decide (up E))∧rs= []):=by
 refine cr func192 adr (by simp[zt,BU]) ?_;simp only[go_sem,zt,BU]
 by_cases ak:1≤E.size∧E.size≤24
 rotate_left
 ·have aB:decide (up E)=false:=decide_eq_false fun h=>ak h.1;rw[aB]
  repeat' ((first|refine gF ?_ ?_|refine gP ?_ ?_|refine cg ?_ ?_|refine dg ?_ ?_)<;>intro ao<;>(have ae:=ao;try simp only[bA] at ae)<;>(first|omega| (simp only[go_sem,ao,zt,BU];clear ao)))
  all_goals exact s.bb rfl ⟨rfl,rfl⟩
 have h1: ¬(E.size:Int) < 1:=by omega
 have B: ¬(E.size:Int)>24:=by omega
 simp only[go_sem,h1,B];refine dR (fun r d=> ∃ c:Nat,c≤E.size∧(∀ j,j < c→zF (zE E j) j)∧r= [(0,.str E),(16,.int .i64 E.size),(17,.int .i64 c)]∧d= [])
  (fun r _=>match bn r 17 with| .int _ j=>(E.size-j).toNat|_=>0) ?_ ?_
 ·exact s.U ⟨0,by omega,fun j aT=>by omega,rfl,rfl⟩
 ·rintro r d ⟨c,an,hall,rfl,rfl⟩;have aR:=dr (c:=c) (by omega);simp only[go_sem,zt,BU];refine cg ?_ ?_<;>intro ck<;>simp only[bA] at ck<;>simp only[go_sem,zt,BU]
  ·refine⟨by omega,by omega,?_⟩
   try simp only[Int.toNat_natCast]
   have Z:zE E c=(E.data.getD c 0).toNat:=rfl;rw[←Z];clear Z h1 B;have qj: ¬zF (zE E c) c→decide (up E)=false:=fun h=>decide_eq_false fun cJ=>h (cJ.2 c (by omega));have lQ:zF (zE E c) c→ ∀ j,j < c+1→zF (zE E j) j:=fun h j aT=>by
    by_cases ml:j=c
    ·subst ml;exact h
    ·exact hall j (by omega)
   clear hall;generalize zE E c=F at qj lQ ⊢;simp only[zF] at qj lQ
   repeat' ((first|refine gF ?_ ?_|refine gP ?_ ?_|refine cg ?_ ?_|refine dg ?_ ?_)<;>intro ao<;>(have ae:=ao;try simp only[bA] at ae)<;>(first|omega| (simp only[go_sem,ao,zt,BU,aR];clear ao)))
   all_goals first
    | (refine s.bb rfl ⟨?_,rfl⟩;rw[qj (by omega)];done)
    | (refine s.U ⟨⟨c+1,by omega,lQ (by omega),rfl,rfl⟩,?_⟩;simp only[go_sem];omega)
  ·refine s.bb rfl ⟨?_,rfl⟩;rw[decide_eq_true];exact⟨ak,fun j aT=>hall j (by omega)⟩
def jD:Int→List jU→Bool
 |_,[]=>true
 |b,x::ai=>decide (up x.name)&&(decide (b < x.after)&&(decide (x.after≤10080)&&jD x.after ai))
theorem aB0 {b:Int}{l:List jU}{c:Nat}(h:c < l.length):jD b (l.drop c)=(decide (up l[c].name)&&(decide (b < l[c].after)&&(decide (l[c].after≤10080)&&jD l[c].after (l.drop (c+1))))):=by
 rw[List.drop_eq_getElem_cons h,jD]
theorem afN (l:List jU)(hl:l.length≤1000):aK prog 193 [.pure 2 (ac l)] [] (fun v rs=>v= .bool (jD (-1) l)∧rs= []):=by
 refine cr func193 ads (by simp[El,HN]) ?_;simp only[go_sem,El,HN];refine dR (fun r d=> ∃ (c:Nat) (b:Int),c≤l.length∧jD (-1) l=jD b (l.drop c)∧r= [(3,.int .i64 b),(6,.pure 2 (ac l)),(7,.int .i64 l.length),(8,.int .i64 c)]∧d= [])
  (fun r _=>match bn r 8 with| .int _ j=>(l.length-j).toNat|_=>0) ?_ ?_
 ·exact s.U ⟨0,-1,by omega,rfl,rfl,rfl⟩
 ·rintro r d ⟨c,b,an,aq,rfl,rfl⟩;have aR:=dr (c:=c) (by omega);simp only[go_sem,El,HN];refine cg ?_ ?_<;>intro ck<;>simp only[bA] at ck<;>simp only[go_sem,El,HN]
  ·have aC:c < l.length:=by omega
   refine⟨by omega,by omega,?_⟩
   try simp only[Int.toNat_natCast]
   rw[aB0 aC] at aq;rw[cQ aC];generalize l[c]=x at aq ⊢;simp only[go_sem,Mr];refine bH (BS x.name) rfl rfl ?_;simp only[go_sem]
   by_cases h1:up x.name
   rotate_left
   ·simp only[go_sem,h1];exact s.bb rfl ⟨by rw[aq];simp[h1],rfl⟩
   by_cases B:x.after≤b
   ·simp only[go_sem,h1,B];exact s.bb rfl ⟨by rw[aq];simp;omega,rfl⟩
   have oI:b < x.after:=by omega
   by_cases am:10080 < x.after
   ·simp only[go_sem,h1,B,am,gt_iff_lt];exact s.bb rfl ⟨by rw[aq];simp;omega,rfl⟩
   have wZ:x.after≤10080:=by omega
   simp only[go_sem,h1,B,am,aR,gt_iff_lt];simp only[h1,oI,wZ,decide_true,Bool.true_and] at aq;refine s.kb [] [] rfl rfl rfl ?_;simp only[go_sem];refine s.U ⟨⟨c+1,x.after,by omega,aq,rfl,rfl⟩,?_⟩;simp only[go_sem];omega
  ·obtain rfl:c=l.length:=by omega
   refine s.bb rfl ⟨?_,rfl⟩;rw[aq,List.drop_length];rfl
structure hJ where
 dX:ByteArray
 eC:List jU
 gA:List jU
def mu (az:hJ):Int:=if 16 < az.eC.length∨16 < az.gA.length then 3 else if up az.dX∧jD (-1) az.eC=true∧jD (-1) az.gA=true then 0 else 1
def hJ.v (az:hJ):z:= .agg [.str az.dX,.pure 2 (ac az.eC),.pure 2 (ac az.gA)]
theorem mY (az:hJ):aK prog 109 [az.v] [] (fun v rs=>v= .int .i64 (mu az)∧rs= []):=by
 refine cr func109 ace (by simp[LS,Sk]) ?_;unfold mu;simp only[go_sem,LS,Sk,hJ.v]
 by_cases h1: (az.eC.length:Int)>16
 ·simp only[go_sem,h1];exact s.bb rfl ⟨by rw[if_pos (by omega)],rfl⟩
 by_cases B: (az.gA.length:Int)>16
 ·simp only[go_sem,h1,B];exact s.bb rfl ⟨by rw[if_pos (by omega)],rfl⟩
 simp only[go_sem,h1,B];rw[if_neg (by omega)];refine bH (BS _) rfl rfl ?_;simp only[go_sem]
 by_cases am:up az.dX
 rotate_left
 ·simp only[go_sem,am];exact s.bb rfl ⟨by rw[if_neg (by simp[am])],rfl⟩
 simp only[go_sem,am];refine bH (afN _ (by omega)) rfl rfl ?_;rcases bp:jD (-1) az.eC with _|_
 ·simp only[go_sem];exact s.bb rfl ⟨by rw[if_neg (by simp)],rfl⟩
 simp only[go_sem];refine bH (afN _ (by omega)) rfl rfl ?_;rcases cn:jD (-1) az.gA with _|_
 ·simp only[go_sem];exact s.bb rfl ⟨rfl,rfl⟩
 ·simp only[go_sem];exact s.bb rfl ⟨rfl,rfl⟩
def ik (a b:Int):Prop:=0≤a∧a < b∧b≤120968640
instance (a b:Int):Decidable (ik a b):=inferInstanceAs (Decidable (0≤a∧a < b∧b≤120968640))
theorem afO (a b:Int):aK prog 194 [.agg [.int .i64 a,.int .i64 b]] [] (fun v rs=>v= .bool (decide (ik a b))∧rs= []):=by
 refine cr func194 adt (by simp[Hs,Mt]) ?_;simp only[go_sem,Hs,Mt]
 repeat' ((first|refine gF ?_ ?_|refine gP ?_ ?_|refine cg ?_ ?_|refine dg ?_ ?_)<;>intro ao<;>(have ae:=ao;try simp only[bA] at ae)<;>(first|omega| (simp only[go_sem,ao,Hs,Mt];clear ao)))
 all_goals ((refine s.bb rfl ⟨congrArg z.bool ?_,rfl⟩;rw[Bool.eq_iff_iff];simp only[bA,Bool.false_eq_true,false_iff,true_iff,iff_true,iff_false,and_true,true_and] at *;try simp only[ik] at *;omega))
def io:Nat→List jU→Int→Int×Int
 |k,[],_=>((k:Int)-1,100000)
 |k,b::dc,n=>if n < b.after then ((k:Int)-1,b.after-n) else io (k+1) dc n
theorem aB1 {k:Nat}{l:List jU}{n:Int}{c:Nat}(h:c < l.length):io k (l.drop c) n=if n < l[c].after then ((k:Int)-1,l[c].after-n) else io (k+1) (l.drop (c+1)) n:=by
 rw[List.drop_eq_getElem_cons h,io]
theorem afP: ∀ {b:Int} {l:List jU},jD b l=true→ ∀ c (h:c < l.length),b < l[c].after∧l[c].after≤10080
 |b,[],_,c,h=>by simp at h
 |b,x::ai,Z,c,h=>by
  simp only[jD,Bool.and_eq_true,decide_eq_true_eq] at Z;cases c with
  |zero=>exact⟨Z.2.1,Z.2.2.1⟩
  |succ c=>have:=afP Z.2.2.2 c (by simpa using h);simp only[List.getElem_cons_succ];omega
theorem afQ (l:List jU)(hl:l.length≤16)(Z:jD (-1) l=true)(n:Int)(aB:0≤n)(zo:n≤1000000000000):aK prog 197 [.pure 2 (ac l),.int .i64 n] [] (fun v rs=>v= .bg [.int .i64 (io 0 l n).1,.int .i64 (io 0 l n).2]∧rs= []):=by
 refine cr func197 adw (by simp[Em,HO]) ?_;simp only[go_sem,Em,HO];refine dR (fun r d=> ∃ c:Nat,c≤l.length∧io 0 l n=io c (l.drop c) n∧r= [(0,.pure 2 (ac l)),(1,.int .i64 n),(8,.pure 2 (ac l)),(9,.int .i64 l.length),(10,.int .i64 c)]∧d= [])
  (fun r _=>match bn r 10 with| .int _ j=>(l.length-j).toNat|_=>0) ?_ ?_
 ·exact s.U ⟨0,by omega,rfl,rfl,rfl⟩
 ·rintro r d ⟨c,an,aq,rfl,rfl⟩;have aR:=dr (c:=c) (by omega);simp only[go_sem,Em,HO];refine cg ?_ ?_<;>intro ck<;>simp only[bA] at ck<;>simp only[go_sem,Em,HO]
  ·have aC:c < l.length:=by omega
   refine⟨by omega,by omega,?_⟩
   try simp only[Int.toNat_natCast]
   rw[aB1 aC] at aq;have ad:=afP Z c aC;rw[cQ aC];generalize l[c]=x at aq ad ⊢;simp only[go_sem,Mr]
   by_cases h1:n < x.after
   ·rw[if_pos h1] at aq;simp only[go_sem,h1,gt_iff_lt];rw[bf (x:=(c:Int)-1) (by omega) (by omega),bf (x:=x.after-n) (by omega) (by omega)];exact s.bb rfl ⟨by rw[aq],rfl⟩
   ·rw[if_neg h1] at aq;simp only[go_sem,h1,aR,gt_iff_lt];refine s.kb [] [] rfl rfl rfl ?_;simp only[go_sem];refine s.U ⟨⟨c+1,by omega,aq,rfl,rfl⟩,?_⟩;simp only[go_sem];omega
  ·obtain rfl:c=l.length:=by omega
   rw[List.drop_length] at aq;rw[bf (x:=(l.length:Int)-1) (by omega) (by omega)];exact s.bb rfl ⟨by rw[aq];rfl,rfl⟩
def ei (ax:List (Int×Int))(k:Int):Int:=(Abs.ib ax k).getD 0
theorem aB2 {ax:List (Int×Int)}{k:Int}: ((Abs.ib ax k).map (fun x=>z.int .i64 x)).getD (.int .i64 0)= .int .i64 (ei ax k):=by
 unfold ei;cases Abs.ib ax k<;>rfl
theorem EB {ax:List (Int×Int)}{k v bo:Int}:ei (iL k v ax) bo=if bo=k then v else ei ax bo:=by
 unfold ei;rw[Abs.VS];split<;>rfl
attribute [go_sem] aB2
def rU (az:hJ)(ax W:List (Int×Int))(O:List cx):List R:=
 [.aa 214 6 [[.str az.dX,.pure 2 (ac az.eC),.pure 2 (ac az.gA),.bu 1,.bu 2,.own 3 O.length 0 O.length]],.aY (.map false [.int .i64] (wQ ax)),.aY (.map false [.int .i64] (wQ W)),.aa 221 4 (ac O)]
instance:Inhabited jU:=⟨⟨⟨#[]⟩,0⟩⟩
def zG (l:List jU)(c:Int):ByteArray:=(l.getD c.toNat default).name
def iR (ab:Int):Int:=ab-(ab+3)%7
def lo (az:hJ)(ax W:List (Int×Int))(ab most:Int):ByteArray×Int×List (Int×Int)×List (Int×Int):=
 let f:=io 0 az.eC (ei ax ab)
 let n:=min f.2 most
 if 0≤f.1 then (zG az.eC f.1,n,iL ab (ei ax ab+n) ax,W)
 else
  let g:=io 0 az.gA (ei W (iR ab))
  let kP:=min n g.2
  (if 0≤g.1 then zG az.gA g.1 else az.dX,kP,iL ab (ei ax ab+kP) ax,iL (iR ab) (ei W (iR ab)+kP) W)
theorem HP: ∀ {l:List jU} {b:Int} (k:Nat) {n:Int},jD b l=true→0≤n→(k:Int)-1≤(io k l n).1∧(io k l n).1 < k+l.length∧1≤(io k l n).2∧(io k l n).2≤100000
 | [],b,k,n,_,_=>by simp only[io,List.length_nil];omega
 |x::ai,b,k,n,Z,aB=>by
  simp only[jD,Bool.and_eq_true,decide_eq_true_eq] at Z;rw[io];split
  ·simp only[List.length_cons];omega
  ·have:=HP (l:=ai) (k+1) Z.2.2.2 aB;simp only[List.length_cons];omega
structure Sl (az:hJ):Prop where
 o:az.eC.length≤16
 w:az.gA.length≤16
 hI:jD (-1) az.eC=true
 Sm:jD (-1) az.gA=true
theorem aB3 (az:hJ)(cU:Sl az)(ax W:List (Int×Int))(O:List cx)(ab most:Int)(h0:0≤ab)(h1:ab≤84005)(B:1≤most)(am:most≤1000000000)
 (fr:0≤ei ax ab) (aIL:ei ax ab≤100000000000) (hW:0≤ei W (iR ab)) (xi:ei W (iR ab)≤100000000000):
 aK prog 111 [.aW 0 1 0 0,.int .i64 ab,.int .i64 most] (rU az ax W O)
  (fun v rs=>v= .bg [.str (lo az ax W ab most).1,.int .i64 (lo az ax W ab most).2.1]∧rs=rU az (lo az ax W ab most).2.2.1 (lo az ax W ab most).2.2.2 O):=by
 refine cr func111 acg (by simp[LU,Sn]) ?_;have afR:=HP 0 cU.hI fr;have afS:=HP 0 cU.Sm hW;have xB:=afQ az.eC cU.o cU.hI (ei ax ab) fr (by omega);have yU:=afQ az.gA cU.w cU.Sm (ei W (iR ab)) hW (by omega);unfold lo rU;simp only[go_sem,LU,Sn];refine jd xB rfl rfl ?_;clear xB;generalize io 0 az.eC (ei ax ab)=f at afR ⊢;obtain⟨c,n⟩:=f;simp only at afR ⊢;simp only[go_sem]
 by_cases an:c≥0
 ·have Cp:0≤c:=an;rw[if_pos Cp];have aC:c.toNat < az.eC.length:=by omega
  have eI: (ac az.eC).getD c.toNat []= [.str (zG az.eC c),.int .i64 (az.eC.getD c.toNat default).after]:=by
   rw[cQ aC,Mr,zG,List.getD_eq_getElem?_getD,List.getElem?_eq_getElem aC,Option.getD_some]
  simp only[go_sem,an,eI];rw[bf (x:=ei ax ab+min n most) (by omega) (by omega)];refine⟨by omega,?_⟩;exact s.U ⟨rfl,rfl⟩
 ·have Cp: ¬0≤c:=an;rw[if_neg Cp];have aB4:IntKind.i64.wrap (ab-(IntKind.i64.wrap (ab+3)).tmod 7)=iR ab:=by
   rw[bf (x:=ab+3) (by omega) (by omega),Int.tmod_eq_emod_of_nonneg (by omega),bf (by omega) (by omega),iR]
  simp only[go_sem,an,aB4];refine⟨by decide,?_⟩;refine jd yU rfl rfl ?_;clear yU;generalize io 0 az.gA (ei W (iR ab))=g at afS ⊢;obtain⟨j,m⟩:=g;simp only at afS ⊢;simp only[go_sem];rw[bf (x:=ei ax ab+min (min n most) m) (by omega) (by omega),bf (x:=ei W (iR ab)+min (min n most) m) (by omega) (by omega)]
  by_cases aT:j≥0
  ·have nA:0≤j:=aT;rw[if_pos nA];have aC:j.toNat < az.gA.length:=by omega
   have eI: (ac az.gA).getD j.toNat []= [.str (zG az.gA j),.int .i64 (az.gA.getD j.toNat default).after]:=by
    rw[cQ aC,Mr,zG,List.getD_eq_getElem?_getD,List.getElem?_eq_getElem aC,Option.getD_some]
   simp only[go_sem,aT,eI];refine⟨by omega,?_⟩;exact s.U ⟨rfl,rfl⟩
  ·have nA: ¬0≤j:=aT;rw[if_neg nA];simp only[go_sem,aT];exact s.U ⟨rfl,rfl⟩
def eo (a b:ByteArray):Bool:=a.toList==b.toList
def te (p q:cx):Bool:=decide (p.ab=q.ab)&&(eo p.ep q.ep&&decide (p.T=q.J))
def fy (O:List cx)(q:cx):List cx:=
 match O.getLast? with
 |some p=>if te p q then O.dropLast++ [{p with T:=q.T}] else O++ [q]
 |none=> [q]
theorem aB5 (az:hJ)(ax W:List (Int×Int))(O:List cx)(q:cx)(hl:O.length≤1000000000):
 aK prog 112 [.aW 0 1 0 0,.agg (aG.F q)] (rU az ax W O) (fun v rs=>v= .bg []∧rs=rU az ax W (fy O q)):=by
 refine cr func112 ach (by simp[LV,Sp]) ?_;unfold rU;simp only[go_sem,LV,Sp,yY]
 by_cases h0:O= []
 ·subst h0;simp only[go_sem,Ms]
  (refine s.bw [some 0,some 1,some 2,some 3] ?_;simp only[go_sem])
  exact s.U ⟨rfl,rfl⟩
 ·have ip:0 < O.length:=List.length_pos_iff.2 h0;have ao: (O.length:Int)>0:=by omega
  have aR:IntKind.i64.wrap ((O.length:Int)-1)=((O.length-1:Nat):Int):=by rw[bf (by omega) (by omega)];omega
  obtain⟨p,ae⟩: ∃ p,O.getLast?=some p:=⟨_,List.getLast?_eq_some_getLast h0⟩;have aC:O.length-1 < O.length:=by omega
  have eI: (ac O).getD (O.length-1) []= [.int .i64 p.ab,.int .i64 p.J,.int .i64 p.T,.str p.ep]:=by
   rw[cQ aC];have:O[O.length-1]=p:=by
    rw[List.getLast?_eq_getElem?,List.getElem?_eq_getElem aC] at ae;exact Option.some.inj ae
   rw[this,yY]
  simp only[go_sem,ao,aR];refine⟨by omega,by omega,?_⟩
  try simp only[Int.toNat_natCast]
  simp only[go_sem,eI]
  by_cases h1:p.ab=q.ab
  rotate_left
  ·have hP: (p.ab==q.ab)=false:=by simp[h1]
   have kn:fy O q=O++ [q]:=by rw[fy,ae];simp[te,h1]
   simp only[go_sem,hP,eI,Ms];refine⟨by omega,?_⟩;rw[kn]
   (refine s.bw [some 0,some 1,some 2,some 3] ?_;simp only[go_sem])
   exact s.U ⟨rfl,by simp⟩
  have hP: (p.ab==q.ab)=true:=by simp[h1]
  rcases B:eo p.ep q.ep with _|_
  ·have oI: (p.ep.toList==q.ep.toList)=false:=B;have kn:fy O q=O++ [q]:=by rw[fy,ae];simp[te,B]
   simp only[go_sem,hP,oI,eI,Ms];refine⟨by omega,?_⟩;rw[kn]
   (refine s.bw [some 0,some 1,some 2,some 3] ?_;simp only[go_sem])
   exact s.U ⟨rfl,by simp⟩
  have oI: (p.ep.toList==q.ep.toList)=true:=B
  by_cases am:p.T=q.J
  rotate_left
  ·have wZ: (p.T==q.J)=false:=by simp[am]
   have kn:fy O q=O++ [q]:=by rw[fy,ae];simp[te,am]
   simp only[go_sem,hP,oI,wZ,eI,Ms];refine⟨by omega,?_⟩;rw[kn]
   (refine s.bw [some 0,some 1,some 2,some 3] ?_;simp only[go_sem])
   exact s.U ⟨rfl,by simp⟩
  have wZ: (p.T==q.J)=true:=by simp[am]
  have kn:fy O q=O.set (O.length-1) {p with T:=q.T}:=by
   rw[fy,ae];simp only[te,h1,B,am,decide_true,Bool.and_self,if_true];rw[List.dropLast_eq_take,List.set_eq_take_append_cons_drop,if_pos aC,List.drop_eq_nil_of_le (by omega)]
  simp only[go_sem,hP,oI,wZ,eI];rw[kn];have ly: (ac O).set (O.length-1) [.int .i64 p.ab,.int .i64 p.J,.int .i64 q.T,.str p.ep]=ac (O.set (O.length-1) {p with T:=q.T}):=ve (x:= {p with T:=q.T});rw[ly]
  (refine s.bw [some 0,some 1,some 2,some 3] ?_;simp only[go_sem])
  exact s.U ⟨rfl,by simp⟩
def ps (w:eP):List fS:=w.gp.map fun v=>⟨w.ab,v.J,v.T⟩
def gK (af:List eP):List fS:=af.flatMap ps
def oq (a b:fS):Prop:=a.T≤b.J∨b.T≤a.J
def vN (w:eP):Prop:=(0≤w.ab∧w.ab≤84005)∧ ∀ v∈w.gp,ik v.J v.T
def hg:List fS→Int
 | []=>0
 |E::bN=>E.T-E.J+hg bN
theorem afT: ∀ (a b:List fS),hg (a++b)=hg a+hg b
 | [],b=>by simp[hg]
 |x::a,b=>by simp only[List.cons_append,hg,afT a b];omega
theorem Ha {a b:List fS}(h:a.Perm b):hg a=hg b:=by
 induction h with
 |nil=>rfl
 |cons x _ ih=>simp only[hg,ih]
 |swap x y l=>simp only[hg];omega
 |trans _ _ Fs Cs=>exact Fs.trans Cs
open Classical in
noncomputable def ej (af:List eP):Int:=
 if 1024 < af.length then 3
 else if ∃ w∈af,1024 < w.gp.length then 3
 else if ¬ ∀ w∈af,vN w then 1
 else if ¬(gK af).Pairwise oq then 1
 else if 100000 < hg (gK af) then 3
 else 0
theorem aB6 {a b:fS}(h:oq a b):oq b a:=by unfold oq at *;omega
theorem afU {a b:List fS}(h:a.Perm b):a.Pairwise oq↔b.Pairwise oq:=h.pairwise_iff (fun h=>aB6 h)
theorem aB7 {af:List eP}{c:Nat}(h:c < af.length):gK (af.take (c+1))=gK (af.take c)++ps af[c]:=by
 unfold gK;rw[List.take_add_one,List.getElem?_eq_getElem h,Option.toList_some,List.flatMap_append];simp
theorem aB8 {w:eP}{j:Nat}(h:j < w.gp.length): (ps w).take (j+1)=(ps w).take j++ [⟨w.ab,w.gp[j].J,w.gp[j].T⟩]:=by
 unfold ps;rw[List.take_add_one,List.getElem?_map,List.getElem?_eq_getElem h];rfl
theorem afV {w:eP}: (ps w).length=w.gp.length:=by simp[ps]
theorem afW {af:List eP}{E:fS}:E∈gK af↔ ∃ w∈af,∃ v∈w.gp,E=⟨w.ab,v.J,v.T⟩:=by
 unfold gK ps;rw[List.mem_flatMap];constructor
 ·rintro⟨w,aR,h⟩;obtain⟨v,ag,rfl⟩:=List.mem_map.1 h;exact⟨w,aR,v,ag,rfl⟩
 ·rintro⟨w,aR,v,ag,rfl⟩;exact⟨w,aR,List.mem_map.2 ⟨v,ag,rfl⟩⟩
def rO (S:List fS):Prop:=S.Pairwise fun a b=>a.T≤b.J
theorem aB9 {S:List fS}(h:rO S):S.Pairwise oq:=h.imp fun h=> .inl h
theorem afX {S:List fS}{c:Nat}(an:c < S.length)(h:rO (S.take c))(ag: ∀ E∈S,ik E.J E.T)(h1: ∀ (h0:0 < c),(S[c-1]'(by omega)).T≤S[c].J):rO (S.take (c+1)):=by
 unfold rO at *;rw[List.take_add_one,List.getElem?_eq_getElem an,Option.toList_some,List.pairwise_append];refine⟨h,by simp,fun a aw b Z=> ?_⟩;rw[List.mem_singleton] at Z;subst Z;obtain⟨k,I,rfl⟩:=List.getElem_of_mem aw;rw[List.length_take] at I;have aIM:k < c:=by omega
 have bF: (S.take c)[k]'(by rw[List.length_take];omega)=S[k]'(by omega):=List.getElem_take;rw[bF];have IH:=h1 (by omega)
 by_cases fP:k=c-1
 ·subst fP;exact IH
 ·rw[List.pairwise_iff_getElem] at h;have:=h k (c-1) (by rw[List.length_take];omega) (by rw[List.length_take];omega) (by omega);rw[List.getElem_take,List.getElem_take] at this;have mR:=ag (S[c-1]'(by omega)) (List.getElem_mem _);unfold ik at mR;omega
theorem aCa {S:List fS}(ag: ∀ E∈S,ik E.J E.T):0≤hg S∧hg S≤120968640*S.length:=by
 induction S with
 |nil=>simp[hg]
 |cons E S ih=>
  have h1:=ih fun x ad=>ag x (List.mem_cons_of_mem _ ad);have B:=ag E List.mem_cons_self;unfold ik at B;simp only[hg,List.length_cons];omega
theorem Sq: ∀ {af:List eP},(∀ w∈af,w.gp.length≤1024)→(gK af).length≤1024*af.length
 | [],_=>by simp[gK]
 |w::af,h=>by
  have h1:=Sq fun x ad=>h x (List.mem_cons_of_mem _ ad);have B:=h w List.mem_cons_self;have:gK (w::af)=ps w++gK af:=rfl;rw[this,List.length_append,afV,List.length_cons];omega
def aCb (af:List eP)(v:z)(rs:List R):Prop:=
 (ej af≠0∧v= .bg [.bD,.int .i64 (ej af)]∧rs= [])∨
 (ej af=0∧ ∃ S:List fS,S.Perm (gK af)∧rO S∧v= .bg [.own 0 S.length 0 S.length,.int .i64 0]∧rs= [.aa 216 3 (ac S)])
set_option maxHeartbeats 1000000 in
theorem Kq (af:List eP)(oe:af.length≤9223372036854775806):aK prog 110 [.pure 2 (ac af)] [] (aCb af):=by
 refine cr func110 acf (by simp[sZ,uu]) ?_;simp only[go_sem,sZ,uu]
 by_cases h1: (af.length:Int)>1024
 ·have he:ej af=3:=by unfold ej;rw[if_pos (by omega)]
  simp only[go_sem,h1];exact s.bb rfl (.inl ⟨by rw[he];decide,by rw[he],rfl⟩)
 simp only[go_sem,h1];refine dR (fun r d=> ∃ c:Nat,c≤af.length∧(∀ j (aT:j < c) (hl:j < af.length),af[j].gp.length≤1024)∧r= [(0,.pure 2 (ac af)),(17,.pure 2 (ac af)),(18,.int .i64 af.length),(19,.int .i64 c)]∧d= [])
  (fun r _=>match bn r 19 with| .int _ j=>(af.length-j).toNat|_=>0) ?_ ?_
 ·exact s.U ⟨0,by omega,fun j aT=>by omega,rfl,rfl⟩
 ·rintro r d ⟨c,an,hall,rfl,rfl⟩;have aR:=dr (c:=c) (by omega);simp only[go_sem,sZ,uu];refine cg ?_ ?_<;>intro ck<;>simp only[bA] at ck<;>simp only[go_sem,sZ,uu]
  ·have aC:c < af.length:=by omega
   refine⟨by omega,by omega,?_⟩
   try simp only[Int.toNat_natCast]
   rw[cQ aC];simp only[go_sem,afJ]
   by_cases B: (af[c].gp.length:Int)>1024
   ·have he:ej af=3:=by
     unfold ej;rw[if_neg (by omega),if_pos ⟨af[c],List.getElem_mem _,by omega⟩]
    simp only[go_sem,B];exact s.bb rfl (.inl ⟨by rw[he];decide,by rw[he],rfl⟩)
   ·simp only[go_sem,B,aR];refine s.kb [] [] rfl rfl rfl ?_;simp only[go_sem];refine s.U ⟨⟨c+1,by omega,fun j aT hl=> ?_,rfl,rfl⟩,?_⟩
    ·by_cases ml:j=c
     ·subst ml;omega
     ·exact hall j (by omega) hl
    ·simp only[go_sem];omega
  have cB: ∀ w∈af,w.gp.length≤1024:=by
   intro w aR;obtain⟨j,aT,rfl⟩:=List.getElem_of_mem aR;exact hall j (by omega) aT
  have cY:ej af=(open Classical in if ¬ ∀ w∈af,vN w then 1 else if ¬(gK af).Pairwise oq then 1 else if 100000 < hg (gK af) then 3 else 0):=by
   unfold ej;rw[if_neg (by omega),if_neg (fun⟨w,aR,h⟩=>by have:=cB w aR;omega)]
  have lw:=Sq cB;clear hall;refine dR (fun r d=> ∃ c:Nat,c≤af.length∧(∀ j (aT:j < c) (hl:j < af.length),vN af[j])∧r= [(6,.own 0 (gK (af.take c)).length 0 (gK (af.take c)).length),(28,.pure 2 (ac af)),(29,.int .i64 af.length),(30,.int .i64 c)]∧d= [.aa 216 3 (ac (gK (af.take c)))])
   (fun r _=>match bn r 30 with| .int _ j=>(af.length-j).toNat|_=>0) ?_ ?_
  ·(refine s.iI 6 216 3 rfl (s.eW [6,28,29,30] ?_);simp only[go_sem])
   exact s.U ⟨0,by omega,fun j aT=>by omega,rfl,rfl⟩
  rintro r d ⟨c,an,hall,rfl,rfl⟩;have aR:=dr (c:=c) (by omega);simp only[go_sem,sZ,uu];refine cg ?_ ?_<;>intro ck<;>simp only[bA] at ck<;>simp only[go_sem,sZ,uu]
  ·have aC:c < af.length:=by omega
   refine⟨by omega,by omega,?_⟩
   try simp only[Int.toNat_natCast]
   rw[cQ aC];have hv:=aB7 aC;have qj: ¬vN af[c]→ej af=1:=fun h=>by rw[cY,if_pos (fun cJ=>h (cJ _ (List.getElem_mem _)))]
   have rP:=cB af[c] (List.getElem_mem _);have ns: (gK (af.take c)).length≤1024*1024:=by
    have:=Sq (af:=af.take c) fun w aR=>cB w (List.mem_of_mem_take aR);have B:=List.length_take_le c af;have am: (af.take c).length≤1024:=by rw[List.length_take];omega
    omega
   have ar:vN af[c]→ ∀ j (aT:j < c+1) (hl:j < af.length),vN af[j]:=fun h j aT hl=>by
    by_cases ml:j=c
    ·subst ml;exact h
    ·exact hall j (by omega) hl
   generalize af[c]=w at hv qj rP ar ⊢;generalize eD:gK (af.take c)=X at *;simp only[go_sem,afJ]
   by_cases aq:w.ab < 0∨84005 < w.ab
   ·have he:=qj (fun h=>by have:=h.1;omega);rcases aq with aq|aq
    ·simp only[go_sem,aq];refine s.kb [] [] rfl rfl rfl ?_;simp only[go_sem];exact s.U (.inl ⟨by rw[he];decide,by rw[he];rfl,rfl⟩)
    ·have BR: ¬w.ab < 0:=by omega
     have zD:w.ab>84005:=aq;simp only[go_sem,BR,zD];refine s.kb [] [] rfl rfl rfl ?_;simp only[go_sem];exact s.U (.inl ⟨by rw[he];decide,by rw[he];rfl,rfl⟩)
   have BR: ¬w.ab < 0:=by omega
   have zD: ¬w.ab>84005:=by omega
   simp only[go_sem,BR,zD];refine dR (fun r d=> ∃ j:Nat,j≤w.gp.length∧(∀ k (I:k < j) (hl:k < w.gp.length),ik w.gp[k].J w.gp[k].T)∧r= [(6,.own 0 (X++(ps w).take j).length 0 (X++(ps w).take j).length),(8,.aW 1 1 0 0),(28,.pure 2 (ac af)),(29,.int .i64 af.length),(30,.int .i64 c),(43,.pure 2 (ac w.gp)),(44,.int .i64 w.gp.length),(45,.int .i64 j)]∧d= [.aa 216 3 (ac (X++(ps w).take j)),.aa 62 2 [[.int .i64 w.ab,.pure 2 (ac w.gp)]]])
    (fun r _=>match bn r 45 with| .int _ j=>(w.gp.length-j).toNat|_=>0) ?_ ?_
   ·exact s.U ⟨0,by omega,fun k I=>by omega,by simp,by simp⟩
   rintro r d ⟨j,aT,pW,rfl,rfl⟩;have nJ:=dr (c:=j) (by omega);simp only[go_sem,sZ,uu];refine cg ?_ ?_<;>intro fQ<;>simp only[bA] at fQ<;>simp only[go_sem,sZ,uu]
   ·have afY:j < w.gp.length:=by omega
    refine⟨by omega,by omega,?_⟩
    try simp only[Int.toNat_natCast]
    rw[cQ afY];have afZ:=aB8 afY;have ol: (X++(ps w).take j).length≤1024*1024+1024:=by rw[List.length_append,List.length_take];omega
    have aga: ¬ik w.gp[j].J w.gp[j].T→ej af=1:=fun h=>qj fun cJ=>h (cJ.2 _ (List.getElem_mem _));have agb:ik w.gp[j].J w.gp[j].T→ ∀ k (I:k < j+1) (hl:k < w.gp.length),ik w.gp[k].J w.gp[k].T:=fun h k I hl=>by
     by_cases Jr:k=j
     ·subst Jr;exact h
     ·exact pW k (by omega) hl
    generalize w.gp[j]=u at afZ aga agb ⊢;simp only[go_sem,eM];refine bH (afO _ _) rfl rfl ?_
    by_cases aZ:ik u.J u.T
    ·simp only[go_sem,aZ,aBN];refine⟨by rw[List.length_append] at ol ⊢;omega,?_⟩;simp only[go_sem,nJ];have sX:X++List.take j (ps w)++ [⟨w.ab,u.J,u.T⟩]=X++(ps w).take (j+1):=by rw[afZ,List.append_assoc]
     rw[sX]
     (refine s.bw [some 0,some 1] ?_;simp only[go_sem])
     refine s.U ⟨⟨j+1,by omega,agb aZ,?_,rfl⟩,?_⟩
     ·rw[←sX];simp;omega
     ·simp only[go_sem];omega
    ·have he:=aga aZ;simp only[go_sem,aZ];refine s.kb [] [] rfl rfl rfl ?_;simp only[go_sem];exact s.U (.inl ⟨by rw[he];decide,by rw[he];rfl,rfl⟩)
   ·have mV:vN w:=⟨by omega,fun v ag=>by
     obtain⟨k,I,rfl⟩:=List.getElem_of_mem ag;exact pW k (by omega) I⟩
    have sX:X++List.take j (ps w)=gK (af.take (c+1)):=by
     rw[hv,List.take_of_length_le (by rw[afV];omega)]
    rw[sX];simp only[go_sem,aR]
    (refine s.bw [some 0] ?_;simp only[go_sem])
    refine s.U ⟨⟨c+1,by omega,ar mV,rfl,rfl⟩,?_⟩;simp only[go_sem];omega
  have jY:c=af.length:=by omega
  have xc: ∀ w∈af,vN w:=by
   intro w aR;obtain⟨j,aT,rfl⟩:=List.getElem_of_mem aR;exact hall j (by omega) aT
  rw[jY,List.take_length];rw[if_neg (fun h=>h xc)] at cY;clear hall jY;have jz: ∀ E∈gK af,ik E.J E.T:=by
   intro E ak;obtain⟨w,aR,v,ag,rfl⟩:=afW.1 ak;exact (xc w aR).2 v ag
  have aIN: (gK af).length≤1024*1024:=by omega
  (refine eY [0] (aA5 (gK af) (by omega)) ?_;rintro _ _ ⟨rfl,S,jN,JL,rfl⟩;simp only[go_sem])
  have yX:=jN.length_eq;have Mu: ∀ E∈S,ik E.J E.T:=fun E ak=>jz E (jN.mem_iff.1 ak)
  replace cY:ej af=(open Classical in if ¬S.Pairwise oq then 1 else if 100000 < hg S then 3 else 0):=by
   rw[cY,Ha jN]
   by_cases h:S.Pairwise oq
   ·have B:=(afU jN).1 h;rw[if_neg (fun cJ: ¬List.Pairwise oq (gK af)=>cJ B),if_neg (fun cJ: ¬List.Pairwise oq S=>cJ h)]
   ·have B: ¬List.Pairwise oq (gK af):=fun cJ=>h ((afU jN).2 cJ);rw[if_pos B,if_pos h]
  rw[←yX];clear jz lw cB;refine dR (fun r d=> ∃ c:Nat,c≤S.length∧rO (S.take c)∧r= [(6,.own 0 S.length 0 S.length),(11,.int .i64 (hg (S.take c))),(63,.own 0 S.length 0 S.length),(64,.int .i64 S.length),(65,.int .i64 c)]∧d= [.aa 216 3 (ac S)])
   (fun r _=>match bn r 65 with| .int _ j=>(S.length-j).toNat|_=>0) ?_ ?_
  ·exact s.U ⟨0,by omega,by simp[rO],rfl,rfl⟩
  rintro r d ⟨c,an,zB,rfl,rfl⟩;have aR:=dr (c:=c) (by omega);have rD:=aCa (S:=S.take c) fun E ak=>Mu E (List.mem_of_mem_take ak);have aAU: (S.take c).length≤1048576:=by rw[List.length_take];omega
  simp only[go_sem,sZ,uu];refine cg ?_ ?_<;>intro ck<;>simp only[bA] at ck<;>simp only[go_sem,sZ,uu]
  ·have aC:c < S.length:=by omega
   have aCc: (ac S).getD c []= [.int .i64 S[c].ab,.int .i64 S[c].J,.int .i64 S[c].T]:=by rw[cQ aC,Mi]
   refine⟨by omega,by omega,?_⟩
   try simp only[Int.toNat_natCast]
   rw[aCc];have mR:=Mu S[c] (List.getElem_mem _);have Me:hg (S.take (c+1))=hg (S.take c)+(S[c].T-S[c].J):=by
    rw[List.take_add_one,List.getElem?_eq_getElem aC,Option.toList_some,afT];simp[hg]
   have gg:IntKind.i64.wrap (hg (S.take c)+IntKind.i64.wrap (S[c].T-S[c].J))=hg (S.take (c+1)):=by
    unfold ik at mR;rw[bf (x:=S[c].T-S[c].J) (by omega) (by omega),bf (by omega) (by omega),Me]
   by_cases h0:0 < c
   rotate_left
   ·have nV: ¬(c:Int)>0:=by omega
    simp only[go_sem,nV,aR,gg]
    (refine s.bw [some 0] ?_;simp only[go_sem])
    refine s.U ⟨⟨c+1,by omega,afX aC zB Mu (fun h=>(h0 h).elim),rfl,rfl⟩,?_⟩;simp only[go_sem];omega
   have nV: (c:Int)>0:=by omega
   have cW:IntKind.i64.wrap ((c:Int)-1)=((c-1:Nat):Int):=by rw[bf (by omega) (by omega)];omega
   have Sr:c-1 < S.length:=by omega
   have EC: (ac S).getD (c-1) []= [.int .i64 S[c-1].ab,.int .i64 S[c-1].J,.int .i64 S[c-1].T]:=by rw[cQ Sr,Mi]
   simp only[go_sem,nV,cW];refine⟨by omega,by omega,?_⟩
   try simp only[Int.toNat_natCast]
   rw[EC];simp only[go_sem]
   by_cases uN:S[c].J < S[c-1].T
   ·have he:ej af=1:=by
     rw[cY,if_pos];intro JM;rw[List.pairwise_iff_getElem] at JM JL;have cz:=JM (c-1) c Sr aC (by omega);have eT:=JL (c-1) c Sr aC (by omega);unfold oq at cz;unfold ik at mR;omega
    simp only[go_sem,uN];refine s.kb [] [] rfl rfl rfl ?_;simp only[go_sem];exact s.U (.inl ⟨by rw[he];decide,by rw[he];rfl,rfl⟩)
   ·simp only[go_sem,uN,aR,gg]
    (refine s.bw [some 0] ?_;simp only[go_sem])
    refine s.U ⟨⟨c+1,by omega,afX aC zB Mu (fun h=>by omega),rfl,rfl⟩,?_⟩;simp only[go_sem];omega
  ·obtain rfl:c=S.length:=by omega
   rw[List.take_length] at *;rw[if_neg (fun h=>h (aB9 zB))] at cY
   by_cases hm:hg S>100000
   ·rw[if_pos hm] at cY;simp only[go_sem,hm];refine s.kb [] [] rfl rfl rfl ?_;simp only[go_sem];exact s.U (.inl ⟨by rw[cY];decide,by rw[cY];rfl,rfl⟩)
   ·rw[if_neg hm] at cY;simp only[go_sem,hm];exact s.U (.inr ⟨cY,S,jN,zB,rfl,rfl⟩)
theorem Sw {k v gq:Int}: ∀ {ax:List (Int×Int)},iL k v (iL k gq ax)=iL k v ax
 | []=>by simp[iL]
 |p::ax=>by
  rw[iL]
  by_cases h: (k==p.1)=true
  ·rw[if_pos h,iL,iL,if_pos h];simp
  ·rw[if_neg h,iL,if_neg h,Sw,iL,if_neg h]
theorem Sx: ∀ {l:List jU} (k:Nat) {n j:Int},0≤j→j < (io k l n).2→(io k l (n+j)).1=(io k l n).1
 | [],k,n,j,_,_=>rfl
 |b::dc,k,n,j,h0,h1=>by
  rw[io] at h1 ⊢;rw[io]
  by_cases h:n < b.after
  ·rw[if_pos h] at h1 ⊢;simp only at h1;rw[if_pos (by omega)]
  ·rw[if_neg h] at h1 ⊢;rw[if_neg (by omega)];exact Sx (k+1) h0 h1
structure Sy where
 ax:List (Int×Int)
 W:List (Int×Int)
 O:List cx
def pt (az:hJ)(ax W:List (Int×Int))(ab:Int):ByteArray×Bool:=
 if 0≤(io 0 az.eC (ei ax ab)).1 then (zG az.eC (io 0 az.eC (ei ax ab)).1,false)
 else (if 0≤(io 0 az.gA (ei W (iR ab))).1 then zG az.gA (io 0 az.gA (ei W (iR ab))).1 else az.dX,true)
def BW (az:hJ)(E:Sy)(m:Int×Int):Sy:=
 ⟨iL m.1 (ei E.ax m.1+1) E.ax,if (pt az E.ax E.W m.1).2 then iL (iR m.1) (ei E.W (iR m.1)+1) E.W else E.W,fy E.O ⟨m.1,m.2,m.2+1,(pt az E.ax E.W m.1).1⟩⟩
def run (az:hJ)(kt:List (Int×Int)):Sy:=kt.foldl (BW az) ⟨[],[],[]⟩
def lR (ab J:Int)(n:Nat):List (Int×Int):=(List.range n).map fun (j:Nat)=>(ab,J+j)
def ED (E:fS):List (Int×Int):=lR E.ab E.J (E.T-E.J).toNat
def ki (S:List fS):List (Int×Int):=S.flatMap ED
theorem Sz (ab J:Int)(n:Nat):lR ab J (n+1)=lR ab J n++ [(ab,J+n)]:=by
 unfold lR;rw[List.range_succ,List.map_append];rfl
theorem agc (ab J:Int)(n:Nat): ∀ m,lR ab J (n+m)=lR ab J n++lR ab (J+n) m
 |0=>by simp[lR]
 |m+1=>by rw[←Nat.add_assoc,Sz,agc ab J n m,Sz,List.append_assoc,show J+((n+m:Nat):Int)=J+(n:Int)+(m:Int) from by omega]
theorem St (ab J:Int)(n:Nat): (lR ab J n).length=n:=by simp[lR]
theorem EE (a:ByteArray):eo a a=true:=by simp[eo]
theorem agd {O:List cx}{p q:cx}(ae:O.getLast?=some p)(h:te p q=true):fy O q=O.dropLast++ [{p with T:=q.T}]:=by
 unfold fy;rw[ae];simp only;rw[if_pos h]
theorem age {O:List cx}{p q:cx}(ae:O.getLast?=some p)(h: ¬te p q=true):fy O q=O++ [q]:=by
 unfold fy;rw[ae];simp only;rw[if_neg h]
theorem aCl {O:List cx}{q vc:cx}(h1:q.ab=vc.ab)(B:q.ep=vc.ep)(am:q.T=vc.J):fy (fy O q) vc=fy O {q with T:=vc.T}:=by
 obtain⟨o,f,t,b⟩:=q;obtain⟨ig,UJ,sG,eu⟩:=vc;simp only at h1 B am;subst h1;subst B;subst am;have key: ∀ (ai:List cx) (p:cx),p.ab=o→eo p.ep b=true→p.T=t→fy (ai++ [p]) ⟨o,t,sG,b⟩=ai++ [{p with T:=sG}]:=by
  intro ai p h1 B am;unfold fy;simp only[List.getLast?_append,List.getLast?_singleton,Option.some_or,te,h1,B,am,decide_true,Bool.and_self,if_true,List.dropLast_concat]
 cases ae:O.getLast? with
 |none=>
  have e:O= []:=by simpa using ae
  subst e;exact key [] ⟨o,f,t,b⟩ rfl (EE b) rfl
 |some p=>
  by_cases ao:te p ⟨o,f,t,b⟩=true
  ·have Gr:te p ⟨o,f,sG,b⟩=true:=ao;rw[agd ae ao,agd ae Gr];simp only[te,Bool.and_eq_true,decide_eq_true_eq] at ao;exact key O.dropLast {p with T:=t} ao.1 ao.2.1 rfl
  ·have Gr: ¬te p ⟨o,f,sG,b⟩=true:=ao;rw[age ae ao,age ae Gr];exact key O ⟨o,f,t,b⟩ rfl (EE b) rfl
theorem aCk (az:hJ)(ax W:List (Int×Int))(O:List cx)(ab most J:Int)(n:Nat)(h1:1≤n)(aB: (n:Int)≤(lo az ax W ab most).2.1):
 (lR ab J n).foldl (BW az) ⟨ax,W,O⟩=⟨iL ab (ei ax ab+n) ax,if (pt az ax W ab).2 then iL (iR ab) (ei W (iR ab)+n) W else W,fy O ⟨ab,J,J+n,(lo az ax W ab most).1⟩⟩:=by
 have Z: (lo az ax W ab most).1=(pt az ax W ab).1:=by
  unfold lo pt;simp only;split<;>rfl
 have aq: (n:Int)≤(io 0 az.eC (ei ax ab)).2:=by
  unfold lo at aB;simp only at aB;split at aB
  ·simp only at aB;omega
  ·simp only at aB;omega
 have mV: (pt az ax W ab).2=true→(n:Int)≤(io 0 az.gA (ei W (iR ab))).2:=by
  unfold lo at aB;unfold pt;simp only at aB;split
  ·intro h;cases h
  ·rename_i h;rw[if_neg h] at aB;simp only at aB;intro _;omega
 rw[Z];clear Z aB;have agf: ∀ j:Nat,j < n→ ∀ AH W',ei AH ab=ei ax ab+j→((pt az ax W ab).2=true→ei W' (iR ab)=ei W (iR ab)+j)→pt az AH W' ab=pt az ax W ab:=by
  intro j aT AH W' aCm hW';have bF:=Sx (l:=az.eC) 0 (n:=ei ax ab) (j:=j) (by omega) (by omega);unfold pt at *;rw[aCm,bF]
  by_cases h:0≤(io 0 az.eC (ei ax ab)).1
  ·rw[if_pos h,if_pos h]
  ·rw[if_neg h] at hW' mV ⊢;have bJ:=Sx (l:=az.gA) 0 (n:=ei W (iR ab)) (j:=j) (by omega) (by have:=mV rfl;omega);rw[if_neg h,hW' rfl,bJ]
 induction n with
 |zero=>omega
 |succ m ih=>
  rw[Sz,List.foldl_append]
  by_cases hm:m=0
  ·subst hm;simp only[lR,List.range_zero,List.map_nil,List.foldl_nil,List.foldl_cons];unfold BW;simp
  ·rw[ih (by omega) (by omega) (fun h=>by have:=mV h;omega) (fun j aT=>agf j (by omega))];simp only[List.foldl_cons,List.foldl_nil];have aCn:=agf m (by omega) (iL ab (ei ax ab+m) ax) (if (pt az ax W ab).2=true then iL (iR ab) (ei W (iR ab)+m) W else W) (by rw[EB,if_pos rfl]) (fun h=>by rw[if_pos h,EB,if_pos rfl]);unfold BW;simp only;rw[aCn,EB,if_pos rfl,Sw,aCl (q:=⟨ab,J,J+m,_⟩) (vc:=⟨ab,J+m,J+m+1,_⟩) rfl rfl rfl];congr 1
   ·congr 1;omega
   ·split
    ·rw[EB,if_pos rfl,Sw];congr 1;omega
    ·rfl
   ·congr 2;simp only;omega
theorem aCj (az:hJ)(ax W:List (Int×Int))(ab most:Int): (lo az ax W ab most).2.2.1=iL ab (ei ax ab+(lo az ax W ab most).2.1) ax∧(lo az ax W ab most).2.2.2=if (pt az ax W ab).2 then iL (iR ab) (ei W (iR ab)+(lo az ax W ab most).2.1) W else W:=by
 unfold lo pt;simp only
 by_cases h:0≤(io 0 az.eC (ei ax ab)).1
 ·rw[if_pos h,if_pos h];simp
 ·rw[if_neg h,if_neg h];simp
theorem aCi {az:hJ}(cU:Sl az){ax W:List (Int×Int)}{ab most:Int}(fr:0≤ei ax ab)(hW:0≤ei W (iR ab))(hm:1≤most):1≤(lo az ax W ab most).2.1∧(lo az ax W ab most).2.1≤most:=by
 have h1:=HP 0 cU.hI fr;have B:=HP 0 cU.Sm hW;unfold lo;simp only;split
 ·simp only;omega
 ·simp only;omega
theorem aCo (O:List cx)(q:cx): (fy O q).length≤O.length+1:=by
 unfold fy;split
 ·split
  ·simp;try omega
  ·simp
 ·simp
theorem aCp (az:hJ)(kt:List (Int×Int))(m:Int×Int):run az (kt++ [m])=BW az (run az kt) m:=by
 unfold run;rw[List.foldl_append];rfl
theorem aCg (az:hJ)(kt hk:List (Int×Int)):run az (kt++hk)=hk.foldl (BW az) (run az kt):=by
 unfold run;rw[List.foldl_append]
theorem aCq {bd:Type}{P:List bd→Prop}(h0:P [])(h1: ∀ l x,P l→P (l++ [x]))(l:List bd):P l:=by
 have: ∀ n (l:List bd),l.length=n→P l:=by
  intro n
  induction n with
  |zero=>intro l hl;rw[List.length_eq_zero_iff.1 hl];exact h0
  |succ n ih=>
   intro l hl;have hne:l≠ []:=fun e=>by rw[e] at hl;simp at hl
   rw[←List.dropLast_concat_getLast hne];exact h1 _ _ (ih _ (by rw[List.length_dropLast];omega))
 exact this l.length l rfl
theorem Zt (az:hJ)(kt:List (Int×Int)): (∀ k,0≤ei (run az kt).ax k∧ei (run az kt).ax k≤kt.length)∧(∀ k,0≤ei (run az kt).W k∧ei (run az kt).W k≤kt.length)∧(run az kt).O.length≤kt.length:=by
 induction kt using aCq with
 |h0=>exact⟨fun k=>by simp[run,ei,Abs.ib],fun k=>by simp[run,ei,Abs.ib],by simp[run]⟩
 |h1 kt m ih=>
  obtain⟨h1,B,am⟩:=ih;rw[aCp,List.length_append];unfold BW;refine⟨fun k=> ?_,fun k=> ?_,?_⟩
  ·simp only[EB];have a:=h1 k;have b:=h1 m.1;split<;>simp<;>omega
  ·simp only;have a:=B k;have b:=B (iR m.1);split
   ·rw[EB];split<;>simp<;>omega
   ·simp;omega
  ·simp only;have:=aCo (run az kt).O ⟨m.1,m.2,m.2+1,(pt az (run az kt).ax (run az kt).W m.1).1⟩;simp;omega
theorem aCf {S:List fS}{c:Nat}(h:c < S.length):ki (S.take (c+1))=ki (S.take c)++ED S[c]:=by
 unfold ki;rw[List.take_add_one,List.getElem?_eq_getElem h,Option.toList_some,List.flatMap_append];simp
theorem Ra: ∀ {S:List fS},(∀ E∈S,ik E.J E.T)→((ki S).length:Int)=hg S
 | [],_=>rfl
 |E::S,h=>by
  have h1:=Ra (S:=S) fun x ad=>h x (List.mem_cons_of_mem _ ad);have B:=h E List.mem_cons_self;have:ki (E::S)=ED E++ki S:=rfl;unfold ik at B;rw[this,List.length_append,ED,St,hg];omega
end Go.Proofs.YtpincjkjoeopkaaGreatDoor.Ib
