/- Time evaluation. -/
import Derived.Test.YtpincjkjoeopkaaGreatDoorK18
set_option linter.unusedSimpArgs false
set_option linter.unusedVariables false
set_option linter.unusedSectionVars false
namespace Go.Proofs.YtpincjkjoeopkaaGreatDoor
open Go Go.Abs Go.Proofs.Tryz
structure kT where
 aD:Int
 off:Int
def kT.cells (e:kT):List z:= [.int .i64 e.aD,.int .i64 e.off]
instance:aG kT:=⟨kT.cells,2,fun _=>rfl,fun _=>rfl,fun _=>rfl⟩
theorem F9 (e:kT):aG.F e= [.int .i64 e.aD,.int .i64 e.off]:=rfl
theorem arV:aG.N kT=2:=rfl
theorem arW (e:kT):List.take 2 (aG.F e)=aG.F e:=rfl
attribute [go_sem] arV arW
theorem arX {l:List kT}{a b:Int}:ac l++ [[.int .i64 a,.int .i64 b]]=ac (l++ [⟨a,b⟩]):=kz (x:=kT.mk a b)
structure bZ where
 off:Int
 cK:List kT
def bZ.v (D:bZ):z:= .agg [.int .i64 D.off,.pure 2 (ac D.cK)]
def jB (L:Int):Prop:= -840≤L∧L≤840
instance (L:Int):Decidable (jB L):=inferInstanceAs (Decidable (-840≤L∧L≤840))
def pR:Int→List kT→Int
 |_,[]=>0
 |p,F::aj=>if ¬(0≤F.aD∧F.aD≤120968639∧jB F.off) then 2 else if F.aD≤p then 1 else pR F.aD aj
def eR (D:bZ):Int:=if 64 < D.cK.length then 3 else if jB D.off then pR (-1) D.cK else 2
theorem arY {p:Int}{l:List kT}{c:Nat}(h:c < l.length):pR p (l.drop c)=if ¬(0≤l[c].aD∧l[c].aD≤120968639∧jB l[c].off) then 2 else if l[c].aD≤p then 1 else pR l[c].aD (l.drop (c+1)):=by
 rw[List.drop_eq_getElem_cons h,pR]
theorem W1 (L:Int):aK prog 220 [.int .i64 L] [] (fun v rs=>v= .bool (decide (jB L))∧rs= []):=by
 refine cr func220 W2 (by simp[Ga,Kf]) ?_;simp only[go_sem,Ga,Kf]
 repeat' ((first|refine gF ?_ ?_|refine gP ?_ ?_|refine cg ?_ ?_|refine dg ?_ ?_)<;>intro ao<;>(have ae:=ao;try simp only[bA] at ae)<;>(first|omega| (simp only[go_sem,ao,Ga,Kf];clear ao)))
 all_goals ((refine s.bb rfl ⟨congrArg z.bool ?_,rfl⟩;rw[Bool.eq_iff_iff];simp only[bA,Bool.false_eq_true,false_iff,true_iff,iff_true,iff_false,and_true,true_and] at *;try simp only[jB] at *;omega))
theorem Ba (D:bZ):aK prog 141 [D.v] [] (fun v rs=>v= .int .i64 (eR D)∧rs= []):=by
 refine cr func141 W3 (by simp[Dp,Gb]) ?_;unfold eR;simp only[go_sem,Dp,Gb,bZ.v]
 by_cases h1: (D.cK.length:Int)>64
 ·simp only[go_sem,h1];exact s.bb rfl ⟨by rw[if_pos (by omega)],rfl⟩
 simp only[go_sem,h1];rw[if_neg (by omega)];refine bH (W1 _) rfl rfl ?_
 by_cases B:jB D.off
 rotate_left
 ·simp only[go_sem,B];exact s.bb rfl ⟨rfl,rfl⟩
 simp only[go_sem,B];refine dR (fun r d=> ∃ (c:Nat) (p:Int),c≤D.cK.length∧pR (-1) D.cK=pR p (D.cK.drop c)∧(c=0→p= -1)∧(∀ j (h:j < D.cK.length),c=j+1→p=D.cK[j].aD)∧r= [(1,.aW 0 1 0 0),(14,.pure 2 (ac D.cK)),(15,.int .i64 D.cK.length),(16,.int .i64 c)]∧d= [.aa 32 2 [[.int .i64 D.off,.pure 2 (ac D.cK)]]])
  (fun r _=>match bn r 16 with| .int _ j=>(D.cK.length-j).toNat|_=>0) ?_ ?_
 ·exact s.U ⟨0,-1,by omega,rfl,fun _=>rfl,fun j _ h=>by omega,rfl,rfl⟩
 ·rintro r d ⟨c,p,an,aq,As,hn,rfl,rfl⟩;have aR:=dr (c:=c) (by omega);simp only[go_sem,Dp,Gb];refine cg ?_ ?_<;>intro ck<;>simp only[bA] at ck<;>simp only[go_sem,Dp,Gb]
  ·have aC:c < D.cK.length:=by omega
   refine⟨by omega,by omega,?_⟩
   try simp only[Int.toNat_natCast]
   rw[arY aC] at aq;have dQ: ∀ j (h:j < D.cK.length),c+1=j+1→D.cK[c].aD=D.cK[j].aD:=by intro j h aT;obtain rfl:c=j:=(by omega);rfl
   rw[cQ aC];generalize D.cK[c]=F at aq dQ ⊢;simp only[go_sem,F9]
   by_cases am:F.aD < 0
   ·simp only[go_sem,am];exact s.bb rfl ⟨by rw[aq,if_pos (by omega)],rfl⟩
   by_cases bp:F.aD>120968639
   ·simp only[go_sem,am,bp];exact s.bb rfl ⟨by rw[aq,if_pos (by omega)],rfl⟩
   simp only[go_sem,am,bp];refine bH (W1 _) rfl rfl ?_
   by_cases cn:jB F.off
   rotate_left
   ·simp only[go_sem,cn];exact s.bb rfl ⟨by rw[aq,if_pos (fun h=>cn h.2.2)],rfl⟩
   simp only[go_sem,cn];rw[if_neg (by simp only[cn,and_true];omega)] at aq;cases c with
   |zero=>
    simp only[go_sem,Int.natCast_zero,Int.lt_irrefl,gt_iff_lt];obtain rfl:=As rfl;rw[if_neg (by omega)] at aq;simp only[go_sem,Int.natCast_zero] at aR
    (refine s.bw [some 0] ?_;simp only[go_sem])
    refine s.U ⟨⟨1,F.aD,by omega,aq,fun h=>by omega,fun j h aT=>dQ j h aT,rfl,rfl⟩,?_⟩;simp only[go_sem];omega
   |succ k=>
    have I:k < D.cK.length:=by omega
    obtain rfl:=hn k I rfl;have ip: ((k+1:Nat):Int)>0:=by omega
    have mV:IntKind.i64.wrap (((k+1:Nat):Int)-1)=(k:Int):=by rw[bf (by omega) (by omega)];omega
    simp only[go_sem,ip,mV];refine⟨by omega,by omega,?_⟩
    try simp only[Int.toNat_natCast]
    rw[cQ I];simp only[go_sem,F9]
    by_cases dj:F.aD≤D.cK[k].aD
    ·rw[if_pos dj] at aq;simp only[go_sem,dj];exact s.bb rfl ⟨by rw[aq],rfl⟩
    ·rw[if_neg dj] at aq;simp only[go_sem,dj,aR]
     (refine s.bw [some 0] ?_;simp only[go_sem])
     refine s.U ⟨⟨k+1+1,F.aD,by omega,aq,fun h=>by omega,fun j h aT=>dQ j h aT,rfl,rfl⟩,?_⟩;simp only[go_sem];omega
  ·obtain rfl:c=D.cK.length:=by omega
   refine s.bb rfl ⟨?_,rfl⟩;rw[aq,List.drop_length];rfl
structure Kg (D:bZ):Prop where
 len:D.cK.length≤64
 off:jB D.off
 cK: ∀ F∈D.cK,0≤F.aD∧F.aD≤120968639∧jB F.off
theorem W4: ∀ {l:List kT} {p:Int},pR p l=0→ ∀ F∈l,0≤F.aD∧F.aD≤120968639∧jB F.off
 | [],_,_,F,V=>by simp at V
 |x::ai,p,h,F,V=>by
  rw[pR] at h;split at h
  ·cases h
  split at h
  ·cases h
  rename_i h1 B;rcases List.mem_cons.1 V with rfl|V
  ·exact Classical.not_not.1 h1
  ·exact W4 h F V
theorem vo {D:bZ}(h:eR D=0):Kg D:=by
 unfold eR at h;split at h
 ·cases h
 split at h
 ·rename_i h1 B;exact⟨by omega,B,W4 h⟩
 ·cases h
def yG (t:Int)(L:Int)(l:List kT):Int:=l.foldl (fun L F=>if F.aD≤t then F.off else L) L
def wY (D:bZ)(t:Int):Int:=yG t D.off D.cK
theorem arZ {t L:Int}{l:List kT}{c:Nat}(h:c < l.length):yG t L (l.take (c+1))=if l[c].aD≤t then l[c].off else yG t L (l.take c):=by
 unfold yG;rw[List.take_succ_eq_append_getElem h,List.foldl_append];rfl
theorem W5 {t:Int}: ∀ {l:List kT} {L:Int},jB L→(∀ F∈l,jB F.off)→jB (yG t L l)
 | [],_,bi,_=>bi
 |F::aj,L,bi,hl=>by
  unfold yG;rw[List.foldl_cons];refine W5 (l:=aj) ?_ (fun x ad=>hl x (List.mem_cons_of_mem _ ad));split
  ·exact hl F List.mem_cons_self
  ·exact bi
theorem W6 {D:bZ}(aS:Kg D)(t:Int):jB (wY D t):=W5 aS.off (fun F V=>(aS.cK F V).2.2)
theorem asa (D:bZ)(aS:eR D=0)(t:Int)(h0:0≤t)(h1:t≤120968639):aK prog 322 [D.v,.int .i64 t] [] (fun v rs=>v= .bg [.int .i64 (wY D t),.int .i64 0]∧rs= []):=by
 have I:=vo aS;have cB:=I.len;refine cr func322 W7 (by simp[Dq,Gc]) ?_;have aX: ¬t < 0:=by omega
 have n1: ¬t>120968639:=by omega
 simp only[go_sem,Dq,Gc,bZ.v];refine bH (Ba D) rfl rfl ?_;simp only[go_sem,aS,aX,n1];refine dR (fun r d=> ∃ (c:Nat),c≤D.cK.length∧wY D t=yG t D.off (D.cK.take c)∧r= [(1,.int .i64 t),(2,.aW 0 1 0 0),(7,.int .i64 ((c:Int)-1))]∧d= [.aa 32 2 [[.int .i64 D.off,.pure 2 (ac D.cK)]]])
  (fun r _=>match bn r 7 with| .int _ j=>(j+1).toNat|_=>0) ?_ ?_
 ·have aR:IntKind.i64.wrap ((D.cK.length:Int)-1)=(D.cK.length:Int)-1:=bf (by omega) (by omega);simp only[go_sem,aR];exact s.U ⟨D.cK.length,by omega,by rw[List.take_length];rfl,rfl,rfl⟩
 ·rintro r d ⟨c,an,ak,rfl,rfl⟩;simp only[go_sem,Dq,Gc];refine cg ?_ ?_<;>intro ck<;>simp only[bA] at ck<;>simp only[go_sem,Dq,Gc]
  ·obtain⟨k,rfl⟩: ∃ k,c=k+1:=⟨c-1,by omega⟩;have aC:k < D.cK.length:=by omega
   have V: ((k+1:Nat):Int)-1=(k:Int):=by omega
   rw[V];rw[arZ aC] at ak;refine⟨by omega,by omega,?_⟩
   try simp only[Int.toNat_natCast]
   rw[cQ aC];simp only[go_sem,F9]
   by_cases am:D.cK[k].aD≤t
   ·rw[if_pos am] at ak;simp only[go_sem,am];refine⟨by omega,by omega,?_⟩
    try simp only[Int.toNat_natCast]
    rw[cQ aC];simp only[go_sem,F9];exact s.bb rfl ⟨by rw[ak],rfl⟩
   ·rw[if_neg am] at ak;have aR:IntKind.i64.wrap ((k:Int)-1)=(k:Int)-1:=bf (by omega) (by omega);simp only[go_sem,am,aR];refine s.U ⟨⟨k,by omega,ak,rfl,rfl⟩,?_⟩;simp only[go_sem];omega
  ·obtain rfl:c=0:=by omega
   refine s.bb rfl ⟨?_,rfl⟩;rw[ak];rfl
theorem W8 (D:bZ)(aS:eR D=0)(t:Int)(h0:0≤t)(h1:t≤120968639):aK prog 259 [D.v,.int .i64 t] [] (fun v rs=>v= .bg [.int .i64 (t+wY D t),.int .i64 0]∧rs= []):=by
 have Z:=W6 (vo aS) t;unfold jB at Z;have aR:IntKind.i64.wrap (t+wY D t)=t+wY D t:=bf (by omega) (by omega);refine cr func259 W9 (by simp[Kh,PE]) ?_;simp only[go_sem,Kh,PE,bZ.v];refine bH (asa D aS t h0 h1) rfl rfl ?_;simp only[go_sem,aR];exact s.bb rfl ⟨rfl,rfl⟩
theorem Xa: ∀ {l:List kT} {p:Int} {F:kT},pR p l=0→(∀ x∈l,x.aD < F.aD)→p < F.aD→0≤F.aD∧F.aD≤120968639∧jB F.off→pR p (l++ [F])=0
 | [],p,F,_,_,ae,V=>by
  rw[List.nil_append,pR,if_neg (fun h=>h V),if_neg (by omega)];rfl
 |x::ai,p,F,h,ad,ae,V=>by
  rw[pR] at h;rw[List.cons_append,pR];split at h
  ·cases h
  split at h
  ·cases h
  rename_i h1 B;rw[if_neg h1,if_neg B];exact Xa h (fun y bl=>ad y (List.mem_cons_of_mem _ bl)) (ad x List.mem_cons_self) V
theorem asb (l:List Int)(hl:kx l)(aD:Int)(h0:0≤aD)(h1:aD≤l.length):aK prog 58 [.aW 0 1 0 0] [fx l aD]
 (fun v rs=> ∃ (a:Int) (D:bZ),v=D.v∧rs= [fx l a]∧0≤a∧a≤l.length∧eR D=0∧D.cK.length≤3):=by
 refine hr func58 Xb (by simp[Ds,Gd]) ?_;simp only[go_sem,Ds,Gd,fx]
 (refine s.U ?_;simp only[go_sem])
 (refine iy [0,60,-300,840,-840,570] (gG l hl _ (by simp) (by simp)) ?_;rintro _ aD _ _ ⟨L,bV,rfl⟩;simp only[fA] at bV;simp only[go_sem])
 have bi:jB L:=by unfold jB;omega
 clear bV
 (refine s.U ?_;simp only[go_sem])
 (refine iy [0,29453760,29455200,29456700,29453060] (gG l hl _ (by simp) (by simp)) ?_;rintro _ aD _ _ ⟨t0,bV,rfl⟩;simp only[fA] at bV;simp only[go_sem])
 have yH:0≤t0∧t0≤29456700:=by omega
 clear bV
 (refine s.U ?_;simp only[go_sem])
 (refine ie (fB l hl 4 (by omega)) ?_;rintro _ aD _ _ ⟨n,rfl,_,_⟩;simp only[go_sem])
 (refine s.U ?_;simp only[go_sem])
 refine gY (fun r d=> ∃ (a:Int) (aj:List kT) (j t:Int),r= [(0,.aW 0 1 0 0),(2,.aW 1 1 0 0),(3,.aW 2 1 0 0),(4,.int .i64 t),(5,.int .i64 j)]∧d= [dK 143 l a,.aa 32 2 [[.int .i64 0,.bD]],.aa 32 2 [[.int .i64 L,.own 3 aj.length 0 aj.length]],.aa 259 2 (ac aj)]∧0≤a∧a≤l.length∧0≤j∧aj.length+j≤3∧pR (-1) aj=0∧(∀ F∈aj,F.aD < t)∧0≤t∧t+4320*j≤29470000)
  (fun r _=>match bn r 5 with| .int _ j=>j.toNat|_=>0) ?_ ?_
 ·(refine s.nt (.uP 3 0 1 259 2 rfl (by simp) (by decide) rfl) ?_;simp only[go_sem,eO])
  (refine s.bw [some 0,some 1,some 3,some 5] ?_;simp only[go_sem])
  exact s.U ⟨aD,[],n,t0,rfl,rfl,by omega,by omega,by omega,by simp;omega,rfl,by simp,by omega,by omega⟩
 ·rintro r d ⟨aD,aj,j,t,rfl,rfl,_,_,_,jv,es,aC,Ki,Dt⟩;simp only[go_sem,Ds,Gd]
  (refine s.U ?_;simp only[go_sem])
  refine dg ?_ ?_<;>intro ao<;>simp only[bA] at ao<;>simp only[go_sem,Ds,Gd]
  ·(refine s.U ?_;simp only[go_sem])
   (refine FU [60,120,0,-300,840,-840] (gG l hl _ (by simp) (by simp)) ?_;rintro _ aD _ _ ⟨x,bV,rfl⟩;simp only[fA] at bV;simp only[go_sem])
   have ad:jB x:=by unfold jB;omega
   clear bV;refine⟨by omega,?_⟩;rw[arX]
   (refine s.U ?_;simp only[go_sem])
   (refine iy [60,1440,30,4320,1] (gG l hl _ (by simp) (by simp)) ?_;rintro _ aD _ _ ⟨y,bV,rfl⟩;simp only[fA] at bV;simp only[go_sem])
   have bl:1≤y∧y≤4320:=by omega
   clear bV;rw[bf (by omega) (by omega)]
   (refine s.U ?_;simp only[go_sem])
   rw[bf (by omega) (by omega)]
   (refine s.bw [some 0,some 1,some 2,some 3] ?_;simp only[go_sem])
   refine s.U ⟨⟨aD,aj++ [⟨t,x⟩],j-1,t+y,by simp,by simp,by omega,by omega,by omega,by simp;omega,?_,?_,by omega,by omega⟩,?_⟩
   ·exact Xa es aC (by simp only;omega) ⟨by simp only;omega,by simp only;omega,ad⟩
   ·intro F V;rcases List.mem_append.1 V with V|V
    ·have:=aC F V;omega
    ·rw[List.mem_singleton] at V;subst V;simp only;omega
   ·simp only[go_sem];omega
  ·(refine s.U ?_;simp only[go_sem])
   (refine s.kp [some 0,some 1] [3] ?_;simp only[go_sem])
   (refine s.U ?_;simp only[go_sem])
   (refine s.bw [some 0] ?_;simp only[go_sem])
   refine s.U ⟨aD,⟨L,aj⟩,rfl,rfl,by omega,by omega,?_,by simp only;omega⟩;unfold eR;rw[if_neg (by simp only;omega),if_pos bi];exact es
structure oZ where
 J:Int
 T:Int
 off:Int
def oZ.cells (e:oZ):List z:= [.int .i64 e.J,.int .i64 e.T,.int .i64 e.off]
instance:aG oZ:=⟨oZ.cells,3,fun _=>rfl,fun _=>rfl,fun _=>rfl⟩
theorem Xc (e:oZ):aG.F e= [.int .i64 e.J,.int .i64 e.T,.int .i64 e.off]:=rfl
theorem asc:aG.N oZ=3:=rfl
theorem asd (e:oZ):List.take 3 (aG.F e)=aG.F e:=rfl
attribute [go_sem] asc asd
theorem Xd {l:List oZ}{a b F:Int}:ac l++ [[.int .i64 a,.int .i64 b,.int .i64 F]]=ac (l++ [⟨a,b,F⟩]):=kz (x:=oZ.mk a b F)
def lH:Int→Int→List kT→List oZ
 |f,L,[]=> [⟨f,120968640,L⟩]
 |f,L,F::aj=>(if f < F.aD then [⟨f,F.aD,L⟩] else [])++lH F.aD F.off aj
theorem ase {f L:Int}{l:List kT}{c:Nat}(h:c < l.length):lH f L (l.drop c)=(if f < l[c].aD then [⟨f,l[c].aD,L⟩] else [])++lH l[c].aD l[c].off (l.drop (c+1)):=by
 rw[List.drop_eq_getElem_cons h,lH]
theorem Xe (D:bZ)(aS:D.cK.length≤64):aK prog 209 [D.v] [] (fun v rs=>v= .own 0 (lH 0 D.off D.cK).length 0 (lH 0 D.off D.cK).length∧rs= [.aa 326 3 (ac (lH 0 D.off D.cK))]):=by
 refine cr func209 Xf (by simp[Du,Ge]) ?_;simp only[go_sem,Du,Ge,bZ.v];refine dR (fun r d=> ∃ (c:Nat) (f L:Int) (i:List oZ),c≤D.cK.length∧lH 0 D.off D.cK=i++lH f L (D.cK.drop c)∧i.length≤c∧r= [(3,.own 1 i.length 0 i.length),(4,.aW 0 1 0 0),(11,.pure 2 (ac D.cK)),(12,.int .i64 D.cK.length),(13,.int .i64 c)]∧d= [.aa 326 3 [[.int .i64 f,.int .i64 0,.int .i64 L]],.aa 326 3 (ac i)])
  (fun r _=>match bn r 13 with| .int _ j=>(D.cK.length-j).toNat|_=>0) ?_ ?_
 ·(refine s.iI 3 326 3 rfl (s.eW [3,4,11,12,13] ?_);simp only[go_sem])
  (refine s.bw [some 1,some 2] ?_;simp only[go_sem])
  exact s.U ⟨0,0,D.off,[],by omega,rfl,by simp,rfl,rfl⟩
 ·rintro r d ⟨c,f,L,i,an,aq,G,rfl,rfl⟩;have aR:=dr (c:=c) (by omega);simp only[go_sem,Du,Ge];refine cg ?_ ?_<;>intro ck<;>simp only[bA] at ck<;>simp only[go_sem,Du,Ge]
  ·have aC:c < D.cK.length:=by omega
   refine⟨by omega,by omega,?_⟩
   try simp only[Int.toNat_natCast]
   rw[ase aC] at aq;rw[cQ aC];generalize D.cK[c]=F at aq ⊢;simp only[go_sem,F9]
   by_cases am:F.aD>f
   ·rw[if_pos am,←List.append_assoc] at aq;simp only[go_sem,am];refine⟨by omega,?_⟩;simp only[go_sem,Xd,aR]
    (refine s.bw [some 0,some 1] ?_;simp only[go_sem])
    refine s.U ⟨⟨c+1,F.aD,F.off,_,by omega,aq,by simp;omega,by simp,rfl⟩,?_⟩;simp only[go_sem];omega
   ·rw[if_neg am,List.nil_append] at aq;simp only[go_sem,am,aR]
    (refine s.bw [some 0,some 1] ?_;simp only[go_sem])
    refine s.U ⟨⟨c+1,F.aD,F.off,_,by omega,aq,by omega,rfl,rfl⟩,?_⟩;simp only[go_sem];omega
  ·obtain rfl:c=D.cK.length:=by omega
   rw[List.drop_length,lH] at aq;refine⟨by omega,?_⟩;simp only[go_sem,Xd]
   (refine s.bw [some 1] ?_;simp only[go_sem])
   rw[aq];exact s.U ⟨by simp[bn],rfl⟩
def sE:List oZ→Int→Int
 | [],_=>120968640
 |E::bN,t=>if max E.J (t-E.off) < E.T then max E.J (t-E.off) else sE bN t
theorem asf {l:List oZ}{t:Int}{c:Nat}(h:c < l.length):sE (l.drop c) t=if max l[c].J (t-l[c].off) < l[c].T then max l[c].J (t-l[c].off) else sE (l.drop (c+1)) t:=by
 rw[List.drop_eq_getElem_cons h,sE]
def tY (D:bZ)(t:Int):Int:=if 120969479 < t then 120968640 else sE (lH 0 D.off D.cK) (max t (-840))
theorem Kj: ∀ {l:List kT} {f L:Int},0≤f→f≤120968640→jB L→(∀ F∈l,0≤F.aD∧F.aD≤120968639∧jB F.off)→ ∀ E∈lH f L l,0≤E.J∧E.J≤120968640∧0≤E.T∧E.T≤120968640∧jB E.off
 | [],f,L,h0,h1,bi,_,E,ak=>by
  simp only[lH,List.mem_singleton] at ak;subst ak;exact⟨h0,h1,by simp only;omega,by simp only;omega,bi⟩
 |F::aj,f,L,h0,h1,bi,V,E,ak=>by
  have B:=V F List.mem_cons_self;rw[lH,List.mem_append] at ak;rcases ak with ak|ak
  ·split at ak
   ·rw[List.mem_singleton] at ak;subst ak;exact⟨h0,h1,by simp only;omega,by simp only;omega,bi⟩
   ·simp at ak
  ·exact Kj (by omega) (by omega) B.2.2 (fun F h=>V F (List.mem_cons_of_mem _ h)) E ak
theorem Xg: ∀ {l:List oZ} {t:Int},(∀ E∈l,0≤E.J∧E.T≤120968640)→0≤sE l t∧sE l t≤120968640
 | [],t,_=>by simp[sE]
 |E::bN,t,h=>by
  have h1:=h E List.mem_cons_self;rw[sE];split
  ·omega
  ·exact Xg fun E ak=>h E (List.mem_cons_of_mem _ ak)
theorem PF: ∀ {l:List kT} {f L:Int},(lH f L l).length≤l.length+1
 | [],f,L=>by simp[lH]
 |F::aj,f,L=>by
  have:=PF (l:=aj) (f:=F.aD) (L:=F.off);rw[lH,List.length_append,List.length_cons];split<;>simp<;>omega
theorem asg (D:bZ)(aS:Kg D)(t:Int)(ht: -1000000000≤t):aK prog 284 [D.v,.int .i64 t] [] (fun v rs=>v= .int .i64 (tY D t)∧rs= []):=by
 refine cr func284 Xh (by simp[Dv,Gf]) ?_;have PG:=Xe D aS.len;have rD:=Kj (l:=D.cK) (f:=0) (L:=D.off) (by omega) (by omega) aS.off aS.cK;have PH:=PF (l:=D.cK) (f:=0) (L:=D.off);have Kk:=aS.len;unfold tY;unfold bZ.v at PG ⊢;simp only[go_sem,Dv,Gf]
 by_cases h1:t>120969479
 ·have hP:120969479 < t:=h1;simp only[go_sem,h1,hP];exact s.bb rfl ⟨rfl,rfl⟩
 have hP: ¬120969479 < t:=h1;rw[if_neg hP];simp only[go_sem,h1]
 (refine vf (PG) ?_;rintro _ _ ⟨rfl,rfl⟩;simp only[go_sem])
 clear PG
 try rw[show Int.negSucc 839= -840 from rfl]
 generalize lH 0 D.off D.cK=l at *;obtain⟨u,aZ⟩: ∃ u,u=max t (-840):=⟨_,rfl⟩;rw[←aZ];have Xi: -1000000000≤u∧u≤120969479:=by omega
 refine dR (fun r d=> ∃ c:Nat,c≤l.length∧sE l u=sE (l.drop c) u∧r= [(1,.int .i64 u),(13,.own 0 l.length 0 l.length),(14,.int .i64 l.length),(15,.int .i64 c)]∧d= [.aa 326 3 (ac l)])
  (fun r _=>match bn r 15 with| .int _ j=>(l.length-j).toNat|_=>0) ?_ ?_
 ·(refine s.bw [some 1] ?_;simp only[go_sem])
  exact s.U ⟨0,by omega,rfl,rfl,rfl⟩
 ·rintro r d ⟨c,an,aq,rfl,rfl⟩;have aR:=dr (c:=c) (by omega);simp only[go_sem,Dv,Gf];refine cg ?_ ?_<;>intro ck<;>simp only[bA] at ck<;>simp only[go_sem,Dv,Gf]
  ·have aC:c < l.length:=by omega
   refine⟨by omega,by omega,?_⟩
   try simp only[Int.toNat_natCast]
   rw[asf aC] at aq;have Z:=rD l[c] (List.getElem_mem _);rw[cQ aC];generalize l[c]=E at aq Z ⊢;unfold jB at Z;simp only[go_sem,Xc];rw[bf (x:=u-E.off) (by omega) (by omega)]
   by_cases am:max E.J (u-E.off) < E.T
   ·rw[if_pos am] at aq;simp only[go_sem,am];exact s.bb rfl ⟨by rw[aq],rfl⟩
   ·rw[if_neg am] at aq;simp only[go_sem,am,aR]
    (refine s.bw [some 0] ?_;simp only[go_sem])
    refine s.U ⟨⟨c+1,by omega,aq,rfl,rfl⟩,?_⟩;simp only[go_sem];omega
  ·obtain rfl:c=l.length:=by omega
   refine s.bb rfl ⟨?_,rfl⟩;rw[aq,List.drop_length];rfl
theorem Xj {D:bZ}(aS:Kg D)(t:Int):0≤tY D t∧tY D t≤120968640:=by
 unfold tY;split
 ·omega
 ·exact Xg fun E ak=>by
   have:=Kj (l:=D.cK) (f:=0) (L:=D.off) (by omega) (by omega) aS.off aS.cK E ak;omega
theorem ash (D:bZ)(t:Int)(ht: -1000000000≤t):aK prog 226 [D.v,.int .i64 t] [] (fun v rs=>v=(if eR D=0 then .bg [.int .i64 (tY D t),.int .i64 0] else .bg [.int .i64 0,.int .i64 (eR D)])∧rs= []):=by
 refine cr func226 Xk (by simp[Kl,PI]) ?_;have hV:=Ba D;have hF:=fun h:eR D=0=>asg D (vo h) t ht;unfold bZ.v at *;simp only[go_sem,Kl,PI];refine bH hV rfl rfl ?_
 by_cases h:eR D=0
 ·rw[if_pos h,h];simp only[go_sem,bne_self_eq_false];refine bH (hF h) rfl rfl ?_;simp only[go_sem];exact s.bb rfl ⟨rfl,rfl⟩
 ·rw[if_neg h];have cJ: (eR D != 0)=true:=bne_iff_ne.2 h;simp only[go_sem,cJ];exact s.bb rfl ⟨rfl,rfl⟩
def yI (t:Int):List oZ→Int→Int
 | [],g=>g
 |E::bN,g=>if E.J>t then g else yI t bN (max g (min t (E.T-1)+E.off))
theorem asi {t g:Int}{l:List oZ}{c:Nat}(h:c < l.length):yI t (l.drop c) g=if l[c].J>t then g else yI t (l.drop (c+1)) (max g (min t (l[c].T-1)+l[c].off)):=by
 rw[List.drop_eq_getElem_cons h,yI]
def lI (D:bZ)(t:Int):Int:=min (Int.tdiv (yI t (lH 0 D.off D.cK) 0) 1440) 84005
def nC (D:bZ)(t:Int):Int:=if eR D≠0 then eR D else if t < 0∨120968639 < t then 2 else 0
theorem Xl (D:bZ)(t:Int):aK prog 125 [D.v,.int .i64 t] [] (fun v rs=>v= .bg [.int .i64 (if nC D t=0 then lI D t else 0),.int .i64 (nC D t)]∧rs= []):=by
 refine cr func125 Xm (by simp[Dw,Gg]) ?_;have hV:=Ba D;have de:=fun h:eR D=0=>Xe D (vo h).len;have cL:=fun h:eR D=0=>Kj (l:=D.cK) (f:=0) (L:=D.off) (by omega) (by omega) (vo h).off (vo h).cK;have hL:=fun h:eR D=0=>(vo h).len;have PH:=PF (l:=D.cK) (f:=0) (L:=D.off);unfold bZ.v at *;simp only[go_sem,Dw,Gg];refine bH hV rfl rfl ?_
 by_cases h:eR D=0
 rotate_left
 ·have cJ: (eR D != 0)=true:=bne_iff_ne.2 h;have e:nC D t=eR D:=by unfold nC;rw[if_pos h]
  rw[e,if_neg h];simp only[go_sem,cJ];exact s.bb rfl ⟨rfl,rfl⟩
 replace de:=de h
 replace cL:=cL h
 replace hL:=hL h
 rw[h];simp only[go_sem,bne_self_eq_false]
 by_cases h1:t < 0
 ·simp only[go_sem,h1];have e:nC D t=2:=by unfold nC;rw[if_neg (fun hh=>hh h),if_pos (.inl h1)]
  rw[e];exact s.bb rfl ⟨rfl,rfl⟩
 by_cases B:120968639 < t
 ·have oI:t>120968639:=B;simp only[go_sem,h1,B,oI];have e:nC D t=2:=by unfold nC;rw[if_neg (fun hh=>hh h),if_pos (.inr B)]
  rw[e];exact s.bb rfl ⟨rfl,rfl⟩
 have oI: ¬t>120968639:=B;have e:nC D t=0:=by unfold nC;rw[if_neg (fun hh=>hh h),if_neg (by omega)]
 rw[e,if_pos rfl];unfold lI;simp only[go_sem,h1,B,oI]
 (refine vf (de) ?_;rintro _ _ ⟨rfl,rfl⟩;simp only[go_sem])
 clear de hV;generalize lH 0 D.off D.cK=l at *;refine dR (fun r d=> ∃ (c:Nat) (g:Int),c≤l.length∧0≤g∧g≤200000000∧yI t l 0=yI t (l.drop c) g∧r= [(1,.int .i64 t),(7,.int .i64 g),(22,.own 0 l.length 0 l.length),(23,.int .i64 l.length),(24,.int .i64 c)]∧d= [.aa 326 3 (ac l)])
  (fun r _=>match bn r 24 with| .int _ j=>(l.length-j).toNat|_=>0) ?_ ?_
 ·(refine s.bw [some 1] ?_;simp only[go_sem])
  exact s.U ⟨0,0,by omega,by omega,by omega,rfl,rfl,rfl⟩
 ·rintro r d ⟨c,g,an,vi,dL,aq,rfl,rfl⟩;have aR:=dr (c:=c) (by omega);simp only[go_sem,Dw,Gg];refine cg ?_ ?_<;>intro ck<;>simp only[bA] at ck<;>simp only[go_sem,Dw,Gg]
  ·have aC:c < l.length:=by omega
   refine⟨by omega,by omega,?_⟩
   try simp only[Int.toNat_natCast]
   rw[asi aC] at aq;have Z:=cL l[c] (List.getElem_mem _);rw[cQ aC];generalize l[c]=E at aq Z ⊢;unfold jB at Z;have vp: ∀ g:Int,0≤g→g≤400000000→IntKind.i64.wrap (g.tdiv 1440)=g.tdiv 1440:=fun g h0 h1=>by
    rw[Int.tdiv_eq_ediv_of_nonneg h0];exact bf (by omega) (by omega)
   simp only[go_sem,Xc]
   by_cases am:E.J>t
   ·have wZ:t < E.J:=am;rw[if_pos am] at aq;simp only[go_sem,wZ];refine⟨by omega,?_⟩;rw[vp g vi (by omega)];exact s.bb rfl ⟨by rw[aq],rfl⟩
   ·have wZ: ¬t < E.J:=am;rw[if_neg am] at aq;rw[decide_eq_false wZ];simp only[go_sem];rw[bf (x:=E.T-1) (by omega) (by omega),bf (x:=min t (E.T-1)+E.off) (by omega) (by omega),aR]
    (refine s.bw [some 0] ?_;simp only[go_sem])
    refine s.U ⟨⟨c+1,max g (min t (E.T-1)+E.off),by omega,by omega,by omega,aq,rfl,rfl⟩,?_⟩;simp only[go_sem];omega
  ·obtain rfl:c=l.length:=by omega
   refine⟨by omega,?_⟩;have vp:IntKind.i64.wrap (g.tdiv 1440)=g.tdiv 1440:=by
    rw[Int.tdiv_eq_ediv_of_nonneg vi];exact bf (by omega) (by omega)
   rw[vp];rw[List.drop_length,yI] at aq;exact s.bb rfl ⟨by rw[aq],rfl⟩
end Go.Proofs.YtpincjkjoeopkaaGreatDoor
