/- Time evaluation. -/
import Derived.Test.YtpincjkjoeopkaaGreatDoorK17
import Derived.Test.YtpincjkjoeopkaaGreatDoorK23
import Derived.Test.YtpincjkjoeopkaaGreatDoorK15
import Derived.Test.YtpincjkjoeopkaaGreatDoorK4
set_option linter.unusedSimpArgs false
set_option linter.unusedVariables false
set_option linter.unusedSectionVars false
namespace Go.Proofs.YtpincjkjoeopkaaGreatDoor
open Go Go.Abs Go.Proofs.Tryz
def nb (J T:Int)(bq:List Int×(Int→Bool→List (List z)))(x:Int×List z):List Int×(Int→Bool→List (List z)):=
 if J≤x.1∧x.1≤T then (ea x.1 bq.1,gH bq.2 x.1 false x.2) else bq
def eJ (J T:Int)(bq:List Int×(Int→Bool→List (List z)))(aU:List (Int×List z)):List Int×(Int→Bool→List (List z)):=aU.foldl (nb J T) bq
theorem YK {J T:Int}{bq:List Int×(Int→Bool→List (List z))}{aU:List (Int×List z)}{c:Nat}(an:c < aU.length):eJ J T bq (aU.take (c+1))=nb J T (eJ J T bq (aU.take c)) aU[c]:=by
 unfold eJ;rw[List.take_succ_eq_append_getElem an,List.foldl_append];rfl
theorem Bt {J T:Int}: ∀ (aU:List (Int×List z)) (bq:List Int×(Int→Bool→List (List z))) (n:Nat),(∀ o k,(bq.2 o k).length≤n)→ ∀ o k,((eJ J T bq aU).2 o k).length≤n+aU.length
 | [],bq,n,h,o,k=>h o k
 |x::aU,bq,n,h,o,k=>by
  unfold eJ;rw[List.foldl_cons];refine Nat.le_trans (Bt aU (nb J T bq x) (n+1) (fun o k=> ?_) o k) (by rw[List.length_cons];omega);unfold nb;split
  ·show (gH bq.2 x.1 false _ o k).length≤n+1;unfold gH;split
   ·have:=h x.1 false;rw[List.length_append];simp;omega
   ·have:=h o k;omega
  ·have:=h o k;omega
def jR (O:List Pm.Pm):List (Int×List z):=O.map fun p=>(p.ab,[.str p.name,.int .i64 p.min])
set_option maxHeartbeats 2000000 in
theorem avo {d:List R}{E m:Nat}{J T:Int}{M:List Int}{ba:Int→Bool→List (List z)}(h0:hy d E m J T M ba)(cL: ∀ o k,(ba o k).length≤100000)(O:List Pm.Pm)(hl:O.length≤100000):
 aK prog 44 [.aW E 1 0 0,.pure 3 (ac O)] d
  (fun v W=>v= .bg []∧fY d W m∧hy W E m J T (eJ J T (M,ba) (jR O)).1 (eJ J T (M,ba) (jR O)).2):=by
 have fd:=jP h0.choose_spec.E;refine cr func44 aaA (by simp[Ed,Hl]) ?_;have gm: (jR O).length=O.length:=by unfold jR;rw[List.length_map]
 simp only[go_sem,Ed,Hl,bO];refine dR (fun r W=> ∃ c:Nat,c≤O.length∧r= [(0,.aW E 1 0 0),(6,.pure 3 (ac O)),(7,.int .i64 O.length),(8,.int .i64 c)]∧fY d W m∧hy W E m J T (eJ J T (M,ba) ((jR O).take c)).1 (eJ J T (M,ba) ((jR O).take c)).2)
  (fun r _=>match bn r 8 with| .int _ j=>(O.length-j).toNat|_=>0) ?_ ?_
 ·exact s.U ⟨0,by omega,rfl,fY.refl,h0⟩
 rintro r W ⟨c,an,rfl,hF,cU⟩;have aR:=dr (c:=c) (by omega)
 by_cases aC:c < O.length
 ·have h1: (c:Int) < O.length:=by omega
  have z0: (0:Int)≤c:=by omega
  have ao: (ac O).getD c []=aG.F O[c]:=cQ aC;have dQ:=YK (J:=J) (T:=T) (bq:=(M,ba)) (aU:=jR O) (c:=c) (by omega);have LD: (jR O)[c]'(by omega)=(O[c].ab,[.str O[c].name,.int .i64 O[c].min]):=by unfold jR;rw[List.getElem_map]
  rw[LD] at dQ;generalize O[c]=p at *;have cB:=Bt (J:=J) (T:=T) ((jR O).take c) (M,ba) 100000 cL;have yQ: ((jR O).take c).length≤100000:=by simp;omega
  have vw:hy (W++ [.aa 136 3 [[.int .i64 p.ab,.str p.name,.int .i64 p.min]]]) E m J T (eJ J T (M,ba) ((jR O).take c)).1 (eJ J T (M,ba) ((jR O).take c)).2:=by
   obtain⟨xd,xe⟩:=cU;exact⟨xd,xe.ext (by intro bz hrow;rw[List.mem_singleton] at hrow;subst hrow;exact kf rfl)⟩
  simp only[go_sem,Ed,Hl,z0,h1,ao,Pm.axa,bO,Int.toNat_natCast,List.append_assoc,dE,dz,dW,dT,List.length_append];refine tV vw.choose_spec.all (by
   have am:=jP vw.choose_spec.E;simp only[gl,di,am,decide_true,Bool.and_true]) (Qa vw (fun o k=>Nat.le_trans (cB o k) (by omega)) p.ab p.name p.min) ?_
  rintro _ W' ⟨rfl,pc,jg⟩;refine⟨pc.1,?_⟩;simp only[go_sem,aR];refine s.U ⟨⟨c+1,by omega,rfl,hF.trans (fY.lC.trans pc),?_⟩,?_⟩
  ·rw[dQ];unfold nb;simp only
   by_cases G:J≤p.ab∧p.ab≤T
   ·rw[if_pos G] at jg ⊢;exact jg
   ·rw[if_neg G] at jg ⊢;exact jg
  ·simp only[go_sem];omega
 ·have h1: ¬(c:Int) < O.length:=by omega
  obtain rfl:c=O.length:=by omega
  rw[List.take_of_length_le (by omega)] at cU;simp only[go_sem,Ed,Hl,h1];exact s.U ⟨rfl,hF,cU⟩
end Go.Proofs.YtpincjkjoeopkaaGreatDoor
namespace Go.Proofs.YtpincjkjoeopkaaGreatDoor.Pr
open Go Go.Abs Go.Proofs.Tryz
def fx (l:List Int)(a:Int):R:=dK 143 l a
theorem Dn (v n:Int)(aB:0 < n)(FH:n≤9223372036854775807):aK prog 10 [.int .i64 v,.int .i64 n] [] (fun i d=>i= .int .i64 (mod v n)∧d= []):=by
 refine cr func10 Kb (by simp[tW,rC]) ?_;simp only[go_sem,tW,rC];refine⟨by omega,?_⟩;have h1:=Int.tmod_lt_of_pos v aB;refine cg ?_ ?_<;>intro ao<;>simp only[go_sem,tW,rC]<;>refine s.bb rfl ⟨?_,rfl⟩<;>simp only[decide_eq_true_eq,decide_eq_false_iff_not] at ao
 ·have B: -n < v.tmod n:=by
   have:=Int.lt_tmod_of_pos v aB;omega
  rw[bf (by omega) (by omega),mod,if_pos ao]
 ·rw[mod,if_neg ao]
theorem fB (l:List Int)(hl:kx l)(n:Int)(aB:n≤9223372036854775807):vd prog 143 64 [.int .i64 n] l (ON n):=by
 intro aD h0 h1;refine cr func64 Kd (by simp[tX,vn]) ?_;simp only[go_sem,tX,vn,dK];have cB:=hl.len
 repeat' ((first|refine gF ?_ ?_|refine gP ?_ ?_|refine cg ?_ ?_|refine dg ?_ ?_)<;>intro ao<;>(have ae:=ao;try simp only[bA] at ae)<;>(first|omega| (simp only[go_sem,ao,tX,vn];clear ao)))
 ·exact s.tape rfl h0 h1 ⟨0,rfl,by omega,by omega⟩
 ·exact s.tape rfl h0 h1 ⟨0,rfl,by omega,by omega⟩
 ·simp (disch:=omega) only[bf,sA,Int.add_sub_cancel];refine⟨by omega,by omega,by simp,?_⟩;simp only[go_sem];refine jd (Dn _ _ (by omega) aB) rfl rfl ?_;simp only[go_sem];have Z:=OO (v:=l.getD aD.toNat 0) (n:=n) (by omega);exact s.tape rfl (by omega) (by omega) ⟨_,rfl,by omega,by omega⟩
theorem gG (l:List Int)(hl:kx l)(ai:List Int)(ad:0 < ai.length)(rj:ai.length≤1000):AO prog 143 3 59 l ai (fun v=> ∃ x,x∈ai∧v= .int .i64 x):=by
 intro aD h0 h1;refine cr func59 Ke (by simp[yF,A9]) ?_;simp only[go_sem,yF,A9];refine wL (fB l hl _ (by omega)) rfl (by simp) h0 h1 ?_;rintro v a B am ⟨x,rfl,bp,cn⟩;simp only[go_sem];refine⟨by omega,by omega,?_⟩;rw[sA (by omega)];simp only[go_sem];refine s.U ⟨a,rfl,B,am,rfl,_,?_,rfl⟩;rw[List.getD_eq_getElem?_getD,List.getElem?_eq_getElem (by omega)];simp
structure bs where
 J:Int
 T:Int
def bs.cells (e:bs):List z:= [.int .i64 e.J,.int .i64 e.T]
instance:aG bs:=⟨bs.cells,2,fun _=>rfl,fun _=>rfl,fun _=>rfl⟩
theorem eM (e:bs):aG.F e= [.int .i64 e.J,.int .i64 e.T]:=rfl
theorem Sb:aG.N bs=2:=rfl
theorem Sc (e:bs):List.take 2 (aG.F e)=aG.F e:=rfl
attribute [go_sem] Sb Sc
structure Stamp where
 time:Int
 cH:Int
 da:Int
 M:Int
def Stamp.cells (e:Stamp):List z:= [.int .i64 e.time,.int .i64 e.cH,.int .i64 e.da,.int .i64 e.M]
instance:aG Stamp:=⟨Stamp.cells,4,fun _=>rfl,fun _=>rfl,fun _=>rfl⟩
theorem Mh (e:Stamp):aG.F e= [.int .i64 e.time,.int .i64 e.cH,.int .i64 e.da,.int .i64 e.M]:=rfl
theorem Sd:aG.N Stamp=4:=rfl
theorem Se (e:Stamp):List.take 4 (aG.F e)=aG.F e:=rfl
attribute [go_sem] Sd Se
structure jQ where
 cH:Int
 time:Int
def jQ.cells (e:jQ):List z:= [.int .i64 e.cH,.int .i64 e.time]
instance:aG jQ:=⟨jQ.cells,2,fun _=>rfl,fun _=>rfl,fun _=>rfl⟩
theorem Yf (e:jQ):aG.F e= [.int .i64 e.cH,.int .i64 e.time]:=rfl
theorem aEL:aG.N jQ=2:=rfl
theorem aEM (e:jQ):List.take 2 (aG.F e)=aG.F e:=rfl
attribute [go_sem] aEL aEM
structure dx where
 J:Int
 T:Int
 en:List bs
def dx.cells (p:dx):List z:= [.int .i64 p.J,.int .i64 p.T,.pure 2 (ac p.en)]
theorem aEN (p:dx):p.cells.all Abs.cM=true:=by simp[dx.cells,Abs.cM]
theorem aEO (p:dx):bP p.cells=true:=by simp[dx.cells,bP,bE]
instance:aG dx:=⟨dx.cells,3,fun _=>rfl,aEO,aEN⟩
theorem GV (p:dx):aG.F p= [.int .i64 p.J,.int .i64 p.T,.pure 2 (ac p.en)]:=rfl
theorem aEP:aG.N dx=3:=rfl
theorem aEQ (p:dx):List.take 3 (aG.F p)=aG.F p:=rfl
attribute [go_sem] aEP aEQ
theorem aER {l:List bs}{a b:Int}:ac l++ [[.int .i64 a,.int .i64 b]]=ac (l++ [⟨a,b⟩]):=kz (x:=bs.mk a b)
theorem aES {l:List jQ}{a b:Int}:ac l++ [[.int .i64 a,.int .i64 b]]=ac (l++ [⟨a,b⟩]):=kz (x:=jQ.mk a b)
theorem aET {l:List dx}{a b:Int}{dc:List bs}:ac l++ [[.int .i64 a,.int .i64 b,.pure 2 (ac dc)]]=ac (l++ [⟨a,b,dc⟩]):=kz (x:=dx.mk a b dc)
attribute [go_sem] aER aES aET
structure bG where
 uz:Int
 state:Int
 aI8:Int
 kH:Int
 jV:List bs
 fE:List dx
 mH:List jQ
def bG.eE (p:bG)(k t:Int):bG:= {p with mH:=p.mH++ [⟨k,t⟩]}
def bG.enter (p:bG)(t:Int):bG:= {p with state:=1,aI8:=t,jV:= []}
def bG.px (p:bG)(t:Int):bG:=if t>p.kH then {p with jV:=p.jV++ [⟨p.kH,t⟩],state:=1} else {p with state:=1}
def bG.dP (p:bG)(t:Int):bG:=if t-p.aI8>p.uz then p.eE 3 p.aI8 else if t>p.aI8 then {p with fE:=p.fE++ [⟨p.aI8,t,p.jV⟩]} else p
def bG.qq (p:bG)(t:Int):bG:= {p.dP t with state:=0,jV:= []}
def fL (p:bG)(b:z):R:= .aa 274 7 [[.int .i64 p.uz,.int .i64 p.state,.int .i64 p.aI8,.int .i64 p.kH,b,.own 1 p.fE.length 0 p.fE.length,.own 2 p.mH.length 0 p.mH.length]]
def fF (p:bG):List R:= [fL p (.own 3 p.jV.length 0 p.jV.length),.aa 88 3 (ac p.fE),.aa 132 2 (ac p.mH),.aa 64 2 (ac p.jV)]
def kk (p:bG):List R:= [fL p .bD,.aa 88 3 (ac p.fE),.aa 132 2 (ac p.mH),.fH]
structure bG.cZ (p:bG) (n:Nat):Prop where
 h:n≤1000000
 b0:0≤p.aI8
 b1:p.aI8≤120968639
 p0:0≤p.kH
 p1:p.kH≤120968639
 mb:p.jV.length≤n
 mL:p.fE.length≤n
 xL:p.mH.length≤n
theorem vT (p:bG){n:Nat}(cL:p.cZ n)(k t:Int):aK prog 151 [.aW 0 1 0 0,.int .i64 k,.int .i64 t] (fF p) (fun v rs=>v= .bg []∧rs=fF (p.eE k t)):=by
 refine hr func151 acJ (by simp[L0,Ti]) ?_;simp only[go_sem,L0,Ti,fF,fL];have am:=cL.xL;have bp:=cL.h;refine⟨by omega,?_⟩
 (refine s.bw [some 0,some 1,some 2,some 3] ?_;simp only[go_sem])
 exact s.U ⟨rfl,by simp[fF,fL,bG.eE]⟩
theorem Tj (p:bG)(t:Int):aK prog 222 [.aW 0 1 0 0,.int .i64 t] (fF p) (fun v rs=>v= .bg []∧rs=kk (p.enter t)):=by
 refine hr func222 adN (by simp[a222,Tk]) ?_;simp only[go_sem,a222,Tk,fF,fL]
 (refine s.bw [some 0,some 1,some 2,none] ?_;simp only[go_sem])
 exact s.U ⟨rfl,rfl⟩
theorem ahz (p:bG){n:Nat}(cL:p.cZ n)(t:Int):aK prog 224 [.aW 0 1 0 0,.int .i64 t] (fF p) (fun v rs=>v= .bg []∧rs=fF (p.px t)):=by
 refine hr func224 adP (by simp[Hu,M6]) ?_;simp only[go_sem,Hu,M6,fF,fL];have am:=cL.mb;have bp:=cL.h
 (refine s.U ?_;simp only[go_sem])
 repeat' ((first|refine gF ?_ ?_|refine gP ?_ ?_|refine cg ?_ ?_|refine dg ?_ ?_)<;>intro ao<;>(have ae:=ao;try simp only[bA] at ae)<;>(first|omega| (simp only[go_sem,ao,Hu,M6];clear ao)))
 ·refine⟨by omega,?_⟩
  (refine s.bw [some 0,some 1,some 2,some 3] ?_;simp only[go_sem])
  (refine s.U ?_;simp only[go_sem])
  exact s.U ⟨rfl,by simp[fF,fL,bG.px,ae]⟩
 ·(refine s.U ?_;simp only[go_sem])
  exact s.U ⟨rfl,by rw[bG.px,if_neg (by omega)]<;>rfl⟩
theorem ahA (p:bG){n:Nat}(cL:p.cZ n)(t:Int)(h0:0≤t)(h1:t≤120968639):aK prog 223 [.aW 0 1 0 0,.int .i64 t] (fF p) (fun v rs=>v= .bg []∧rs=kk (p.qq t)):=by
 refine hr func223 adO (by simp[En,Ie]) ?_;simp only[go_sem,En,Ie,fF,fL];have B:=cL.mL;have cn:=cL.h;have am:=cL.b0;have bp:=cL.b1;have aR:IntKind.i64.wrap (t-p.aI8)=t-p.aI8:=bf (by omega) (by omega);rw[aR]
 (refine s.U ?_;simp only[go_sem])
 refine dg ?_ ?_<;>intro ao<;>(have ae:=ao;try simp only[bA] at ae)<;>simp only[go_sem,En,Ie]
 ·have G:=vT p cL 3 p.aI8;refine oW [0,1,2,3] [] (by decide) (srows:=fF p) (by simp only[go_sem]<;>rfl) (by simp only[go_sem]<;>rfl) G ?_;rintro _ _ ⟨rfl,rfl⟩;refine⟨.inl rfl,?_⟩;simp only[go_sem,fF,fL]
  (refine s.U ?_;simp only[go_sem])
  (refine s.bw [some 0,some 1,some 2,none] ?_;simp only[go_sem])
  exact s.U ⟨rfl,by rw[bG.qq,bG.dP,if_pos (by omega)];rfl⟩
 ·(refine s.U ?_;simp only[go_sem])
  repeat' ((first|refine gF ?_ ?_|refine gP ?_ ?_|refine cg ?_ ?_|refine dg ?_ ?_)<;>intro ao<;>(have ae:=ao;try simp only[bA] at ae)<;>(first|omega| (simp only[go_sem,ao,En,Ie];clear ao)))
  ·(refine s.U ?_;simp only[go_sem])
   refine⟨by omega,?_⟩
   (refine s.U ?_;simp only[go_sem])
   refine s.kc [some 0,some 1,some 2,none] [3] rfl rfl (by simp only[go_sem];rfl) ?_;simp only[go_sem];exact s.U ⟨rfl,by rw[bG.qq,bG.dP,if_neg (by omega),if_pos (by omega)];simp[kk,fL]⟩
  ·(refine s.U ?_;simp only[go_sem])
   (refine s.bw [some 0,some 1,some 2,none] ?_;simp only[go_sem])
   exact s.U ⟨rfl,by rw[bG.qq,bG.dP,if_neg (by omega),if_neg (by omega)];rfl⟩
theorem bG.cZ.eE {p:bG}{n:Nat}(h:p.cZ n)(aB:n+1≤1000000)(k t:Int): (p.eE k t).cZ (n+1):=
 ⟨aB,h.b0,h.b1,h.p0,h.p1,by have:=h.mb;simp only[bG.eE];omega,by have:=h.mL;simp only[bG.eE];omega,by have:=h.xL;simp only[bG.eE,List.length_append,List.length_cons,List.length_nil];omega⟩
theorem bG.cZ.enter {p:bG}{n:Nat}(h:p.cZ n){t:Int}(h0:0≤t)(h1:t≤120968639): (p.enter t).cZ n:=
 ⟨h.h,h0,h1,h.p0,h.p1,by simp[bG.enter],h.mL,h.xL⟩
theorem bG.cZ.px {p:bG}{n:Nat}(h:p.cZ n)(aB:n+1≤1000000)(t:Int): (p.px t).cZ (n+1):=by
 unfold bG.px;have:=h.mb;have:=h.mL;have:=h.xL;split
 ·exact⟨aB,h.b0,h.b1,h.p0,h.p1,by simp;omega,by simp;omega,by simp;omega⟩
 ·exact⟨aB,h.b0,h.b1,h.p0,h.p1,by simp;omega,by simp;omega,by simp;omega⟩
theorem bG.cZ.qq {p:bG}{n:Nat}(h:p.cZ n)(aB:n+1≤1000000)(t:Int): (p.qq t).cZ (n+1):=by
 unfold bG.qq bG.dP bG.eE;have:=h.mb;have:=h.mL;have:=h.xL;split
 ·exact⟨aB,h.b0,h.b1,h.p0,h.p1,by simp,by simp;omega,by simp;omega⟩
 ·split
  ·exact⟨aB,h.b0,h.b1,h.p0,h.p1,by simp,by simp;omega,by simp;omega⟩
  ·exact⟨aB,h.b0,h.b1,h.p0,h.p1,by simp,by simp;omega,by simp;omega⟩
def bG.iS (p:bG)(E:Stamp):bG:=
 if p.state=0 then (if E.cH=1 then p.enter E.time else p.eE 2 E.time)
 else if p.state=1 then
  if E.cH=1 then (p.eE 1 p.aI8).enter E.time else if E.cH=2 then p.qq E.time else if E.cH=3 then {p with state:=2,kH:=E.time} else p.eE 5 E.time
 else
  if E.cH=1 then (p.eE 1 p.aI8).enter E.time else if E.cH=2 then ((p.eE 4 p.kH).px E.time).qq E.time else if E.cH=3 then {p.eE 4 p.kH with kH:=E.time} else p.px E.time
def bG.bq (p:bG):Prop:=p.state=0∨p.state=1∨p.state=2
def Stamp.ok (E:Stamp):Prop:=(E.cH=1∨E.cH=2∨E.cH=3∨E.cH=4)∧0≤E.time∧E.time≤120968639
theorem aEU (p:bG){n:Nat}(cL:p.cZ n)(aB:n+3≤1000000)(ak:p.bq)(E:Stamp)(bi:E.ok):aK prog 150 [.aW 0 1 0 0,.agg (aG.F E)] (fF p)
 (fun v rs=>v= .bg []∧(rs=fF (p.iS E)∨(rs=kk (p.iS E)∧(p.iS E).jV= []))):=by
 refine cr func150 acI (by simp[LZ,Tl]) ?_;obtain⟨I,h0,h1⟩:=bi;obtain⟨uz,state,aI8,kH,jV,fE,mH⟩:=p;simp only[bG.bq] at ak;rcases ak with rfl|rfl|rfl<;>rcases I with I|I|I|I<;>simp only[go_sem,LZ,Tl,fF,fL,Mh,I]
 ·(refine eY [0,1,2,3] (Tj ⟨uz,0,aI8,kH,jV,fE,mH⟩ E.time) ?_;rintro _ _ ⟨rfl,rfl⟩;simp only[go_sem,fF,kk,fL])
  (refine s.bw [some 0,some 1,some 2,some 3] ?_;simp only[go_sem])
  exact s.U ⟨rfl,.inr (by simp[bG.iS,I,kk,fL,bG.enter])⟩
 ·(refine eY [0,1,2,3] (vT _ cL 2 E.time) ?_;rintro _ _ ⟨rfl,rfl⟩;simp only[go_sem,fF,kk,fL])
  (refine s.bw [some 0,some 1,some 2,some 3] ?_;simp only[go_sem])
  exact s.U ⟨rfl,.inl (by simp[bG.iS,I,fF,fL,bG.eE])⟩
 ·(refine eY [0,1,2,3] (vT _ cL 2 E.time) ?_;rintro _ _ ⟨rfl,rfl⟩;simp only[go_sem,fF,kk,fL])
  (refine s.bw [some 0,some 1,some 2,some 3] ?_;simp only[go_sem])
  exact s.U ⟨rfl,.inl (by simp[bG.iS,I,fF,fL,bG.eE])⟩
 ·(refine eY [0,1,2,3] (vT _ cL 2 E.time) ?_;rintro _ _ ⟨rfl,rfl⟩;simp only[go_sem,fF,kk,fL])
  (refine s.bw [some 0,some 1,some 2,some 3] ?_;simp only[go_sem])
  exact s.U ⟨rfl,.inl (by simp[bG.iS,I,fF,fL,bG.eE])⟩
 ·(refine eY [0,1,2,3] (vT _ cL 1 aI8) ?_;rintro _ _ ⟨rfl,rfl⟩;simp only[go_sem,fF,kk,fL])
  (refine eY [0,1,2,3] (Tj (bG.eE ⟨uz,1,aI8,kH,jV,fE,mH⟩ 1 aI8) E.time) ?_;rintro _ _ ⟨rfl,rfl⟩;simp only[go_sem,fF,kk,fL])
  (refine s.bw [some 0,some 1,some 2,some 3] ?_;simp only[go_sem])
  exact s.U ⟨rfl,.inr (by simp[bG.iS,I,kk,fL,bG.enter,bG.eE])⟩
 ·(refine eY [0,1,2,3] (ahA _ cL E.time h0 h1) ?_;rintro _ _ ⟨rfl,rfl⟩;simp only[go_sem,fF,kk,fL])
  (refine s.bw [some 0,some 1,some 2,some 3] ?_;simp only[go_sem])
  exact s.U ⟨rfl,.inr (by simp[bG.iS,I,kk,fL,bG.qq])⟩
 ·(refine s.bw [some 0,some 1,some 2,some 3] ?_;simp only[go_sem])
  exact s.U ⟨rfl,.inl (by simp[bG.iS,I,fF,fL])⟩
 ·(refine eY [0,1,2,3] (vT _ cL 5 E.time) ?_;rintro _ _ ⟨rfl,rfl⟩;simp only[go_sem,fF,kk,fL])
  (refine s.bw [some 0,some 1,some 2,some 3] ?_;simp only[go_sem])
  exact s.U ⟨rfl,.inl (by simp[bG.iS,I,fF,fL,bG.eE])⟩
 ·(refine eY [0,1,2,3] (vT _ cL 1 aI8) ?_;rintro _ _ ⟨rfl,rfl⟩;simp only[go_sem,fF,kk,fL])
  (refine eY [0,1,2,3] (Tj (bG.eE ⟨uz,2,aI8,kH,jV,fE,mH⟩ 1 aI8) E.time) ?_;rintro _ _ ⟨rfl,rfl⟩;simp only[go_sem,fF,kk,fL])
  (refine s.bw [some 0,some 1,some 2,some 3] ?_;simp only[go_sem])
  exact s.U ⟨rfl,.inr (by simp[bG.iS,I,kk,fL,bG.enter,bG.eE])⟩
 ·(refine eY [0,1,2,3] (vT _ cL 4 kH) ?_;rintro _ _ ⟨rfl,rfl⟩;simp only[go_sem,fF,kk,fL])
  (refine eY [0,1,2,3] (ahz (bG.eE ⟨uz,2,aI8,kH,jV,fE,mH⟩ 4 kH) (cL.eE (by omega) _ _) E.time) ?_;rintro _ _ ⟨rfl,rfl⟩;simp only[go_sem,fF,kk,fL])
  (refine eY [0,1,2,3] (ahA (bG.px (bG.eE ⟨uz,2,aI8,kH,jV,fE,mH⟩ 4 kH) E.time) ((cL.eE (by omega) _ _).px (by omega) _) E.time h0 h1) ?_;rintro _ _ ⟨rfl,rfl⟩;simp only[go_sem,fF,kk,fL])
  (refine s.bw [some 0,some 1,some 2,some 3] ?_;simp only[go_sem])
  exact s.U ⟨rfl,.inr (by simp[bG.iS,I,kk,fL,bG.qq])⟩
 ·(refine eY [0,1,2,3] (vT _ cL 4 kH) ?_;rintro _ _ ⟨rfl,rfl⟩;simp only[go_sem,fF,kk,fL])
  (refine s.bw [some 0,some 1,some 2,some 3] ?_;simp only[go_sem])
  exact s.U ⟨rfl,.inl (by simp[bG.iS,I,fF,fL,bG.eE])⟩
 ·(refine eY [0,1,2,3] (ahz _ cL E.time) ?_;rintro _ _ ⟨rfl,rfl⟩;simp only[go_sem,fF,kk,fL])
  (refine s.bw [some 0,some 1,some 2,some 3] ?_;simp only[go_sem])
  exact s.U ⟨rfl,.inl (by simp[bG.iS,I,fF,fL])⟩
def qe:Int→List Stamp→Bool
 |_,[]=>true
 |b,E::i=>decide (1≤E.cH∧E.cH≤4∧b≤E.time∧E.time≤120968639)&&qe E.time i
def kF (l:List Stamp)(n:Int):Int:=if 1024 < l.length then 3 else if n < 1∨10080 < n then 2 else if qe 0 l then 0 else 1
theorem nM {bd:Type}{l:List bd}{c:Nat}(h:c < l.length):l.drop c=l[c]::l.drop (c+1):=List.drop_eq_getElem_cons h
theorem RY (l:List Stamp)(n:Int)(hl:l.length≤9223372036854775806):aK prog 149 [.pure 4 (ac l),.int .i64 n] [] (fun v rs=>v= .int .i64 (kF l n)∧rs= []):=by
 refine cr func149 acH (by simp[vE,xM]) ?_;simp only[go_sem,vE,xM];refine cg ?_ ?_<;>intro dL<;>simp only[bA] at dL<;>simp only[go_sem,vE,xM]
 ·exact s.bb rfl ⟨by rw[kF,if_pos (by omega)],rfl⟩
 repeat' ((first|refine gF ?_ ?_|refine gP ?_ ?_|refine cg ?_ ?_|refine dg ?_ ?_)<;>intro ao<;>(have ae:=ao;try simp only[bA] at ae)<;>(first|omega| (simp only[go_sem,ao,vE,xM];clear ao)))
 ·exact s.bb rfl ⟨by rw[kF,if_neg (by omega),if_pos (by omega)],rfl⟩
 ·exact s.bb rfl ⟨by rw[kF,if_neg (by omega),if_pos (by omega)],rfl⟩
 have pa:kF l n=if qe 0 l then 0 else 1:=by rw[kF,if_neg (by omega),if_neg (by omega)]
 refine dR (fun r d=> ∃ (c:Nat) (b:Int),c≤l.length∧qe 0 l=qe b (l.drop c)∧r= [(5,.int .i64 b),(17,.pure 4 (ac l)),(18,.int .i64 l.length),(19,.int .i64 c)]∧d= [])
  (fun r _=>match bn r 19 with| .int _ j=>(l.length-j).toNat|_=>0) ?_ ?_
 ·exact s.U ⟨0,0,by omega,by simp,rfl,rfl⟩
 ·rintro r d ⟨c,b,an,Z,rfl,rfl⟩;simp only[go_sem,vE,xM];refine cg ?_ ?_<;>intro ck<;>simp only[bA] at ck<;>simp only[go_sem,vE,xM]
  ·have aC:c < l.length:=by omega
   refine⟨by omega,by omega,?_⟩
   try simp only[Int.toNat_natCast]
   rw[cQ aC,Mh];rw[nM aC,qe] at Z;have aR:=dr (c:=c) (by omega);simp only[go_sem,vE,xM]
   repeat' ((first|refine gF ?_ ?_|refine gP ?_ ?_|refine cg ?_ ?_|refine dg ?_ ?_)<;>intro ao<;>(have ae:=ao;try simp only[bA] at ae)<;>(first|omega| (simp only[go_sem,ao,vE,xM,aR];clear ao)))
   any_goals (refine s.bb rfl ⟨?_,rfl⟩;rw[pa,if_neg];rw[Z];simp only[Bool.and_eq_true,decide_eq_true_eq];omega)
   (refine s.bw [] ?_;simp only[go_sem])
   refine s.U ⟨⟨c+1,l[c].time,by omega,?_,rfl,rfl⟩,?_⟩
   ·rw[Z,decide_eq_true (by omega),Bool.true_and]
   ·simp only[go_sem];omega
  ·have:c=l.length:=by omega
   subst this;exact s.bb rfl ⟨by rw[pa,Z];simp[qe],rfl⟩
theorem Tm: ∀ {l:List Stamp} {b:Int},qe b l=true→0≤b→ ∀ E∈l,E.ok
 | [],_,_,_,E,ak=>by simp at ak
 |x::i,b,h,Z,E,ak=>by
  simp only[qe,Bool.and_eq_true,decide_eq_true_eq] at h;rcases List.mem_cons.1 ak with rfl|ak
  ·exact⟨by omega,by omega,by omega⟩
  ·exact Tm h.2 (by omega) E ak
theorem bG.cZ.uA {p:bG}{n m:Nat}(h:p.cZ n)(aB:n≤m)(hm:m≤1000000):p.cZ m:=
 ⟨hm,h.b0,h.b1,h.p0,h.p1,by have:=h.mb;omega,by have:=h.mL;omega,by have:=h.xL;omega⟩
theorem bG.cZ.iS {p:bG}{n:Nat}(h:p.cZ n)(aB:n+3≤1000000){E:Stamp}(bi:E.ok): (p.iS E).cZ (n+3):=by
 obtain⟨I,h0,h1⟩:=bi;unfold bG.iS;split
 ·split
  ·exact (h.enter h0 h1).uA (by omega) aB
  ·exact (h.eE (by omega) _ _).uA (by omega) aB
 ·split
  ·split
   ·exact ((h.eE (by omega) _ _).enter h0 h1).uA (by omega) aB
   ·split
    ·exact (h.qq (by omega) _).uA (by omega) aB
    ·split
     ·have:=h.mb;have:=h.mL;have:=h.xL;exact⟨aB,h.b0,h.b1,h0,h1,by simp;omega,by simp;omega,by simp;omega⟩
     ·exact (h.eE (by omega) _ _).uA (by omega) aB
  ·split
   ·exact ((h.eE (by omega) _ _).enter h0 h1).uA (by omega) aB
   ·split
    ·exact (((h.eE (by omega) _ _).px (by omega) _).qq (by omega) _).uA (by omega) aB
    ·split
     ·have G:=h.eE (by omega) 4 p.kH;have:=G.mb;have:=G.mL;have:=G.xL;exact⟨aB,G.b0,G.b1,h0,h1,by simp at *;omega,by simp at *;omega,by simp at *;omega⟩
     ·exact (h.px (by omega) _).uA (by omega) aB
theorem aEV {p:bG}(h:p.bq){E:Stamp}: (p.iS E).bq:=by
 unfold bG.iS;have aEW: ∀ (q:bG) t,(q.px t).bq:=by intro q t;unfold bG.px;split<;>exact .inr (.inl rfl)
 repeat' split
 all_goals first|exact aEW _ _|exact h|exact .inl rfl|exact .inr (.inl rfl)|exact .inr (.inr rfl)
theorem ahB: ∀ {l:List Stamp} {p:bG} {n:Nat},p.cZ n→p.bq→(∀ E∈l,E.ok)→n+3*l.length≤1000000→(l.foldl bG.iS p).cZ (n+3*l.length)∧(l.foldl bG.iS p).bq
 | [],p,n,h,ak,_,_=>⟨h,ak⟩
 |x::i,p,n,h,ak,bi,aB=>by
  simp only[List.length_cons] at aB ⊢;obtain⟨h1,B⟩:=ahB (l:=i) (h.iS (by omega) (bi x (by simp))) (aEV ak) (fun E ak=>bi E (by simp[ak])) (by omega);exact⟨by rw[show n+3*(i.length+1)=n+3+3*i.length from by omega];exact h1,B⟩
def qr (n:Int):bG:=⟨n,0,0,0,[],[],[]⟩
def qs (l:List Stamp)(n:Int):bG:=l.foldl bG.iS (qr n)
def bG.bb (p:bG):bG:=if p.state=0 then p else p.eE 1 p.aI8
def ng (l:List Stamp)(n:Int):List dx:=if kF l n=0 then (qs l n).bb.fE else []
def sW (l:List Stamp)(n:Int):List jQ:=if kF l n=0 then (qs l n).bb.mH else []
theorem ahC {l:List Stamp}{n:Int}(h:kF l n=0):l.length≤1024∧1≤n∧n≤10080∧qe 0 l=true:=by
 unfold kF at h;split at h
 ·omega
 ·split at h
  ·omega
  ·split at h
   ·rename_i am;exact⟨by omega,by omega,by omega,am⟩
   ·omega
theorem aEX {l:List Stamp}{n:Int}(h:kF l n=0)(c:Nat): (qs (l.take c) n).cZ 3072∧(qs (l.take c) n).bq:=by
 obtain⟨h1,B,am,bp⟩:=ahC h;have bi:=Tm bp (by omega);have cB: (l.take c).length≤1024:=by simp;omega
 obtain⟨a,b⟩:=ahB (l:=l.take c) (p:=qr n) (n:=0) ⟨by omega,by simp[qr],by simp[qr],by simp[qr],by simp[qr],by simp[qr],by simp[qr],by simp[qr]⟩ (.inl rfl)
  (fun E ak=>bi E (List.mem_of_mem_take ak)) (by omega)
 exact⟨a.uA (by omega) (by omega),b⟩
theorem aAR (l:List Stamp)(n:Int)(hl:l.length≤9223372036854775806):aK prog 68 [.pure 4 (ac l),.int .i64 n] []
 (fun v rs=>v= .bg [.pure 3 (ac (ng l n)),.pure 2 (ac (sW l n)),.int .i64 (kF l n)]∧rs= []):=by
 refine hr func68 abv (by simp[xw,zW]) ?_;simp only[go_sem,xw,zW]
 (refine s.U ?_;simp only[go_sem])
 refine bH (RY l n hl) rfl rfl ?_;simp only[go_sem]
 repeat (refine s.U ?_;simp only[go_sem])
 refine dg ?_ ?_<;>intro dL<;>simp only[bA] at dL<;>simp only[go_sem,xw,zW]
 ·(refine s.iI 4 88 3 rfl (s.eW [4,5,6] ?_);simp only[go_sem])
  (refine s.iI 5 132 2 rfl (s.eW [4,5,6] ?_);simp only[go_sem])
  (refine s.kp [] [0,1] ?_;simp only[go_sem])
  (refine s.U ?_;simp only[go_sem])
  exact s.U ⟨by simp[ng,sW,dL,ac,bn],rfl⟩
 ·obtain⟨jv,_,_,rh⟩:=ahC dL;have bi:=Tm rh (by omega)
  repeat (refine s.U ?_;simp only[go_sem])
  refine gY (fun r d=> ∃ c:Nat,c≤l.length∧r= [(8,.aW 0 1 0 0),(19,.pure 4 (ac l)),(20,.int .i64 l.length),(21,.int .i64 c)]∧d=fF (qs (l.take c) n))
   (fun r _=>match bn r 21 with| .int _ j=>(l.length-j).toNat|_=>0) ?_ ?_
  ·(refine s.nt (.uP 0 0 5 88 3 rfl (by simp) (by decide) rfl) ?_;simp only[go_sem,eO])
   (refine s.nt (.uP 0 0 6 132 2 rfl (by simp) (by decide) rfl) ?_;simp only[go_sem,eO])
   (refine s.nt (.uP 0 0 4 64 2 rfl (by simp) (by decide) rfl) ?_;simp only[go_sem,eO])
   exact s.U ⟨0,by omega,rfl,rfl⟩
  ·rintro r d ⟨c,an,rfl,rfl⟩;obtain⟨cL,ce⟩:=aEX dL c;simp only[go_sem,xw,zW]
   repeat (refine s.U ?_;simp only[go_sem])
   refine dg ?_ ?_<;>intro ck<;>simp only[bA] at ck<;>simp only[go_sem,xw,zW]
   ·have aC:c < l.length:=by omega
    (refine s.U ?_;simp only[go_sem])
    simp only[go_sem,fF,fL];refine⟨by omega,by omega,?_⟩
    try simp only[Int.toNat_natCast]
    rw[cQ aC];simp only[go_sem,xw,zW]
    repeat (refine s.U ?_;simp only[go_sem])
    have G:=aEU _ cL (by omega) ce l[c] (bi _ (List.getElem_mem _));have qv: (qs (l.take c) n).iS l[c]=qs (l.take (c+1)) n:=by
     rw[qs,qs,List.take_add_one,List.getElem?_eq_getElem aC,List.foldl_append];rfl
    rw[qv] at G;have aR:=dr (c:=c) (by omega);refine oW [0,1,2,3] [] (by decide) (by simp only[go_sem]<;>rfl) (by simp only[go_sem]<;>rfl) G ?_;rintro _ _ ⟨rfl,h|⟨h,pe⟩⟩
    ·subst h;refine⟨.inl rfl,?_⟩;simp only[go_sem,fF,fL]
     (refine s.U ?_;simp only[go_sem])
     rw[aR]
     (refine s.bw [some 0,some 1,some 2,some 3] ?_;simp only[go_sem])
     refine s.U ⟨⟨c+1,by omega,rfl,rfl⟩,?_⟩;simp only[go_sem];omega
    ·subst h;refine⟨.inl rfl,?_⟩;simp only[go_sem,kk,fL]
     (refine s.U ?_;simp only[go_sem])
     rw[aR]
     (refine s.nt (.uP 0 0 4 64 2 rfl (by simp) (by decide) rfl) ?_;simp only[go_sem,eO])
     (refine s.bw [some 0,some 1,some 2,some 5] ?_;simp only[go_sem])
     refine s.U ⟨⟨c+1,by omega,rfl,by simp[fF,fL,pe,ac]⟩,?_⟩;simp only[go_sem];omega
   ·have:c=l.length:=by omega
    subst this;rw[List.take_length] at cL ⊢;have rz:=cL.xL;simp only[go_sem,fF,fL]
    (refine s.U ?_;simp only[go_sem])
    (refine s.U ?_;simp only[go_sem])
    refine dg ?_ ?_<;>intro fQ<;>simp only[bA] at fQ<;>simp only[go_sem,xw,zW]
    ·have G:=vT _ cL 1 (qs l n).aI8;refine eY [0,1,2,3] G ?_;rintro _ _ ⟨rfl,rfl⟩;simp only[go_sem,fF,fL]
     (refine s.U ?_;simp only[go_sem])
     (refine s.kp [] [1,2] ?_;simp only[go_sem])
     (refine s.U ?_;simp only[go_sem])
     refine s.U ⟨?_,rfl⟩;simp[bn,ng,sW,dL,bG.bb,fQ]
    ·(refine s.U ?_;simp only[go_sem])
     (refine s.kp [] [1,2] ?_;simp only[go_sem])
     (refine s.U ?_;simp only[go_sem])
     refine s.U ⟨?_,rfl⟩;simp[bn,ng,sW,dL,bG.bb,fQ]
end Go.Proofs.YtpincjkjoeopkaaGreatDoor.Pr
