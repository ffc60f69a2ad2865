/- Time evaluation. -/
import Derived.Test.YtpincjkjoeopkaaGreatDoorD17
import Derived.Test.YtpincjkjoeopkaaGreatDoorD23
import Derived.Test.YtpincjkjoeopkaaGreatDoorD15
import Derived.Test.YtpincjkjoeopkaaGreatDoorD4
set_option linter.all false
namespace Go.Proofs.YtpincjkjoeopkaaGreatDoor
open Go Go.Abs Go.Proofs.Tryz
def nN (R ab:Int)(bw:List Int×(Int→Bool→List (List F)))(x:Int×List F):List Int×(Int→Bool→List (List F)):=
 if R≤x.1∧x.1≤ab then (ek x.1 bw.1,gR bw.2 x.1 false x.2) else bw
def eS (R ab:Int)(bw:List Int×(Int→Bool→List (List F)))(aY:List (Int×List F)):List Int×(Int→Bool→List (List F)):=aY.foldl (nN R ab) bw
theorem Z0 {R ab:Int}{bw:List Int×(Int→Bool→List (List F))}{aY:List (Int×List F)}{c:Nat}(av:c < aY.length):eS R ab bw (aY.take (c+1))=nN R ab (eS R ab bw (aY.take c)) aY[c]:=by
 unfold eS;rw[List.take_succ_eq_append_getElem av,List.foldl_append];rfl
theorem Cx {R ab:Int}: ∀ (aY:List (Int×List F)) (bw:List Int×(Int→Bool→List (List F))) (n:Nat),(∀ B k,(bw.2 B k).length≤n)→ ∀ B k,((eS R ab bw aY).2 B k).length≤n+aY.length
 | [],bw,n,h,B,k=>h B k
 |x::aY,bw,n,h,B,k=>by
  unfold eS;rw[List.foldl_cons];refine Nat.le_trans (Cx aY (nN R ab bw x) (n+1) (fun B k=> ?_) B k) (by rw[List.length_cons];omega);unfold nN;split
  ·show (gR bw.2 x.1 false _ B k).length≤n+1;unfold gR;split
   ·have:=h x.1 false;rw[List.length_append];simp;omega
   ·have:=h B k;omega
  ·have:=h B k;omega
def ko (aa:List Pm.Pm):List (Int×List F):=aa.map fun p=>(p.ah,[.str p.name,.int .i64 p.min])
set_option maxHeartbeats 2000000 in
theorem awW {r:List Z}{I m:Nat}{R ab:Int}{Y:List Int}{bf:Int→Bool→List (List F)}(h0:hQ r I m R ab Y bf)(cU: ∀ B k,(bf B k).length≤100000)(aa:List Pm.Pm)(hl:aa.length≤100000):
 aO prog 44 [.bd I 1 0 0,.pure 3 (ai aa)] r
  (fun v W=>v= .bo []∧gf r W m∧hQ W I m R ab (eS R ab (Y,bf) (ko aa)).1 (eS R ab (Y,bf) (ko aa)).2):=by
 have fF:=km h0.choose_spec.I;refine cu func44 abT (by simp[Fh,Iz]) ?_;have gy: (ko aa).length=aa.length:=by unfold ko;rw[List.length_map]
 simp only[go_sem,Fh,Iz,bT];refine dN (fun D W=> ∃ c:Nat,c≤aa.length∧D= [(0,.bd I 1 0 0),(6,.pure 3 (ai aa)),(7,.int .i64 aa.length),(8,.int .i64 c)]∧gf r W m∧hQ W I m R ab (eS R ab (Y,bf) ((ko aa).take c)).1 (eS R ab (Y,bf) ((ko aa).take c)).2)
  (fun D _=>match bs D 8 with| .int _ j=>(aa.length-j).toNat|_=>0) ?_ ?_
 ·exact E.ac ⟨0,by omega,rfl,gf.refl,h0⟩
 rintro D W ⟨c,av,rfl,hF,dc⟩;have aP:=dB (c:=c) (by omega)
 by_cases aI:c < aa.length
 ·have h1: (c:Int) < aa.length:=by omega
  have z0: (0:Int)≤c:=by omega
  have aw: (ai aa).getD c []=aJ.J aa[c]:=cT aI;have dV:=Z0 (R:=R) (ab:=ab) (bw:=(Y,bf)) (aY:=ko aa) (c:=c) (by omega);have MM: (ko aa)[c]'(by omega)=(aa[c].ah,[.str aa[c].name,.int .i64 aa[c].min]):=by unfold ko;rw[List.getElem_map]
  rw[MM] at dV;generalize aa[c]=p at *;have cK:=Cx (R:=R) (ab:=ab) ((ko aa).take c) (Y,bf) 100000 cU;have Aa: ((ko aa).take c).length≤100000:=by simp;omega
  have wC:hQ (W++ [.ag 136 3 [[.int .i64 p.ah,.str p.name,.int .i64 p.min]]]) I m R ab (eS R ab (Y,bf) ((ko aa).take c)).1 (eS R ab (Y,bf) ((ko aa).take c)).2:=by
   obtain⟨yk,yl⟩:=dc;exact⟨yk,yl.ext (by intro bG hrow;rw[List.mem_singleton] at hrow;subst hrow;exact kA rfl)⟩
  simp only[go_sem,Fh,Iz,z0,h1,aw,Pm.ayC,bT,Int.toNat_natCast,List.append_assoc,dO,dH,ee,ec,List.length_append];refine uV wC.choose_spec.all (by
   have au:=km wC.choose_spec.I;simp only[gx,dt,au,decide_true,Bool.and_true]) (Q8 wC (fun B k=>Nat.le_trans (cK B k) (by omega)) p.ah p.name p.min) ?_
  rintro _ W' ⟨rfl,pO,jt⟩;refine⟨pO.1,?_⟩;simp only[go_sem,aP];refine E.ac ⟨⟨c+1,by omega,rfl,hF.trans (gf.mh.trans pO),?_⟩,?_⟩
  ·rw[dV];unfold nN;simp only
   by_cases N:R≤p.ah∧p.ah≤ab
   ·rw[if_pos N] at jt ⊢;exact jt
   ·rw[if_neg N] at jt ⊢;exact jt
  ·simp only[go_sem];omega
 ·have h1: ¬(c:Int) < aa.length:=by omega
  obtain rfl:c=aa.length:=by omega
  rw[List.take_of_length_le (by omega)] at dc;simp only[go_sem,Fh,Iz,h1];exact E.ac ⟨rfl,hF,dc⟩
end Go.Proofs.YtpincjkjoeopkaaGreatDoor
namespace Go.Proofs.YtpincjkjoeopkaaGreatDoor.Pr
open Go Go.Abs Go.Proofs.Tryz
def gp (l:List Int)(a:Int):Z:=dX 143 l a
theorem ED (v n:Int)(aH:0 < n)(GS:n≤9223372036854775807):aO prog 10 [.int .i64 v,.int .i64 n] [] (fun z r=>z= .int .i64 (mod v n)∧r= []):=by
 refine cu func10 Ls (by simp[uW,sn]) ?_;simp only[go_sem,uW,sn];refine⟨by omega,?_⟩;have h1:=Int.tmod_lt_of_pos v aH;refine cf ?_ ?_<;>intro aw<;>simp only[go_sem,uW,sn]<;>refine E.bg rfl ⟨?_,rfl⟩<;>simp only[decide_eq_true_eq,decide_eq_false_iff_not] at aw
 ·have G: -n < v.tmod n:=by
   have:=Int.lt_tmod_of_pos v aH;omega
  rw[bl (by omega) (by omega),mod,if_pos aw]
 ·rw[mod,if_neg aw]
theorem hi (l:List Int)(hl:mW l)(n:Int)(aH:n≤9223372036854775807):BU prog 143 64 [.int .i64 n] l (PR n):=by
 intro az h0 h1;refine cu func64 Lu (by simp[uX,wu]) ?_;simp only[go_sem,uX,wu,dX];have cK:=hl.len
 repeat' ((first|refine gv ?_ ?_|refine gw ?_ ?_|refine cf ?_ ?_|refine dj ?_ ?_)<;>intro aw<;>(have ak:=aw;try simp only[bC] at ak)<;>(first|omega| (simp only[go_sem,aw,uX,wu];clear aw)))
 ·exact E.tape rfl h0 h1 ⟨0,rfl,by omega,by omega⟩
 ·exact E.tape rfl h0 h1 ⟨0,rfl,by omega,by omega⟩
 ·simp (disch:=omega) only[bl,tw,Int.add_sub_cancel];refine⟨by omega,by omega,by simp,?_⟩;simp only[go_sem];refine gG (ED _ _ (by omega) aH) rfl rfl ?_;simp only[go_sem];have hb:=PS (v:=l.getD az.toNat 0) (n:=n) (by omega);exact E.tape rfl (by omega) (by omega) ⟨_,rfl,by omega,by omega⟩
theorem hj (l:List Int)(hl:mW l)(aq:List Int)(aj:0 < aq.length)(rY:aq.length≤1000):BV prog 143 3 59 l aq (fun v=> ∃ x,x∈aq∧v= .int .i64 x):=by
 intro az h0 h1;refine cu func59 Lv (by simp[zP,Cg]) ?_;simp only[go_sem,zP,Cg];refine KP (hi l hl _ (by omega)) rfl (by simp) h0 h1 ?_;rintro v a G au ⟨x,rfl,bv,cx⟩;simp only[go_sem];refine⟨by omega,by omega,?_⟩;rw[tw (by omega)];simp only[go_sem];refine E.ac ⟨a,rfl,G,au,rfl,_,?_,rfl⟩;rw[List.getD_eq_getElem?_getD,List.getElem?_eq_getElem (by omega)];simp
structure bx where
 R:Int
 ab:Int
def bx.cells (e:bx):List F:= [.int .i64 e.R,.int .i64 e.ab]
instance:aJ bx:=⟨bx.cells,2,fun _=>rfl,fun _=>rfl,fun _=>rfl⟩
theorem eY (e:bx):aJ.J e= [.int .i64 e.R,.int .i64 e.ab]:=rfl
theorem Tk:aJ.U bx=2:=rfl
theorem Tl (e:bx):List.take 2 (aJ.J e)=aJ.J e:=rfl
attribute [go_sem] Tk Tl
structure Stamp where
 time:Int
 cB:Int
 cZ:Int
 Y:Int
def Stamp.cells (e:Stamp):List F:= [.int .i64 e.time,.int .i64 e.cB,.int .i64 e.cZ,.int .i64 e.Y]
instance:aJ Stamp:=⟨Stamp.cells,4,fun _=>rfl,fun _=>rfl,fun _=>rfl⟩
theorem Nn (e:Stamp):aJ.J e= [.int .i64 e.time,.int .i64 e.cB,.int .i64 e.cZ,.int .i64 e.Y]:=rfl
theorem Tm:aJ.U Stamp=4:=rfl
theorem Tn (e:Stamp):List.take 4 (aJ.J e)=aJ.J e:=rfl
attribute [go_sem] Tm Tn
structure kn where
 cB:Int
 time:Int
def kn.cells (e:kn):List F:= [.int .i64 e.cB,.int .i64 e.time]
instance:aJ kn:=⟨kn.cells,2,fun _=>rfl,fun _=>rfl,fun _=>rfl⟩
theorem Zv (e:kn):aJ.J e= [.int .i64 e.cB,.int .i64 e.time]:=rfl
theorem aF3:aJ.U kn=2:=rfl
theorem aF4 (e:kn):List.take 2 (aJ.J e)=aJ.J e:=rfl
attribute [go_sem] aF3 aF4
structure dF where
 R:Int
 ab:Int
 ey:List bx
def dF.cells (p:dF):List F:= [.int .i64 p.R,.int .i64 p.ab,.pure 2 (ai p.ey)]
theorem aF5 (p:dF):p.cells.all Abs.cV=true:=by simp[dF.cells,Abs.cV]
theorem aF6 (p:dF):bU p.cells=true:=by simp[dF.cells,bU,bJ]
instance:aJ dF:=⟨dF.cells,3,fun _=>rfl,aF6,aF5⟩
theorem H3 (p:dF):aJ.J p= [.int .i64 p.R,.int .i64 p.ab,.pure 2 (ai p.ey)]:=rfl
theorem aF7:aJ.U dF=3:=rfl
theorem aF8 (p:dF):List.take 3 (aJ.J p)=aJ.J p:=rfl
attribute [go_sem] aF7 aF8
theorem aF9 {l:List bx}{a b:Int}:ai l++ [[.int .i64 a,.int .i64 b]]=ai (l++ [⟨a,b⟩]):=kT (x:=bx.mk a b)
theorem aGa {l:List kn}{a b:Int}:ai l++ [[.int .i64 a,.int .i64 b]]=ai (l++ [⟨a,b⟩]):=kT (x:=kn.mk a b)
theorem aGb {l:List dF}{a b:Int}{dl:List bx}:ai l++ [[.int .i64 a,.int .i64 b,.pure 2 (ai dl)]]=ai (l++ [⟨a,b,dl⟩]):=kT (x:=dF.mk a b dl)
attribute [go_sem] aF9 aGa aGb
structure bN where
 vy:Int
 state:Int
 gu:Int
 lg:Int
 ks:List bx
 fM:List dF
 np:List kn
def bN.eP (p:bN)(k t:Int):bN:= {p with np:=p.np++ [⟨k,t⟩]}
def bN.enter (p:bN)(t:Int):bN:= {p with state:=1,gu:=t,ks:= []}
def bN.qg (p:bN)(t:Int):bN:=if t>p.lg then {p with ks:=p.ks++ [⟨p.lg,t⟩],state:=1} else {p with state:=1}
def bN.ea (p:bN)(t:Int):bN:=if t-p.gu>p.vy then p.eP 3 p.gu else if t>p.gu then {p with fM:=p.fM++ [⟨p.gu,t,p.ks⟩]} else p
def bN.qY (p:bN)(t:Int):bN:= {p.ea t with state:=0,ks:= []}
def fU (p:bN)(b:F):Z:= .ag 274 7 [[.int .i64 p.vy,.int .i64 p.state,.int .i64 p.gu,.int .i64 p.lg,b,.own 1 p.fM.length 0 p.fM.length,.own 2 p.np.length 0 p.np.length]]
def fN (p:bN):List Z:= [fU p (.own 3 p.ks.length 0 p.ks.length),.ag 88 3 (ai p.fM),.ag 132 2 (ai p.np),.ag 64 2 (ai p.ks)]
def kG (p:bN):List Z:= [fU p .bH,.ag 88 3 (ai p.fM),.ag 132 2 (ai p.np),.fP]
structure bN.di (p:bN) (n:Nat):Prop where
 h:n≤1000000
 b0:0≤p.gu
 b1:p.gu≤120968639
 p0:0≤p.lg
 p1:p.lg≤120968639
 mN:p.ks.length≤n
 nv:p.fM.length≤n
 yQ:p.np.length≤n
theorem xd (p:bN){n:Nat}(cU:p.di n)(k t:Int):aO prog 151 [.bd 0 1 0 0,.int .i64 k,.int .i64 t] (fN p) (fun v rs=>v= .bo []∧rs=fN (p.eP k t)):=by
 refine hJ func151 aee (by simp[M6,Um]) ?_;simp only[go_sem,M6,Um,fN,fU];have au:=cU.yQ;have bv:=cU.h;refine⟨by omega,?_⟩
 (refine E.bB [some 0,some 1,some 2,some 3] ?_;simp only[go_sem])
 exact E.ac ⟨rfl,by simp[fN,fU,bN.eP]⟩
theorem Un (p:bN)(t:Int):aO prog 222 [.bd 0 1 0 0,.int .i64 t] (fN p) (fun v rs=>v= .bo []∧rs=kG (p.enter t)):=by
 refine hJ func222 afg (by simp[a222,Uo]) ?_;simp only[go_sem,a222,Uo,fN,fU]
 (refine E.bB [some 0,some 1,some 2,none] ?_;simp only[go_sem])
 exact E.ac ⟨rfl,rfl⟩
theorem aiQ (p:bN){n:Nat}(cU:p.di n)(t:Int):aO prog 224 [.bd 0 1 0 0,.int .i64 t] (fN p) (fun v rs=>v= .bo []∧rs=fN (p.qg t)):=by
 refine hJ func224 afi (by simp[IH,N7]) ?_;simp only[go_sem,IH,N7,fN,fU];have au:=cU.mN;have bv:=cU.h
 (refine E.ac ?_;simp only[go_sem])
 repeat' ((first|refine gv ?_ ?_|refine gw ?_ ?_|refine cf ?_ ?_|refine dj ?_ ?_)<;>intro aw<;>(have ak:=aw;try simp only[bC] at ak)<;>(first|omega| (simp only[go_sem,aw,IH,N7];clear aw)))
 ·refine⟨by omega,?_⟩
  (refine E.bB [some 0,some 1,some 2,some 3] ?_;simp only[go_sem])
  (refine E.ac ?_;simp only[go_sem])
  exact E.ac ⟨rfl,by simp[fN,fU,bN.qg,ak]⟩
 ·(refine E.ac ?_;simp only[go_sem])
  exact E.ac ⟨rfl,by rw[bN.qg,if_neg (by omega)]<;>rfl⟩
theorem aiR (p:bN){n:Nat}(cU:p.di n)(t:Int)(h0:0≤t)(h1:t≤120968639):aO prog 223 [.bd 0 1 0 0,.int .i64 t] (fN p) (fun v rs=>v= .bo []∧rs=kG (p.qY t)):=by
 refine hJ func223 afh (by simp[Fv,Jp]) ?_;simp only[go_sem,Fv,Jp,fN,fU];have G:=cU.nv;have cx:=cU.h;have au:=cU.b0;have bv:=cU.b1;have aP:IntKind.i64.wrap (t-p.gu)=t-p.gu:=bl (by omega) (by omega);rw[aP]
 (refine E.ac ?_;simp only[go_sem])
 refine dj ?_ ?_<;>intro aw<;>(have ak:=aw;try simp only[bC] at ak)<;>simp only[go_sem,Fv,Jp]
 ·have N:=xd p cU 3 p.gu;refine om [0,1,2,3] [] (by decide) (srows:=fN p) (by simp only[go_sem]<;>rfl) (by simp only[go_sem]<;>rfl) N ?_;rintro _ _ ⟨rfl,rfl⟩;refine⟨.inl rfl,?_⟩;simp only[go_sem,fN,fU]
  (refine E.ac ?_;simp only[go_sem])
  (refine E.bB [some 0,some 1,some 2,none] ?_;simp only[go_sem])
  exact E.ac ⟨rfl,by rw[bN.qY,bN.ea,if_pos (by omega)];rfl⟩
 ·(refine E.ac ?_;simp only[go_sem])
  repeat' ((first|refine gv ?_ ?_|refine gw ?_ ?_|refine cf ?_ ?_|refine dj ?_ ?_)<;>intro aw<;>(have ak:=aw;try simp only[bC] at ak)<;>(first|omega| (simp only[go_sem,aw,Fv,Jp];clear aw)))
  ·(refine E.ac ?_;simp only[go_sem])
   refine⟨by omega,?_⟩
   (refine E.ac ?_;simp only[go_sem])
   refine E.jN [some 0,some 1,some 2,none] [3] rfl rfl (by simp only[go_sem];rfl) ?_;simp only[go_sem];exact E.ac ⟨rfl,by rw[bN.qY,bN.ea,if_neg (by omega),if_pos (by omega)];simp[kG,fU]⟩
  ·(refine E.ac ?_;simp only[go_sem])
   (refine E.bB [some 0,some 1,some 2,none] ?_;simp only[go_sem])
   exact E.ac ⟨rfl,by rw[bN.qY,bN.ea,if_neg (by omega),if_neg (by omega)];rfl⟩
theorem bN.di.eP {p:bN}{n:Nat}(h:p.di n)(aH:n+1≤1000000)(k t:Int): (p.eP k t).di (n+1):=
 ⟨aH,h.b0,h.b1,h.p0,h.p1,by have:=h.mN;simp only[bN.eP];omega,by have:=h.nv;simp only[bN.eP];omega,by have:=h.yQ;simp only[bN.eP,List.length_append,List.length_cons,List.length_nil];omega⟩
theorem bN.di.enter {p:bN}{n:Nat}(h:p.di n){t:Int}(h0:0≤t)(h1:t≤120968639): (p.enter t).di n:=
 ⟨h.h,h0,h1,h.p0,h.p1,by simp[bN.enter],h.nv,h.yQ⟩
theorem bN.di.qg {p:bN}{n:Nat}(h:p.di n)(aH:n+1≤1000000)(t:Int): (p.qg t).di (n+1):=by
 unfold bN.qg;have:=h.mN;have:=h.nv;have:=h.yQ;split
 ·exact⟨aH,h.b0,h.b1,h.p0,h.p1,by simp;omega,by simp;omega,by simp;omega⟩
 ·exact⟨aH,h.b0,h.b1,h.p0,h.p1,by simp;omega,by simp;omega,by simp;omega⟩
theorem bN.di.qY {p:bN}{n:Nat}(h:p.di n)(aH:n+1≤1000000)(t:Int): (p.qY t).di (n+1):=by
 unfold bN.qY bN.ea bN.eP;have:=h.mN;have:=h.nv;have:=h.yQ;split
 ·exact⟨aH,h.b0,h.b1,h.p0,h.p1,by simp,by simp;omega,by simp;omega⟩
 ·split
  ·exact⟨aH,h.b0,h.b1,h.p0,h.p1,by simp,by simp;omega,by simp;omega⟩
  ·exact⟨aH,h.b0,h.b1,h.p0,h.p1,by simp,by simp;omega,by simp;omega⟩
def bN.ji (p:bN)(I:Stamp):bN:=
 if p.state=0 then (if I.cB=1 then p.enter I.time else p.eP 2 I.time)
 else if p.state=1 then
  if I.cB=1 then (p.eP 1 p.gu).enter I.time else if I.cB=2 then p.qY I.time else if I.cB=3 then {p with state:=2,lg:=I.time} else p.eP 5 I.time
 else
  if I.cB=1 then (p.eP 1 p.gu).enter I.time else if I.cB=2 then ((p.eP 4 p.lg).qg I.time).qY I.time else if I.cB=3 then {p.eP 4 p.lg with lg:=I.time} else p.qg I.time
def bN.bw (p:bN):Prop:=p.state=0∨p.state=1∨p.state=2
def Stamp.ok (I:Stamp):Prop:=(I.cB=1∨I.cB=2∨I.cB=3∨I.cB=4)∧0≤I.time∧I.time≤120968639
theorem Up (p:bN){n:Nat}(cU:p.di n)(aH:n+3≤1000000)(ao:p.bw)(I:Stamp)(bp:I.ok):aO prog 150 [.bd 0 1 0 0,.agg (aJ.J I)] (fN p)
 (fun v rs=>v= .bo []∧(rs=fN (p.ji I)∨(rs=kG (p.ji I)∧(p.ji I).ks= []))):=by
 refine cu func150 aed (by simp[M5,Uq]) ?_;obtain⟨O,h0,h1⟩:=bp;obtain⟨vy,state,gu,lg,ks,fM,np⟩:=p;simp only[bN.bw] at ao;rcases ao with rfl|rfl|rfl<;>rcases O with O|O|O|O<;>simp only[go_sem,M5,Uq,fN,fU,Nn,O]
 ·(refine fy [0,1,2,3] (Un ⟨vy,0,gu,lg,ks,fM,np⟩ I.time) ?_;rintro _ _ ⟨rfl,rfl⟩;simp only[go_sem,fN,kG,fU])
  (refine E.bB [some 0,some 1,some 2,some 3] ?_;simp only[go_sem])
  exact E.ac ⟨rfl,.inr (by simp[bN.ji,O,kG,fU,bN.enter])⟩
 ·(refine fy [0,1,2,3] (xd _ cU 2 I.time) ?_;rintro _ _ ⟨rfl,rfl⟩;simp only[go_sem,fN,kG,fU])
  (refine E.bB [some 0,some 1,some 2,some 3] ?_;simp only[go_sem])
  exact E.ac ⟨rfl,.inl (by simp[bN.ji,O,fN,fU,bN.eP])⟩
 ·(refine fy [0,1,2,3] (xd _ cU 2 I.time) ?_;rintro _ _ ⟨rfl,rfl⟩;simp only[go_sem,fN,kG,fU])
  (refine E.bB [some 0,some 1,some 2,some 3] ?_;simp only[go_sem])
  exact E.ac ⟨rfl,.inl (by simp[bN.ji,O,fN,fU,bN.eP])⟩
 ·(refine fy [0,1,2,3] (xd _ cU 2 I.time) ?_;rintro _ _ ⟨rfl,rfl⟩;simp only[go_sem,fN,kG,fU])
  (refine E.bB [some 0,some 1,some 2,some 3] ?_;simp only[go_sem])
  exact E.ac ⟨rfl,.inl (by simp[bN.ji,O,fN,fU,bN.eP])⟩
 ·(refine fy [0,1,2,3] (xd _ cU 1 gu) ?_;rintro _ _ ⟨rfl,rfl⟩;simp only[go_sem,fN,kG,fU])
  (refine fy [0,1,2,3] (Un (bN.eP ⟨vy,1,gu,lg,ks,fM,np⟩ 1 gu) I.time) ?_;rintro _ _ ⟨rfl,rfl⟩;simp only[go_sem,fN,kG,fU])
  (refine E.bB [some 0,some 1,some 2,some 3] ?_;simp only[go_sem])
  exact E.ac ⟨rfl,.inr (by simp[bN.ji,O,kG,fU,bN.enter,bN.eP])⟩
 ·(refine fy [0,1,2,3] (aiR _ cU I.time h0 h1) ?_;rintro _ _ ⟨rfl,rfl⟩;simp only[go_sem,fN,kG,fU])
  (refine E.bB [some 0,some 1,some 2,some 3] ?_;simp only[go_sem])
  exact E.ac ⟨rfl,.inr (by simp[bN.ji,O,kG,fU,bN.qY])⟩
 ·(refine E.bB [some 0,some 1,some 2,some 3] ?_;simp only[go_sem])
  exact E.ac ⟨rfl,.inl (by simp[bN.ji,O,fN,fU])⟩
 ·(refine fy [0,1,2,3] (xd _ cU 5 I.time) ?_;rintro _ _ ⟨rfl,rfl⟩;simp only[go_sem,fN,kG,fU])
  (refine E.bB [some 0,some 1,some 2,some 3] ?_;simp only[go_sem])
  exact E.ac ⟨rfl,.inl (by simp[bN.ji,O,fN,fU,bN.eP])⟩
 ·(refine fy [0,1,2,3] (xd _ cU 1 gu) ?_;rintro _ _ ⟨rfl,rfl⟩;simp only[go_sem,fN,kG,fU])
  (refine fy [0,1,2,3] (Un (bN.eP ⟨vy,2,gu,lg,ks,fM,np⟩ 1 gu) I.time) ?_;rintro _ _ ⟨rfl,rfl⟩;simp only[go_sem,fN,kG,fU])
  (refine E.bB [some 0,some 1,some 2,some 3] ?_;simp only[go_sem])
  exact E.ac ⟨rfl,.inr (by simp[bN.ji,O,kG,fU,bN.enter,bN.eP])⟩
 ·(refine fy [0,1,2,3] (xd _ cU 4 lg) ?_;rintro _ _ ⟨rfl,rfl⟩;simp only[go_sem,fN,kG,fU])
  (refine fy [0,1,2,3] (aiQ (bN.eP ⟨vy,2,gu,lg,ks,fM,np⟩ 4 lg) (cU.eP (by omega) _ _) I.time) ?_;rintro _ _ ⟨rfl,rfl⟩;simp only[go_sem,fN,kG,fU])
  (refine fy [0,1,2,3] (aiR (bN.qg (bN.eP ⟨vy,2,gu,lg,ks,fM,np⟩ 4 lg) I.time) ((cU.eP (by omega) _ _).qg (by omega) _) I.time h0 h1) ?_;rintro _ _ ⟨rfl,rfl⟩;simp only[go_sem,fN,kG,fU])
  (refine E.bB [some 0,some 1,some 2,some 3] ?_;simp only[go_sem])
  exact E.ac ⟨rfl,.inr (by simp[bN.ji,O,kG,fU,bN.qY])⟩
 ·(refine fy [0,1,2,3] (xd _ cU 4 lg) ?_;rintro _ _ ⟨rfl,rfl⟩;simp only[go_sem,fN,kG,fU])
  (refine E.bB [some 0,some 1,some 2,some 3] ?_;simp only[go_sem])
  exact E.ac ⟨rfl,.inl (by simp[bN.ji,O,fN,fU,bN.eP])⟩
 ·(refine fy [0,1,2,3] (aiQ _ cU I.time) ?_;rintro _ _ ⟨rfl,rfl⟩;simp only[go_sem,fN,kG,fU])
  (refine E.bB [some 0,some 1,some 2,some 3] ?_;simp only[go_sem])
  exact E.ac ⟨rfl,.inl (by simp[bN.ji,O,fN,fU])⟩
def qM:Int→List Stamp→Bool
 |_,[]=>true
 |b,I::z=>decide (1≤I.cB∧I.cB≤4∧b≤I.time∧I.time≤120968639)&&qM I.time z
def lb (l:List Stamp)(n:Int):Int:=if 1024 < l.length then 3 else if n < 1∨10080 < n then 2 else if qM 0 l then 0 else 1
theorem oF {bj:Type}{l:List bj}{c:Nat}(h:c < l.length):l.drop c=l[c]::l.drop (c+1):=List.drop_eq_getElem_cons h
theorem S7 (l:List Stamp)(n:Int)(hl:l.length≤9223372036854775806):aO prog 149 [.pure 4 (ai l),.int .i64 n] [] (fun v rs=>v= .int .i64 (lb l n)∧rs= []):=by
 refine cu func149 aec (by simp[wM,yR]) ?_;simp only[go_sem,wM,yR];refine cf ?_ ?_<;>intro dI<;>simp only[bC] at dI<;>simp only[go_sem,wM,yR]
 ·exact E.bg rfl ⟨by rw[lb,if_pos (by omega)],rfl⟩
 repeat' ((first|refine gv ?_ ?_|refine gw ?_ ?_|refine cf ?_ ?_|refine dj ?_ ?_)<;>intro aw<;>(have ak:=aw;try simp only[bC] at ak)<;>(first|omega| (simp only[go_sem,aw,wM,yR];clear aw)))
 ·exact E.bg rfl ⟨by rw[lb,if_neg (by omega),if_pos (by omega)],rfl⟩
 ·exact E.bg rfl ⟨by rw[lb,if_neg (by omega),if_pos (by omega)],rfl⟩
 have pM:lb l n=if qM 0 l then 0 else 1:=by rw[lb,if_neg (by omega),if_neg (by omega)]
 refine dN (fun D r=> ∃ (c:Nat) (b:Int),c≤l.length∧qM 0 l=qM b (l.drop c)∧D= [(5,.int .i64 b),(17,.pure 4 (ai l)),(18,.int .i64 l.length),(19,.int .i64 c)]∧r= [])
  (fun D _=>match bs D 19 with| .int _ j=>(l.length-j).toNat|_=>0) ?_ ?_
 ·exact E.ac ⟨0,0,by omega,by simp,rfl,rfl⟩
 ·rintro D r ⟨c,b,av,hb,rfl,rfl⟩;simp only[go_sem,wM,yR];refine cf ?_ ?_<;>intro ct<;>simp only[bC] at ct<;>simp only[go_sem,wM,yR]
  ·have aI:c < l.length:=by omega
   refine⟨by omega,by omega,?_⟩
   try simp only[Int.toNat_natCast]
   rw[cT aI,Nn];rw[oF aI,qM] at hb;have aP:=dB (c:=c) (by omega);simp only[go_sem,wM,yR]
   repeat' ((first|refine gv ?_ ?_|refine gw ?_ ?_|refine cf ?_ ?_|refine dj ?_ ?_)<;>intro aw<;>(have ak:=aw;try simp only[bC] at ak)<;>(first|omega| (simp only[go_sem,aw,wM,yR,aP];clear aw)))
   any_goals (refine E.bg rfl ⟨?_,rfl⟩;rw[pM,if_neg];rw[hb];simp only[Bool.and_eq_true,decide_eq_true_eq];omega)
   (refine E.bB [] ?_;simp only[go_sem])
   refine E.ac ⟨⟨c+1,l[c].time,by omega,?_,rfl,rfl⟩,?_⟩
   ·rw[hb,decide_eq_true (by omega),Bool.true_and]
   ·simp only[go_sem];omega
  ·have:c=l.length:=by omega
   subst this;exact E.bg rfl ⟨by rw[pM,hb];simp[qM],rfl⟩
theorem Ur: ∀ {l:List Stamp} {b:Int},qM b l=true→0≤b→ ∀ I∈l,I.ok
 | [],_,_,_,I,ao=>by simp at ao
 |x::z,b,h,hb,I,ao=>by
  simp only[qM,Bool.and_eq_true,decide_eq_true_eq] at h;rcases List.mem_cons.1 ao with rfl|ao
  ·exact⟨by omega,by omega,by omega⟩
  ·exact Ur h.2 (by omega) I ao
theorem bN.di.vz {p:bN}{n m:Nat}(h:p.di n)(aH:n≤m)(hm:m≤1000000):p.di m:=
 ⟨hm,h.b0,h.b1,h.p0,h.p1,by have:=h.mN;omega,by have:=h.nv;omega,by have:=h.yQ;omega⟩
theorem bN.di.ji {p:bN}{n:Nat}(h:p.di n)(aH:n+3≤1000000){I:Stamp}(bp:I.ok): (p.ji I).di (n+3):=by
 obtain⟨O,h0,h1⟩:=bp;unfold bN.ji;split
 ·split
  ·exact (h.enter h0 h1).vz (by omega) aH
  ·exact (h.eP (by omega) _ _).vz (by omega) aH
 ·split
  ·split
   ·exact ((h.eP (by omega) _ _).enter h0 h1).vz (by omega) aH
   ·split
    ·exact (h.qY (by omega) _).vz (by omega) aH
    ·split
     ·have:=h.mN;have:=h.nv;have:=h.yQ;exact⟨aH,h.b0,h.b1,h0,h1,by simp;omega,by simp;omega,by simp;omega⟩
     ·exact (h.eP (by omega) _ _).vz (by omega) aH
  ·split
   ·exact ((h.eP (by omega) _ _).enter h0 h1).vz (by omega) aH
   ·split
    ·exact (((h.eP (by omega) _ _).qg (by omega) _).qY (by omega) _).vz (by omega) aH
    ·split
     ·have N:=h.eP (by omega) 4 p.lg;have:=N.mN;have:=N.nv;have:=N.yQ;exact⟨aH,N.b0,N.b1,h0,h1,by simp at *;omega,by simp at *;omega,by simp at *;omega⟩
     ·exact (h.qg (by omega) _).vz (by omega) aH
theorem aGc {p:bN}(h:p.bw){I:Stamp}: (p.ji I).bw:=by
 unfold bN.ji;have aGd: ∀ (q:bN) t,(q.qg t).bw:=by intro q t;unfold bN.qg;split<;>exact .inr (.inl rfl)
 repeat' split
 all_goals first|exact aGd _ _|exact h|exact .inl rfl|exact .inr (.inl rfl)|exact .inr (.inr rfl)
theorem aiS: ∀ {l:List Stamp} {p:bN} {n:Nat},p.di n→p.bw→(∀ I∈l,I.ok)→n+3*l.length≤1000000→(l.foldl bN.ji p).di (n+3*l.length)∧(l.foldl bN.ji p).bw
 | [],p,n,h,ao,_,_=>⟨h,ao⟩
 |x::z,p,n,h,ao,bp,aH=>by
  simp only[List.length_cons] at aH ⊢;obtain⟨h1,G⟩:=aiS (l:=z) (h.ji (by omega) (bp x (by simp))) (aGc ao) (fun I ao=>bp I (by simp[ao])) (by omega);exact⟨by rw[show n+3*(z.length+1)=n+3+3*z.length from by omega];exact h1,G⟩
def qZ (n:Int):bN:=⟨n,0,0,0,[],[],[]⟩
def ra (l:List Stamp)(n:Int):bN:=l.foldl bN.ji (qZ n)
def bN.bg (p:bN):bN:=if p.state=0 then p else p.eP 1 p.gu
def nQ (l:List Stamp)(n:Int):List dF:=if lb l n=0 then (ra l n).bg.fM else []
def tY (l:List Stamp)(n:Int):List kn:=if lb l n=0 then (ra l n).bg.np else []
theorem aiT {l:List Stamp}{n:Int}(h:lb l n=0):l.length≤1024∧1≤n∧n≤10080∧qM 0 l=true:=by
 unfold lb at h;split at h
 ·omega
 ·split at h
  ·omega
  ·split at h
   ·rename_i au;exact⟨by omega,by omega,by omega,au⟩
   ·omega
theorem aGe {l:List Stamp}{n:Int}(h:lb l n=0)(c:Nat): (ra (l.take c) n).di 3072∧(ra (l.take c) n).bw:=by
 obtain⟨h1,G,au,bv⟩:=aiT h;have bp:=Ur bv (by omega);have cK: (l.take c).length≤1024:=by simp;omega
 obtain⟨a,b⟩:=aiS (l:=l.take c) (p:=qZ n) (n:=0) ⟨by omega,by simp[qZ],by simp[qZ],by simp[qZ],by simp[qZ],by simp[qZ],by simp[qZ],by simp[qZ]⟩ (.inl rfl)
  (fun I ao=>bp I (List.mem_of_mem_take ao)) (by omega)
 exact⟨a.vz (by omega) (by omega),b⟩
theorem aB9 (l:List Stamp)(n:Int)(hl:l.length≤9223372036854775806):aO prog 68 [.pure 4 (ai l),.int .i64 n] []
 (fun v rs=>v= .bo [.pure 3 (ai (nQ l n)),.pure 2 (ai (tY l n)),.int .i64 (lb l n)]∧rs= []):=by
 refine hJ func68 acS (by simp[yB,A8]) ?_;simp only[go_sem,yB,A8]
 (refine E.ac ?_;simp only[go_sem])
 refine bM (S7 l n hl) rfl rfl ?_;simp only[go_sem]
 repeat (refine E.ac ?_;simp only[go_sem])
 refine dj ?_ ?_<;>intro dI<;>simp only[bC] at dI<;>simp only[go_sem,yB,A8]
 ·(refine E.iv 4 88 3 rfl (E.eW [4,5,6] ?_);simp only[go_sem])
  (refine E.iv 5 132 2 rfl (E.eW [4,5,6] ?_);simp only[go_sem])
  (refine E.kK [] [0,1] ?_;simp only[go_sem])
  (refine E.ac ?_;simp only[go_sem])
  exact E.ac ⟨by simp[nQ,tY,dI,ai,bs],rfl⟩
 ·obtain⟨jK,_,_,rW⟩:=aiT dI;have bp:=Ur rW (by omega)
  repeat (refine E.ac ?_;simp only[go_sem])
  refine hv (fun D r=> ∃ c:Nat,c≤l.length∧D= [(8,.bd 0 1 0 0),(19,.pure 4 (ai l)),(20,.int .i64 l.length),(21,.int .i64 c)]∧r=fN (ra (l.take c) n))
   (fun D _=>match bs D 21 with| .int _ j=>(l.length-j).toNat|_=>0) ?_ ?_
  ·(refine E.oc (.vQ 0 0 5 88 3 rfl (by simp) (by decide) rfl) ?_;simp only[go_sem,fb])
   (refine E.oc (.vQ 0 0 6 132 2 rfl (by simp) (by decide) rfl) ?_;simp only[go_sem,fb])
   (refine E.oc (.vQ 0 0 4 64 2 rfl (by simp) (by decide) rfl) ?_;simp only[go_sem,fb])
   exact E.ac ⟨0,by omega,rfl,rfl⟩
  ·rintro D r ⟨c,av,rfl,rfl⟩;obtain⟨cU,cn⟩:=aGe dI c;simp only[go_sem,yB,A8]
   repeat (refine E.ac ?_;simp only[go_sem])
   refine dj ?_ ?_<;>intro ct<;>simp only[bC] at ct<;>simp only[go_sem,yB,A8]
   ·have aI:c < l.length:=by omega
    (refine E.ac ?_;simp only[go_sem])
    simp only[go_sem,fN,fU];refine⟨by omega,by omega,?_⟩
    try simp only[Int.toNat_natCast]
    rw[cT aI];simp only[go_sem,yB,A8]
    repeat (refine E.ac ?_;simp only[go_sem])
    have N:=Up _ cU (by omega) cn l[c] (bp _ (List.getElem_mem _));have re: (ra (l.take c) n).ji l[c]=ra (l.take (c+1)) n:=by
     rw[ra,ra,List.take_add_one,List.getElem?_eq_getElem aI,List.foldl_append];rfl
    rw[re] at N;have aP:=dB (c:=c) (by omega);refine om [0,1,2,3] [] (by decide) (by simp only[go_sem]<;>rfl) (by simp only[go_sem]<;>rfl) N ?_;rintro _ _ ⟨rfl,h|⟨h,pP⟩⟩
    ·subst h;refine⟨.inl rfl,?_⟩;simp only[go_sem,fN,fU]
     (refine E.ac ?_;simp only[go_sem])
     rw[aP]
     (refine E.bB [some 0,some 1,some 2,some 3] ?_;simp only[go_sem])
     refine E.ac ⟨⟨c+1,by omega,rfl,rfl⟩,?_⟩;simp only[go_sem];omega
    ·subst h;refine⟨.inl rfl,?_⟩;simp only[go_sem,kG,fU]
     (refine E.ac ?_;simp only[go_sem])
     rw[aP]
     (refine E.oc (.vQ 0 0 4 64 2 rfl (by simp) (by decide) rfl) ?_;simp only[go_sem,fb])
     (refine E.bB [some 0,some 1,some 2,some 5] ?_;simp only[go_sem])
     refine E.ac ⟨⟨c+1,by omega,rfl,by simp[fN,fU,pP,ai]⟩,?_⟩;simp only[go_sem];omega
   ·have:c=l.length:=by omega
    subst this;rw[List.take_length] at cU ⊢;have sm:=cU.yQ;simp only[go_sem,fN,fU]
    (refine E.ac ?_;simp only[go_sem])
    (refine E.ac ?_;simp only[go_sem])
    refine dj ?_ ?_<;>intro fH<;>simp only[bC] at fH<;>simp only[go_sem,yB,A8]
    ·have N:=xd _ cU 1 (ra l n).gu;refine fy [0,1,2,3] N ?_;rintro _ _ ⟨rfl,rfl⟩;simp only[go_sem,fN,fU]
     (refine E.ac ?_;simp only[go_sem])
     (refine E.kK [] [1,2] ?_;simp only[go_sem])
     (refine E.ac ?_;simp only[go_sem])
     refine E.ac ⟨?_,rfl⟩;simp[bs,nQ,tY,dI,bN.bg,fH]
    ·(refine E.ac ?_;simp only[go_sem])
     (refine E.kK [] [1,2] ?_;simp only[go_sem])
     (refine E.ac ?_;simp only[go_sem])
     refine E.ac ⟨?_,rfl⟩;simp[bs,nQ,tY,dI,bN.bg,fH]
end Go.Proofs.YtpincjkjoeopkaaGreatDoor.Pr
