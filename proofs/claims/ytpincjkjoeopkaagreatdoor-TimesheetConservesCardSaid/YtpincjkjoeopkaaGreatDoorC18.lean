/- Time evaluation. -/
import Derived.Test.YtpincjkjoeopkaaGreatDoorC17
set_option linter.all false
namespace Go.Proofs.YtpincjkjoeopkaaGreatDoor
open Go Go.Abs Go.Proofs.Tryz
set_option maxRecDepth 20000 in
theorem awp:aO prog 154 [.pure 2 []] [] (λv rs=>v= .pure 2 []/\rs=[]):=by
 refine aO.D2 λC dA N aA hG dv=> ?_;rw[aE] at dv;obtain⟨v,bS,rfl,d,G⟩:=dv;rw[aE] at G;subst G;rw[Rep] at d;obtain⟨cy,cap,rfl,_,_⟩:=d;have aP: (Go.RowKit.Below C.w.heap.size C.w C.w/\C.w.drawn<=C.w.drawn):=⟨Go.RowKit.Below.refl _ _,aKM _⟩
 go_enter func154,ntmps154
 cases cy with
 |none=>
  go_wp2
  rw[Z5]
  go_wp2
  go_ret
  exact⟨_,.pure 2 [],rfl,aP,λaB _=>(by rw[Rep];exact⟨none,0,rfl,aKM _,.inl rfl⟩),rfl,trivial⟩
 |some a=>
  go_wp2
  rw[Z6]
  go_wp2
  go_ret
  exact⟨_,.pure 2 [],rfl,⟨aP.1.alloc (aKM _) _,aP.2⟩,λaB _=>(by rw[Rep];exact⟨_,_,rfl,aKM _,.inl rfl⟩),rfl,trivial⟩
theorem Ma (l:List Pr.bx)(hl:l.length<=100000):aO prog 154 [.pure 2 (ai l)] [] (λv rs=>v= .pure 2 (ai l)/\rs=[]):=by
 by_cases h:l=[]
 ·subst h;exact awp
 have ak:0<l.length:=aNL.2 h;refine cu func154 Z7 (by simp[Mf,R3]) ?_;simp only[go_sem,Mf,R3,bT];refine⟨ak,by omega,?_⟩;have nL:bW [.ag 64 2 (ai l)] [] [0] (.own 0 l.length 0 l.length)= .pure 2 (ai l):=qx rfl rfl rfl (by rw[bT]) ck;refine E.jN [] [0] rfl rfl (by simp only[go_sem]<;>rfl) ?_;have nF:List.take l.length (ai l)=ai l:=aLZ (by rw[bT];exact aKM _);simp only[go_sem,nL,bT,ck,nF];exact i ⟨rfl,rfl⟩
def gp (l:List Int)(a:Int):Z:=dX 143 l a
theorem ED (v n:Int)(aH:0<n)(GS:n<=9223372036854775807):aO prog 10 [.int .i64 v,.int .i64 n] [] (λz r=>z= .int .i64 (mod v n)/\r=[]):=by
 refine cu func10 Ls (by simp[uW,sn]) ?_;simp only[go_sem,uW,sn];refine⟨by omega,?_⟩;have d:=aO7 v aH;refine cf ?_ ?_<;>intro aw<;>simp only[go_sem,uW,sn]<;>refine aKG rfl ⟨?_,rfl⟩<;>simp only[aKN,aLX] at aw
 ·have G: -n<v.tmod n:=by
   have:=aO8 v aH;omega
  rw[bl,mod,Rc aw]
 ·rw[mod,S aw]
theorem atG (l:List Int):aO prog 16 [.pure 1 (cJ .i64 l)] [] (λz r=>z= .bd 0 1 0 0/\r=[gp l 0]):=by
 refine cu func16 Ye (by simp[Lt,QC]) ?_;simp only[go_sem,Lt,QC];exact i ⟨rfl,rfl⟩
theorem hi (l:List Int)(hl:mW l)(n:Int)(aH:n<=9223372036854775807):BU prog 143 64 [.int .i64 n] l (PR n):=by
 intro az h0 d;refine cu func64 Lu (by simp[uX,wu]) ?_;simp only[go_sem,uX,wu,dX];have cK:=hl.len
 repeat' ((first|refine gv ?_ ?_|refine gw ?_ ?_|refine cf ?_ ?_|refine dj ?_ ?_)<;>intro aw<;>(have ak:=aw;try simp only[bC] at ak)<;>(first|omega| (simp only[go_sem,aw,uX,wu];clear aw)))
 ·exact E.tape rfl h0 d ⟨0,rfl,by omega,by omega⟩
 ·exact E.tape rfl h0 d ⟨0,rfl,by omega,by omega⟩
 ·simp (disch:=omega) only[bl,tw,aP7];refine⟨by omega,by omega,by simp,?_⟩;simp only[go_sem];refine gG (ED _ _ (by omega) aH) rfl rfl ?_;simp only[go_sem];have af:=PS (v:=l.getD az.toNat 0) (n:=n) (by omega);exact E.tape rfl (by omega) (by omega) ⟨_,rfl,by omega,by omega⟩
theorem aLs (l:List Int)(hl:mW l)(aq:List Int)(aj:0<aq.length)(rY:aq.length<=1000):BV prog 143 3 59 l aq (λv=> ∃x,x∈aq/\v= .int .i64 x):=by
 intro az h0 d;refine cu func59 Lv (by simp[zP,Cg]) ?_;simp only[go_sem,zP,Cg];refine KP (hi l hl _ (by omega)) rfl (by simp) h0 d ?_;rintro v a G au ⟨x,rfl,bv,cx⟩;simp only[go_sem];refine⟨by omega,by omega,?_⟩;rw[tw (by omega)];simp only[go_sem];refine i ⟨a,rfl,G,au,rfl,_,?_,rfl⟩;rw[aLn,aKS (by omega)];simp
structure lv where
 az:Int
 off:Int
def lv.cells (e:lv):List F:=[.int .i64 e.az,.int .i64 e.off]
instance:aJ lv:=⟨lv.cells,2,λ_=>rfl,λ_=>rfl,λ_=>rfl⟩
theorem Hj (e:lv):aJ.J e=[.int .i64 e.az,.int .i64 e.off]:=rfl
theorem atI:aJ.U lv=2:=rfl
theorem atJ (e:lv):List.take 2 (aJ.J e)=aJ.J e:=rfl
attribute [go_sem] atI atJ
theorem atK {l:List lv}{a b:Int}:ai l++[[.int .i64 a,.int .i64 b]]=ai (l++[⟨a,b⟩]):=kT (x:=lv.mk a b)
structure cc where
 off:Int
 cS:List lv
def cc.v (M:cc):F:= .agg [.int .i64 M.off,.pure 2 (ai M.cS)]
def jQ (V:Int):Prop:= -840<=V/\V<=840
instance (V:Int):Decidable (jQ V):=inferInstanceAs (Decidable (-840<=V/\V<=840))
def qA:Int->List lv->Int
 |_,[]=>0
 |p,J::ap=>if ¬(0<=J.az/\J.az<=120968639/\jQ J.off) then 2 else if J.az<=p then 1 else qA J.az ap
def fe (M:cc):Int:=if 64<M.cS.length then 3 else if jQ M.off then qA (-1) M.cS else 2
theorem atL {p:Int}{l:List lv}{c:Nat}(h:c<l.length):qA p (l.drop c)=if ¬(0<=l[c].az/\l[c].az<=120968639/\jQ l[c].off) then 2 else if l[c].az<=p then 1 else qA l[c].az (l.drop (c+1)):=by
 rw[aL4 h,qA]
theorem Yf (V:Int):aO prog 220 [.int .i64 V] [] (λv rs=>v= .bool (decide (jQ V))/\rs=[]):=by
 refine cu func220 Yg (by simp[Hk,Lw]) ?_;simp only[go_sem,Hk,Lw]
 repeat' ((first|refine gv ?_ ?_|refine gw ?_ ?_|refine cf ?_ ?_|refine dj ?_ ?_)<;>intro aw<;>(have ak:=aw;try simp only[bC] at ak)<;>(first|omega| (simp only[go_sem,aw,Hk,Lw];clear aw)))
 all_goals ((refine aKG rfl ⟨aKI F.bool ?_,rfl⟩;rw[aL0];simp only[bC,aLK,aMI,aN1,aOv,aOw,aMi,aMh] at *;try simp only[jQ] at *;omega))
theorem Ch (M:cc):aO prog 141 [M.v] [] (λv rs=>v= .int .i64 (fe M)/\rs=[]):=by
 refine cu func141 Yh (by simp[EE,Hl]) ?_;unfold fe;simp only[go_sem,EE,Hl,cc.v]
 by_cases d: (M.cS.length:Int)>64
 ·simp only[go_sem,d];exact aKG rfl ⟨by rw[Rc (by omega)],rfl⟩
 simp only[go_sem,d];rw[S (by omega)];refine bM (Yf _) rfl rfl ?_
 by_cases G:jQ M.off
 rotate_left
 ·simp only[go_sem,G];exact aKG rfl ⟨rfl,rfl⟩
 simp only[go_sem,G];refine dN (λD r=> ∃(c:Nat) (p:Int),c<=M.cS.length/\qA (-1) M.cS=qA p (M.cS.drop c)/\(c=0->p= -1)/\(∀j (h:j<M.cS.length),c=j+1->p=M.cS[j].az)/\D=[(1,.bd 0 1 0 0),(14,.pure 2 (ai M.cS)),(15,.int .i64 M.cS.length),(16,.int .i64 c)]/\r=[.ag 32 2 [[.int .i64 M.off,.pure 2 (ai M.cS)]]])
  (λD _=>match bs D 16 with| .int _ j=>(M.cS.length-j).toNat|_=>0) ?_ ?_
 ·exact i ⟨0,-1,by omega,rfl,λ_=>rfl,λj _ h=>by omega,rfl,rfl⟩
 ·rintro D r ⟨c,p,av,ay,Bx,iK,rfl,rfl⟩;have aP:=dB (c:=c) (by omega);simp only[go_sem,EE,Hl];refine cf ?_ ?_<;>intro ct<;>simp only[bC] at ct<;>simp only[go_sem,EE,Hl]
  ·have aI:c<M.cS.length:=by omega
   refine⟨by omega,by omega,?_⟩
   try simp only[aKX]
   rw[atL aI] at ay;have dV:∀j (h:j<M.cS.length),c+1=j+1->M.cS[c].az=M.cS[j].az:=by intro j h hj;obtain rfl:c=j:=(by omega);rfl
   rw[cT aI];generalize M.cS[c]=J at ay dV ⊢;simp only[go_sem,Hj]
   by_cases au:J.az<0
   ·simp only[go_sem,au];exact aKG rfl ⟨by rw[ay,Rc (by omega)],rfl⟩
   by_cases bv:J.az>120968639
   ·simp only[go_sem,au,bv];exact aKG rfl ⟨by rw[ay,Rc (by omega)],rfl⟩
   simp only[go_sem,au,bv];refine bM (Yf _) rfl rfl ?_
   by_cases cx:jQ J.off
   rotate_left
   ·simp only[go_sem,cx];exact aKG rfl ⟨by rw[ay,Rc (λh=>cx h.2.2)],rfl⟩
   simp only[go_sem,cx];rw[S (by simp only[cx,aMi];omega)] at ay;cases c with
   |zero=>
    simp only[go_sem,aPb,Int.lt_irrefl,aOx];obtain rfl:=Bx rfl;rw[S (by omega)] at ay;simp only[go_sem,aPb] at aP
    (refine E.bB [some 0] ?_;simp only[go_sem])
    refine i ⟨⟨1,J.az,by omega,ay,λh=>by omega,λj h hj=>dV j h hj,rfl,rfl⟩,?_⟩;simp only[go_sem];omega
   |succ k=>
    have O:k<M.cS.length:=by omega
    obtain rfl:=iK k O rfl;have iG: ((k+1:Nat):Int)>0:=by omega
    have nH:IntKind.i64.wrap (((k+1:Nat):Int)-1)=(k:Int):=by rw[bl];omega
    simp only[go_sem,iG,nH];refine⟨by omega,by omega,?_⟩
    try simp only[aKX]
    rw[cT O];simp only[go_sem,Hj]
    by_cases dx:J.az<=M.cS[k].az
    ·rw[Rc dx] at ay;simp only[go_sem,dx];exact aKG rfl ⟨by rw[ay],rfl⟩
    ·rw[S dx] at ay;simp only[go_sem,dx,aP]
     (refine E.bB [some 0] ?_;simp only[go_sem])
     refine i ⟨⟨k+1+1,J.az,by omega,ay,λh=>by omega,λj h hj=>dV j h hj,rfl,rfl⟩,?_⟩;simp only[go_sem];omega
  ·obtain rfl:c=M.cS.length:=by omega
   refine aKG rfl ⟨?_,rfl⟩;rw[ay,aLF];rfl
structure Lx (M:cc):Prop where
 len:M.cS.length<=64
 off:jQ M.off
 cS:∀J∈M.cS,0<=J.az/\J.az<=120968639/\jQ J.off
theorem Yi:∀{l:List lv} {p:Int},qA p l=0-> ∀J∈l,0<=J.az/\J.az<=120968639/\jQ J.off
 | [],_,_,J,ad=>by simp at ad
 |x::aq,p,h,J,ad=>by
  rw[qA] at h;split at h
  ·cases h
  split at h
  ·cases h
  rename_i d G;rcases aKV.1 ad with rfl|ad
  ·exact Classical.not_not.1 d
  ·exact Yi h J ad
theorem wv {M:cc}(h:fe M=0):Lx M:=by
 unfold fe at h;split at h
 ·cases h
 split at h
 ·rename_i d G;exact⟨by omega,G,Yi h⟩
 ·cases h
def zQ (t:Int)(V:Int)(l:List lv):Int:=l.foldl (λV J=>if J.az<=t then J.off else V) V
def yf (M:cc)(t:Int):Int:=zQ t M.off M.cS
theorem atM {t V:Int}{l:List lv}{c:Nat}(h:c<l.length):zQ t V (l.take (c+1))=if l[c].az<=t then l[c].off else zQ t V (l.take c):=by
 unfold zQ;rw[aLz h,aMc];rfl
theorem Yj {t:Int}:∀{l:List lv} {V:Int},jQ V->(∀J∈l,jQ J.off)->jQ (zQ t V l)
 | [],_,bp,_=>bp
 |J::ap,V,bp,hl=>by
  unfold zQ;rw[aMb];refine Yj (l:=ap) ?_ (λx aj=>hl x (aK1 _ aj));split
  ·exact hl J aLa
  ·exact bp
theorem Yk {M:cc}(ba:Lx M)(t:Int):jQ (yf M t):=Yj ba.off (λJ ad=>(ba.cS J ad).2.2)
theorem atN (M:cc)(ba:fe M=0)(t:Int)(h0:0<=t)(d:t<=120968639):aO prog 322 [M.v,.int .i64 t] [] (λv rs=>v= .bo [.int .i64 (yf M t),.int .i64 0]/\rs=[]):=by
 have O:=wv ba;have cK:=O.len;refine cu func322 Yl (by simp[EF,Hm]) ?_;have bb:¬t<0:=by omega
 have aMq:¬t>120968639:=by omega
 simp only[go_sem,EF,Hm,cc.v];refine bM (Ch M) rfl rfl ?_;simp only[go_sem,ba,bb,aMq];refine dN (λD r=> ∃(c:Nat),c<=M.cS.length/\yf M t=zQ t M.off (M.cS.take c)/\D=[(1,.int .i64 t),(2,.bd 0 1 0 0),(7,.int .i64 ((c:Int)-1))]/\r=[.ag 32 2 [[.int .i64 M.off,.pure 2 (ai M.cS)]]])
  (λD _=>match bs D 7 with| .int _ j=>(j+1).toNat|_=>0) ?_ ?_
 ·have aP:IntKind.i64.wrap ((M.cS.length:Int)-1)=(M.cS.length:Int)-1:=bl;simp only[go_sem,aP];exact i ⟨M.cS.length,by omega,by rw[aLb];rfl,rfl,rfl⟩
 ·rintro D r ⟨c,av,ao,rfl,rfl⟩;simp only[go_sem,EF,Hm];refine cf ?_ ?_<;>intro ct<;>simp only[bC] at ct<;>simp only[go_sem,EF,Hm]
  ·obtain⟨k,rfl⟩:∃k,c=k+1:=⟨c-1,by omega⟩;have aI:k<M.cS.length:=by omega
   have ad: ((k+1:Nat):Int)-1=(k:Int):=by omega
   rw[ad];rw[atM aI] at ao;refine⟨by omega,by omega,?_⟩
   try simp only[aKX]
   rw[cT aI];simp only[go_sem,Hj]
   by_cases au:M.cS[k].az<=t
   ·rw[Rc au] at ao;simp only[go_sem,au];refine⟨by omega,by omega,?_⟩
    try simp only[aKX]
    rw[cT aI];simp only[go_sem,Hj];exact aKG rfl ⟨by rw[ao],rfl⟩
   ·rw[S au] at ao;have aP:IntKind.i64.wrap ((k:Int)-1)=(k:Int)-1:=bl;simp only[go_sem,au,aP];refine i ⟨⟨k,by omega,ao,rfl,rfl⟩,?_⟩;simp only[go_sem];omega
  ·obtain rfl:c=0:=by omega
   refine aKG rfl ⟨?_,rfl⟩;rw[ao];rfl
theorem Ym (M:cc)(ba:fe M=0)(t:Int)(h0:0<=t)(d:t<=120968639):aO prog 259 [M.v,.int .i64 t] [] (λv rs=>v= .bo [.int .i64 (t+yf M t),.int .i64 0]/\rs=[]):=by
 have af:=Yk (wv ba) t;unfold jQ at af;have aP:IntKind.i64.wrap (t+yf M t)=t+yf M t:=bl;refine cu func259 Yn (by simp[Ly,QD]) ?_;simp only[go_sem,Ly,QD,cc.v];refine bM (atN M ba t h0 d) rfl rfl ?_;simp only[go_sem,aP];exact aKG rfl ⟨rfl,rfl⟩
theorem Yo:∀{l:List lv} {p:Int} {J:lv},qA p l=0->(∀x∈l,x.az<J.az)->p<J.az->0<=J.az/\J.az<=120968639/\jQ J.off->qA p (l++[J])=0
 | [],p,J,_,_,ak,ad=>by
  rw[aLV,qA,S (λh=>h ad),S (by omega)];rfl
 |x::aq,p,J,h,aj,ak,ad=>by
  rw[qA] at h;rw[aLx,qA];split at h
  ·cases h
  split at h
  ·cases h
  rename_i d G;rw[S d,S G];exact Yo h (λy bt=>aj y (aK1 _ bt)) (aj x aLa) ad
theorem atO (l:List Int)(hl:mW l)(az:Int)(h0:0<=az)(d:az<=l.length):aO prog 58 [.bd 0 1 0 0] [gp l az]
 (λv rs=> ∃(a:Int) (M:cc),v=M.v/\rs=[gp l a]/\0<=a/\a<=l.length/\fe M=0/\M.cS.length<=3):=by
 refine hJ func58 Yp (by simp[EG,Hn]) ?_;simp only[go_sem,EG,Hn,gp]
 (refine i ?_;simp only[go_sem])
 (refine ja [0,60,-300,840,-840,570] (aLs l hl _ (by simp) (by simp)) ?_;rintro _ az _ _ ⟨V,cg,rfl⟩;simp only[fR] at cg;simp only[go_sem])
 have bp:jQ V:=by unfold jQ;omega
 clear cg
 (refine i ?_;simp only[go_sem])
 (refine ja [0,29453760,29455200,29456700,29453060] (aLs l hl _ (by simp) (by simp)) ?_;rintro _ az _ _ ⟨t0,cg,rfl⟩;simp only[fR] at cg;simp only[go_sem])
 have zR:0<=t0/\t0<=29456700:=by omega
 clear cg
 (refine i ?_;simp only[go_sem])
 (refine lN (hi l hl 4 (by omega)) ?_;rintro _ az _ _ ⟨n,rfl,_,_⟩;simp only[go_sem])
 (refine i ?_;simp only[go_sem])
 refine hv (λD r=> ∃(a:Int) (ap:List lv) (j t:Int),D=[(0,.bd 0 1 0 0),(2,.bd 1 1 0 0),(3,.bd 2 1 0 0),(4,.int .i64 t),(5,.int .i64 j)]/\r=[dX 143 l a,.ag 32 2 [[.int .i64 0,.bH]],.ag 32 2 [[.int .i64 V,.own 3 ap.length 0 ap.length]],.ag 259 2 (ai ap)]/\0<=a/\a<=l.length/\0<=j/\ap.length+j<=3/\qA (-1) ap=0/\(∀J∈ap,J.az<t)/\0<=t/\t+4320*j<=29470000)
  (λD _=>match bs D 5 with| .int _ j=>j.toNat|_=>0) ?_ ?_
 ·(refine E.oc (.vQ 3 0 1 259 2 rfl (by simp) (by decide) rfl) ?_;simp only[go_sem,fb])
  (refine E.bB [some 0,some 1,some 3,some 5] ?_;simp only[go_sem])
  exact i ⟨az,[],n,t0,rfl,rfl,by omega,by omega,by omega,by simp;omega,rfl,by simp,by omega,by omega⟩
 ·rintro D r ⟨az,ap,j,t,rfl,rfl,_,_,_,jK,eK,aI,Lz,EH⟩;simp only[go_sem,EG,Hn]
  (refine i ?_;simp only[go_sem])
  refine dj ?_ ?_<;>intro aw<;>simp only[bC] at aw<;>simp only[go_sem,EG,Hn]
  ·(refine i ?_;simp only[go_sem])
   (refine G4 [60,120,0,-300,840,-840] (aLs l hl _ (by simp) (by simp)) ?_;rintro _ az _ _ ⟨x,cg,rfl⟩;simp only[fR] at cg;simp only[go_sem])
   have aj:jQ x:=by unfold jQ;omega
   clear cg;refine⟨by omega,?_⟩;rw[atK]
   (refine i ?_;simp only[go_sem])
   (refine ja [60,1440,30,4320,1] (aLs l hl _ (by simp) (by simp)) ?_;rintro _ az _ _ ⟨y,cg,rfl⟩;simp only[fR] at cg;simp only[go_sem])
   have bt:1<=y/\y<=4320:=by omega
   clear cg;rw[bl]
   (refine i ?_;simp only[go_sem])
   rw[bl]
   (refine E.bB [some 0,some 1,some 2,some 3] ?_;simp only[go_sem])
   refine i ⟨⟨az,ap++[⟨t,x⟩],j-1,t+y,by simp,by simp,by omega,by omega,by omega,by simp;omega,?_,?_,by omega,by omega⟩,?_⟩
   ·exact Yo eK aI (by simp only;omega) ⟨by simp only;omega,by simp only;omega,aj⟩
   ·intro J ad;rcases aK3.1 ad with ad|ad
    ·have:=aI J ad;omega
    ·rw[aK2] at ad;subst ad;simp only;omega
   ·simp only[go_sem];omega
  ·(refine i ?_;simp only[go_sem])
   (refine aL1 [some 0,some 1] [3] ?_;simp only[go_sem])
   (refine i ?_;simp only[go_sem])
   (refine E.bB [some 0] ?_;simp only[go_sem])
   refine i ⟨az,⟨V,ap⟩,rfl,rfl,by omega,by omega,?_,by simp only;omega⟩;unfold fe;rw[S (by simp only;omega),Rc bp];exact eK
structure pL where
 R:Int
 ab:Int
 off:Int
def pL.cells (e:pL):List F:=[.int .i64 e.R,.int .i64 e.ab,.int .i64 e.off]
instance:aJ pL:=⟨pL.cells,3,λ_=>rfl,λ_=>rfl,λ_=>rfl⟩
theorem Yq (e:pL):aJ.J e=[.int .i64 e.R,.int .i64 e.ab,.int .i64 e.off]:=rfl
theorem atP:aJ.U pL=3:=rfl
theorem atQ (e:pL):List.take 3 (aJ.J e)=aJ.J e:=rfl
attribute [go_sem] atP atQ
theorem Yr {l:List pL}{a b J:Int}:ai l++[[.int .i64 a,.int .i64 b,.int .i64 J]]=ai (l++[⟨a,b,J⟩]):=kT (x:=pL.mk a b J)
def ml:Int->Int->List lv->List pL
 |f,V,[]=> [⟨f,120968640,V⟩]
 |f,V,J::ap=>(if f<J.az then [⟨f,J.az,V⟩] else [])++ml J.az J.off ap
theorem atS {f V:Int}{l:List lv}{c:Nat}(h:c<l.length):ml f V (l.drop c)=(if f<l[c].az then [⟨f,l[c].az,V⟩] else [])++ml l[c].az l[c].off (l.drop (c+1)):=by
 rw[aL4 h,ml]
theorem Ys (M:cc)(ba:M.cS.length<=64):aO prog 209 [M.v] [] (λv rs=>v= .own 0 (ml 0 M.off M.cS).length 0 (ml 0 M.off M.cS).length/\rs=[.ag 326 3 (ai (ml 0 M.off M.cS))]):=by
 refine cu func209 Yt (by simp[EI,Ho]) ?_;simp only[go_sem,EI,Ho,cc.v];refine dN (λD r=> ∃(c:Nat) (f V:Int) (z:List pL),c<=M.cS.length/\ml 0 M.off M.cS=z++ml f V (M.cS.drop c)/\z.length<=c/\D=[(3,.own 1 z.length 0 z.length),(4,.bd 0 1 0 0),(11,.pure 2 (ai M.cS)),(12,.int .i64 M.cS.length),(13,.int .i64 c)]/\r=[.ag 326 3 [[.int .i64 f,.int .i64 0,.int .i64 V]],.ag 326 3 (ai z)])
  (λD _=>match bs D 13 with| .int _ j=>(M.cS.length-j).toNat|_=>0) ?_ ?_
 ·(refine E.iv 3 326 3 rfl (E.eW [3,4,11,12,13] ?_);simp only[go_sem])
  (refine E.bB [some 1,some 2] ?_;simp only[go_sem])
  exact i ⟨0,0,M.off,[],by omega,rfl,by simp,rfl,rfl⟩
 ·rintro D r ⟨c,f,V,z,av,ay,N,rfl,rfl⟩;have aP:=dB (c:=c) (by omega);simp only[go_sem,EI,Ho];refine cf ?_ ?_<;>intro ct<;>simp only[bC] at ct<;>simp only[go_sem,EI,Ho]
  ·have aI:c<M.cS.length:=by omega
   refine⟨by omega,by omega,?_⟩
   try simp only[aKX]
   rw[atS aI] at ay;rw[cT aI];generalize M.cS[c]=J at ay ⊢;simp only[go_sem,Hj]
   by_cases au:J.az>f
   ·rw[Rc au,<-aKT] at ay;simp only[go_sem,au];refine⟨by omega,?_⟩;simp only[go_sem,Yr,aP]
    (refine E.bB [some 0,some 1] ?_;simp only[go_sem])
    refine i ⟨⟨c+1,J.az,J.off,_,by omega,ay,by simp;omega,by simp,rfl⟩,?_⟩;simp only[go_sem];omega
   ·rw[S au,aLV] at ay;simp only[go_sem,au,aP]
    (refine E.bB [some 0,some 1] ?_;simp only[go_sem])
    refine i ⟨⟨c+1,J.az,J.off,_,by omega,ay,by omega,rfl,rfl⟩,?_⟩;simp only[go_sem];omega
  ·obtain rfl:c=M.cS.length:=by omega
   rw[aLF,ml] at ay;refine⟨by omega,?_⟩;simp only[go_sem,Yr]
   (refine E.bB [some 1] ?_;simp only[go_sem])
   rw[ay];exact i ⟨by simp[bs],rfl⟩
def tA:List pL->Int->Int
 | [],_=>120968640
 |I::bV,t=>if max I.R (t-I.off)<I.ab then max I.R (t-I.off) else tA bV t
theorem atT {l:List pL}{t:Int}{c:Nat}(h:c<l.length):tA (l.drop c) t=if max l[c].R (t-l[c].off)<l[c].ab then max l[c].R (t-l[c].off) else tA (l.drop (c+1)) t:=by
 rw[aL4 h,tA]
def uY (M:cc)(t:Int):Int:=if 120969479<t then 120968640 else tA (ml 0 M.off M.cS) (max t (-840))
theorem LA:∀{l:List lv} {f V:Int},0<=f->f<=120968640->jQ V->(∀J∈l,0<=J.az/\J.az<=120968639/\jQ J.off)-> ∀I∈ml f V l,0<=I.R/\I.R<=120968640/\0<=I.ab/\I.ab<=120968640/\jQ I.off
 | [],f,V,h0,d,bp,_,I,ao=>by
  simp only[ml,aK2] at ao;subst ao;exact⟨h0,d,by simp only;omega,by simp only;omega,bp⟩
 |J::ap,f,V,h0,d,bp,ad,I,ao=>by
  have G:=ad J aLa;rw[ml,aK3] at ao;rcases ao with ao|ao
  ·split at ao
   ·rw[aK2] at ao;subst ao;exact⟨h0,d,by simp only;omega,by simp only;omega,bp⟩
   ·simp at ao
  ·exact LA (by omega) (by omega) G.2.2 (λJ h=>ad J (aK1 _ h)) I ao
theorem Yu:∀{l:List pL} {t:Int},(∀I∈l,0<=I.R/\I.ab<=120968640)->0<=tA l t/\tA l t<=120968640
 | [],t,_=>by simp[tA]
 |I::bV,t,h=>by
  have d:=h I aLa;rw[tA];split
  ·omega
  ·exact Yu λI ao=>h I (aK1 _ ao)
theorem QE:∀{l:List lv} {f V:Int},(ml f V l).length<=l.length+1
 | [],f,V=>by simp[ml]
 |J::ap,f,V=>by
  have:=QE (l:=ap) (f:=J.az) (V:=J.off);rw[ml,aKK,aK8];split<;>simp<;>omega
theorem atU (M:cc)(ba:Lx M)(t:Int)(ht: -1000000000<=t):aO prog 284 [M.v,.int .i64 t] [] (λv rs=>v= .int .i64 (uY M t)/\rs=[]):=by
 refine cu func284 Yv (by simp[EJ,Hp]) ?_;have QF:=Ys M ba.len;have so:=LA (l:=M.cS) (f:=0) (V:=M.off) (by omega) (by omega) ba.off ba.cS;have QG:=QE (l:=M.cS) (f:=0) (V:=M.off);have Yw:=ba.len;unfold uY;unfold cc.v at QF ⊢;simp only[go_sem,EJ,Hp]
 by_cases d:t>120969479
 ·have ii:120969479<t:=d;simp only[go_sem,d,ii];exact aKG rfl ⟨rfl,rfl⟩
 have ii:¬120969479<t:=d;rw[S ii];simp only[go_sem,d]
 (refine rv (QF) ?_;rintro _ _ ⟨rfl,rfl⟩;simp only[go_sem])
 clear QF
 try rw[show Int.negSucc 839= -840 from rfl]
 generalize ml 0 M.off M.cS=l at *;obtain⟨u,bc⟩:∃u,u=max t (-840):=⟨_,rfl⟩;rw[<-bc];have Yx: -1000000000<=u/\u<=120969479:=by omega
 refine dN (λD r=> ∃c:Nat,c<=l.length/\tA l u=tA (l.drop c) u/\D=[(1,.int .i64 u),(13,.own 0 l.length 0 l.length),(14,.int .i64 l.length),(15,.int .i64 c)]/\r=[.ag 326 3 (ai l)])
  (λD _=>match bs D 15 with| .int _ j=>(l.length-j).toNat|_=>0) ?_ ?_
 ·(refine E.bB [some 1] ?_;simp only[go_sem])
  exact i ⟨0,by omega,rfl,rfl,rfl⟩
 ·rintro D r ⟨c,av,ay,rfl,rfl⟩;have aP:=dB (c:=c) (by omega);simp only[go_sem,EJ,Hp];refine cf ?_ ?_<;>intro ct<;>simp only[bC] at ct<;>simp only[go_sem,EJ,Hp]
  ·have aI:c<l.length:=by omega
   refine⟨by omega,by omega,?_⟩
   try simp only[aKX]
   rw[atT aI] at ay;have af:=so l[c] (aLc _);rw[cT aI];generalize l[c]=I at ay af ⊢;unfold jQ at af;simp only[go_sem,Yq];rw[bl (x:=u-I.off)]
   by_cases au:max I.R (u-I.off)<I.ab
   ·rw[Rc au] at ay;simp only[go_sem,au];exact aKG rfl ⟨by rw[ay],rfl⟩
   ·rw[S au] at ay;simp only[go_sem,au,aP]
    (refine E.bB [some 0] ?_;simp only[go_sem])
    refine i ⟨⟨c+1,by omega,ay,rfl,rfl⟩,?_⟩;simp only[go_sem];omega
  ·obtain rfl:c=l.length:=by omega
   refine aKG rfl ⟨?_,rfl⟩;rw[ay,aLF];rfl
theorem Yy {M:cc}(ba:Lx M)(t:Int):0<=uY M t/\uY M t<=120968640:=by
 unfold uY;split
 ·omega
 ·exact Yu λI ao=>by
   have:=LA (l:=M.cS) (f:=0) (V:=M.off) (by omega) (by omega) ba.off ba.cS I ao;omega
theorem atV (M:cc)(t:Int)(ht: -1000000000<=t):aO prog 226 [M.v,.int .i64 t] [] (λv rs=>v=(if fe M=0 then .bo [.int .i64 (uY M t),.int .i64 0] else .bo [.int .i64 0,.int .i64 (fe M)])/\rs=[]):=by
 refine cu func226 Yz (by simp[LB,QH]) ?_;have hV:=Ch M;have hF:=λh:fe M=0=>atU M (wv h) t ht;unfold cc.v at *;simp only[go_sem,LB,QH];refine bM hV rfl rfl ?_
 by_cases h:fe M=0
 ·rw[Rc h,h];simp only[go_sem,aMm];refine bM (hF h) rfl rfl ?_;simp only[go_sem];exact aKG rfl ⟨rfl,rfl⟩
 ·rw[S h];have cR: (fe M != 0)=true:=aNo.2 h;simp only[go_sem,cR];exact aKG rfl ⟨rfl,rfl⟩
def zS (t:Int):List pL->Int->Int
 | [],g=>g
 |I::bV,g=>if I.R>t then g else zS t bV (max g (min t (I.ab-1)+I.off))
theorem atW {t g:Int}{l:List pL}{c:Nat}(h:c<l.length):zS t (l.drop c) g=if l[c].R>t then g else zS t (l.drop (c+1)) (max g (min t (l[c].ab-1)+l[c].off)):=by
 rw[aL4 h,zS]
def mm (M:cc)(t:Int):Int:=min (Int.tdiv (zS t (ml 0 M.off M.cS) 0) 1440) 84005
theorem aQ1 {t:Int}:∀{l:List pL} {g:Int},g<=zS t l g
 | [],g=>aMe _
 |I::bV,g=>by
  rw[zS];split
  ·exact aMe _
  ·have:=aQ1 (t:=t) (l:=bV) (g:=max g (min t (I.ab-1)+I.off));omega
theorem aSB (M:cc)(t:Int):0<=mm M t/\mm M t<=84005:=by
 have h:=aQ1 (t:=t) (l:=ml 0 M.off M.cS) (g:=0);have G:=Int.tdiv_nonneg h (show (0:Int)<=1440 by omega);unfold mm;omega
def ot (M:cc)(t:Int):Int:=if fe M≠0 then fe M else if t<0\/120968639<t then 2 else 0
theorem YA (M:cc)(t:Int):aO prog 125 [M.v,.int .i64 t] [] (λv rs=>v= .bo [.int .i64 (if ot M t=0 then mm M t else 0),.int .i64 (ot M t)]/\rs=[]):=by
 refine cu func125 YB (by simp[EK,Hq]) ?_;have hV:=Ch M;have du:=λh:fe M=0=>Ys M (wv h).len;have cU:=λh:fe M=0=>LA (l:=M.cS) (f:=0) (V:=M.off) (by omega) (by omega) (wv h).off (wv h).cS;have hL:=λh:fe M=0=>(wv h).len;have QG:=QE (l:=M.cS) (f:=0) (V:=M.off);unfold cc.v at *;simp only[go_sem,EK,Hq];refine bM hV rfl rfl ?_
 by_cases h:fe M=0
 rotate_left
 ·have cR: (fe M != 0)=true:=aNo.2 h;have e:ot M t=fe M:=by unfold ot;rw[Rc h]
  rw[e,S h];simp only[go_sem,cR];exact aKG rfl ⟨rfl,rfl⟩
 replace du:=du h
 replace cU:=cU h
 replace hL:=hL h
 rw[h];simp only[go_sem,aMm]
 by_cases d:t<0
 ·simp only[go_sem,d];have e:ot M t=2:=by unfold ot;rw[S (λhh=>hh h),Rc (.inl d)]
  rw[e];exact aKG rfl ⟨rfl,rfl⟩
 by_cases G:120968639<t
 ·have px:t>120968639:=G;simp only[go_sem,d,G,px];have e:ot M t=2:=by unfold ot;rw[S (λhh=>hh h),Rc (.inr G)]
  rw[e];exact aKG rfl ⟨rfl,rfl⟩
 have px:¬t>120968639:=G;have e:ot M t=0:=by unfold ot;rw[S (λhh=>hh h),S (by omega)]
 rw[e,Rc rfl];unfold mm;simp only[go_sem,d,G,px]
 (refine rv (du) ?_;rintro _ _ ⟨rfl,rfl⟩;simp only[go_sem])
 clear du hV;generalize ml 0 M.off M.cS=l at *;refine dN (λD r=> ∃(c:Nat) (g:Int),c<=l.length/\0<=g/\g<=200000000/\zS t l 0=zS t (l.drop c) g/\D=[(1,.int .i64 t),(7,.int .i64 g),(22,.own 0 l.length 0 l.length),(23,.int .i64 l.length),(24,.int .i64 c)]/\r=[.ag 326 3 (ai l)])
  (λD _=>match bs D 24 with| .int _ j=>(l.length-j).toNat|_=>0) ?_ ?_
 ·(refine E.bB [some 1] ?_;simp only[go_sem])
  exact i ⟨0,0,by omega,by omega,by omega,rfl,rfl,rfl⟩
 ·rintro D r ⟨c,g,av,wm,dI,ay,rfl,rfl⟩;have aP:=dB (c:=c) (by omega);simp only[go_sem,EK,Hq];refine cf ?_ ?_<;>intro ct<;>simp only[bC] at ct<;>simp only[go_sem,EK,Hq]
  ·have aI:c<l.length:=by omega
   refine⟨by omega,by omega,?_⟩
   try simp only[aKX]
   rw[atW aI] at ay;have af:=cU l[c] (aLc _);rw[cT aI];generalize l[c]=I at ay af ⊢;unfold jQ at af;have ww:∀g:Int,0<=g->g<=400000000->IntKind.i64.wrap (g.tdiv 1440)=g.tdiv 1440:=λg h0 d=>by
    rw[aMn h0];exact bl
   simp only[go_sem,Yq]
   by_cases au:I.R>t
   ·have yg:t<I.R:=au;rw[Rc au] at ay;simp only[go_sem,yg];refine⟨by omega,?_⟩;rw[ww g wm (by omega)];exact aKG rfl ⟨by rw[ay],rfl⟩
   ·have yg:¬t<I.R:=au;rw[S au] at ay;rw[aLh yg];simp only[go_sem];rw[bl (x:=I.ab-1),bl (x:=min t (I.ab-1)+I.off),aP]
    (refine E.bB [some 0] ?_;simp only[go_sem])
    refine i ⟨⟨c+1,max g (min t (I.ab-1)+I.off),by omega,by omega,by omega,ay,rfl,rfl⟩,?_⟩;simp only[go_sem];omega
  ·obtain rfl:c=l.length:=by omega
   refine⟨by omega,?_⟩;have ww:IntKind.i64.wrap (g.tdiv 1440)=g.tdiv 1440:=by
    rw[aMn wm];exact bl
   rw[ww];rw[aLF,zS] at ay;exact aKG rfl ⟨by rw[ay],rfl⟩
structure sr where
 R:Int
 ab:Int
instance:aJ sr:=⟨λa=> [.int .i64 a.R,.int .i64 a.ab],2,λ_=>rfl,λ_=>rfl,λ_=>rfl⟩
theorem zT (e:sr):aJ.J e=[.int .i64 e.R,.int .i64 e.ab]:=rfl
theorem auf:aJ.U sr=2:=rfl
theorem aug (e:sr):List.take 2 (aJ.J e)=aJ.J e:=rfl
attribute [go_sem] auf aug
theorem auh {bj:Type}[aJ bj]{l:List bj}{k:Nat}{u:bj}(h:l[k]? =some u): (ai l).getD k []=aJ.J u:=by
 rw[aLn];unfold ai;rw[aLG,h];rfl
def yh (I:cw):Prop:=(0<=I.ah/\I.ah<=84005)/\(0<=I.bw/\I.bw<1440)/\1<=I.cN/\I.cN<=1440
instance (I:cw):Decidable (yh I):=inferInstanceAs (Decidable ((0<=I.ah/\I.ah<=84005)/\(0<=I.bw/\I.bw<1440)/\1<=I.cN/\I.cN<=1440))
def qB (M:cc)(I:cw):Int:=uY M (I.ah*1440+I.bw)
def ew (M:cc)(I:cw):Int:=if fe M=0 then if yh I then if qB M I+I.cN>120968640 then 2 else 0 else 2 else fe M
def fW (M:cc)(I:cw):sr:=if ew M I=0 then ⟨qB M I,qB M I+I.cN⟩ else ⟨0,0⟩
theorem YH (M:cc)(I:cw):aO prog 155 [M.v,.agg (aJ.J I)] [] (λv rs=>v= .bo [.agg (aJ.J (fW M I)),.int .i64 (ew M I)]/\rs=[]):=by
 have hV:=Ch M;refine cu func155 YI (by simp[zU,Cj]) ?_;have hF:=λh: -1000000000<=I.ah*1440+I.bw=>atV M (I.ah*1440+I.bw) h
 by_cases h:fe M=0
 rotate_left
 ·have e:ew M I=fe M:=by unfold ew;rw[S h]
  have bK:fW M I=⟨0,0⟩:=by unfold fW;rw[e,S h]
  have cR: (fe M != 0)=true:=aNo.2 h;rw[e,bK];unfold cc.v at *;simp only[go_sem,zU,Cj,uZ,zT];refine bM hV rfl rfl ?_;simp only[go_sem,cR];exact aKG rfl ⟨rfl,rfl⟩
 by_cases ao:yh I
 rotate_left
 ·have e:ew M I=2:=by unfold ew;rw[Rc h,S ao]
  have bK:fW M I=⟨0,0⟩:=by unfold fW;rw[e,S (by decide)]
  rw[e,bK];unfold cc.v at *;rw[h] at hV;unfold yh at ao;simp only[go_sem,zU,Cj,uZ,zT];refine bM hV rfl rfl ?_;simp only[go_sem,aMm];clear hF hV e bK
  repeat' ((first|refine gv ?_ ?_|refine gw ?_ ?_|refine cf ?_ ?_|refine dj ?_ ?_)<;>intro aw<;>(have ak:=aw;try simp only[bC] at ak)<;>(first|omega| (simp only[go_sem,aw,zU,Cj];clear aw)))
  all_goals exact aKG rfl ⟨rfl,rfl⟩
 have af:=Yy (wv h) (I.ah*1440+I.bw);have xC:=ao;unfold yh at xC
 replace hF:=hF (by omega)
 rw[Rc h] at hF;have aLA:decide (I.ah<0)=false:=aK7;have ky:decide (84005<I.ah)=false:=aK7;have vZ:decide (I.bw<0)=false:=aK7;have zC:decide (1440<=I.bw)=false:=aK7;have Hw:decide (I.cN<1)=false:=aK7;have Hx:decide (1440<I.cN)=false:=aK7;have dn:IntKind.i64.wrap (I.ah*1440)=I.ah*1440:=bl;have gI:IntKind.i64.wrap (I.ah*1440+I.bw)=I.ah*1440+I.bw:=bl;have ik:IntKind.i64.wrap (qB M I+I.cN)=qB M I+I.cN:=by unfold qB;exact bl
 by_cases ad:qB M I+I.cN>120968640
 ·have e:ew M I=2:=by unfold ew;rw[Rc h,Rc ao,Rc ad]
  have bK:fW M I=⟨0,0⟩:=by unfold fW;rw[e,S (by decide)]
  have kS:120968640<qB M I+I.cN:=ad;rw[e,bK];unfold cc.v at *;rw[h] at hV;simp only[go_sem,zU,Cj,uZ,zT];refine bM hV rfl rfl ?_;simp only[go_sem,aMm,aLA,ky,vZ,zC,Hw,Hx,dn,gI];refine bM hF rfl rfl ?_;rw[show uY M (I.ah*1440+I.bw)=qB M I from rfl];simp only[go_sem,ik,kS];exact aKG rfl ⟨rfl,rfl⟩
 ·have e:ew M I=0:=by unfold ew;rw[Rc h,Rc ao,S ad]
  have bK:fW M I=⟨qB M I,qB M I+I.cN⟩:=by unfold fW;rw[Rc e]
  have kS:decide (120968640<qB M I+I.cN)=false:=aLh ad;rw[e,bK];unfold cc.v at *;rw[h] at hV;simp only[go_sem,zU,Cj,uZ,zT];refine bM hV rfl rfl ?_;simp only[go_sem,aMm,aLA,ky,vZ,zC,Hw,Hx,dn,gI];refine bM hF rfl rfl ?_;rw[show uY M (I.ah*1440+I.bw)=qB M I from rfl];simp only[go_sem,ik,kS,aMm];exact aKG rfl ⟨rfl,rfl⟩
def ou (M:cc):Int->List cw->Int
 |_,[]=>0
 |e,I::bV=>if ew M I=0 then if (fW M I).R<e then 1 else ou M (fW M I).ab bV else ew M I
def jd (M:cc)(ae:List cw):Int:=if 1024<ae.length then 3 else if fe M=0 then ou M 0 ae else fe M
theorem aui {M:cc}{e:Int}{l:List cw}{c:Nat}(h:c<l.length):ou M e (l.drop c)=if ew M l[c]=0 then if (fW M l[c]).R<e then 1 else ou M (fW M l[c]).ab (l.drop (c+1)) else ew M l[c]:=by
 rw[aL4 h,ou]
theorem QN {M:cc}{I:cw}(h:ew M I=0):0<=(fW M I).R/\(fW M I).R<(fW M I).ab/\(fW M I).ab<=120968640:=by
 unfold fW;rw[Rc h];unfold ew at h
 by_cases ba:fe M=0
 rotate_left
 ·rw[S ba] at h;exact absurd h ba
 rw[Rc ba] at h
 by_cases ao:yh I
 rotate_left
 ·rw[S ao] at h;exact absurd h (by decide)
 rw[Rc ao] at h;have af:=Yy (wv ba) (I.ah*1440+I.bw);unfold yh at ao;split at h
 ·cases h
 ·unfold qB at *;simp only;omega
def zV (M:cc)(ae:List cw)(v:F)(rs:List Z):Prop:=
 if jd M ae=0 then v= .bo [.own 0 ae.length 0 ae.length,.int .i64 0]/\rs=[.ag 64 2 (ai (ae.map (fW M)))] else v= .bo [.bH,.int .i64 (jd M ae)]/\rs=[]
theorem LH (M:cc)(ae:List cw)(hl:ae.length<=9223372036854775806):aO prog 143 [M.v,.pure 3 (ai ae)] [] (zV M ae):=by
 have hV:=Ch M;have du:=YH M;refine cu func143 YJ (by simp[EP,Hy]) ?_;unfold cc.v at *;simp only[go_sem,EP,Hy,bT]
 by_cases d:1024<ae.length
 ·have ii: (1024:Int)<ae.length:=by omega
  have e:jd M ae=3:=by unfold jd;rw[Rc d]
  simp only[go_sem,ii];exact aKG rfl (by unfold zV;rw[e,S (by decide)];exact⟨rfl,rfl⟩)
 have ii:decide ((1024:Int)<ae.length)=false:=aK7;simp only[go_sem,ii];refine bM hV rfl rfl ?_
 by_cases h:fe M=0
 rotate_left
 ·have cR: (fe M != 0)=true:=aNo.2 h;have e:jd M ae=fe M:=by unfold jd;rw[S d,S h]
  simp only[go_sem,cR];exact aKG rfl (by unfold zV;rw[e,S h];exact⟨rfl,rfl⟩)
 have e:jd M ae=ou M 0 ae:=by unfold jd;rw[S d,Rc h]
 rw[h];simp only[go_sem,aMm];refine dN (λD r=> ∃(c:Nat) (e:Int),c<=ae.length/\(c=0->e=0)/\(∀k,c=k+1->((ae.take c).map (fW M))[k]?.map sr.ab=some e)/\ou M 0 ae=ou M e (ae.drop c)/\D=[(2,.bd 0 1 0 0),(7,.own 1 c 0 c),(20,.pure 3 (ai ae)),(21,.int .i64 ae.length),(22,.int .i64 c)]/\r=[.ag 32 2 [[.int .i64 M.off,.pure 2 (ai M.cS)]],.ag 64 2 (ai ((ae.take c).map (fW M)))])
  (λD _=>match bs D 22 with| .int _ j=>(ae.length-j).toNat|_=>0) ?_ ?_
 ·(refine E.iv 7 64 2 rfl (E.eW [2,7,20,21,22] ?_);simp only[go_sem])
  exact i ⟨0,0,by omega,λ_=>rfl,λk O=>by omega,rfl,rfl,rfl⟩
 rintro D r ⟨c,x,av,auj,QO,ay,rfl,rfl⟩;have aP:=dB (c:=c) (by omega);have hL: (ai ((ae.take c).map (fW M))).length=c:=by rw[bT,aLe,aLd];omega
 by_cases aI:c<ae.length
 rotate_left
 ·have d:decide ((c:Int)<ae.length)=false:=aK7;obtain rfl:c=ae.length:=by omega
  simp only[go_sem,EP,Hy,d]
  (refine E.bB [some 1] ?_;simp only[go_sem])
  rw[aLF,ou] at ay;refine i ?_;unfold xP zV;rw[e,Rc ay];try rw[aLb]
  exact⟨rfl,rfl⟩
 have d:decide ((c:Int)<ae.length)=true:=aLv;have z0: (0:Int)<=c:=by omega
 have mn: (c:Int)<ae.length:=by omega
 have aw: (ai ae).getD c []=aJ.J ae[c]:=cT aI;rw[aui aI] at ay;have qC:ai ((ae.take c).map (fW M))++[aJ.J (fW M ae[c])]=ai ((ae.take (c+1)).map (fW M)):=by
  rw[kT,aLz aI,aLU];rfl
 have YK: ((ae.take (c+1)).map (fW M))[c]? =some (fW M ae[c]):=by
  rw[aLG,aMO,Rc (by omega),aKS aI];rfl
 have YL:=du ae[c];have so:=QN (M:=M) (I:=ae[c]);generalize qs:ae[c]=I at *;generalize aJD:fW M I=v at *;rw[zT] at qC YL;simp only[go_sem,EP,Hy,d,z0,mn,aw,bT,uZ];refine bM YL rfl rfl ?_
 by_cases he:ew M I=0
 rotate_left
 ·have cR: (ew M I != 0)=true:=aNo.2 he;rw[S he] at ay;simp only[go_sem,cR];refine aKG rfl ?_;unfold zV;rw[e,ay,S he];exact⟨rfl,rfl⟩
 rw[Rc he] at ay;rw[he];simp only[go_sem,aMm];cases c with
 |zero=>
  obtain rfl:x=0:=auj rfl;rw[S (by have:=so he;omega)] at ay;have ak:decide ((0:Int)<((0:Nat):Int))=false:=rfl;have auk:ai ([]:List sr)++[[.int .i64 v.R,.int .i64 v.ab]]=ai ((ae.take (0+1)).map (fW M)):=qC;have aul:IntKind.i64.wrap (0+1)=((0+1:Nat):Int):=aP;simp only[go_sem,ak,hL,auk,aul]
  (refine E.bB [some 0,some 1] ?_;simp only[go_sem])
  refine i ⟨⟨0+1,v.ab,by omega,λh=>by omega,λk O=> ?_,ay,rfl,?_⟩,?_⟩
  ·obtain rfl:k=0:=by omega
   rw[YK];rfl
  ·rfl
  ·simp only[go_sem];omega
 |succ k=>
  have ak:decide ((0:Int)<((k+1:Nat):Int))=true:=aLv;have dn:IntKind.i64.wrap (((k+1:Nat):Int)-1)=(k:Int):=by rw[bl];omega
  obtain⟨u,bc,rfl⟩:∃u,((ae.take (k+1)).map (fW M))[k]? =some u/\u.ab=x:=by
   have h:=QO k rfl;rw[Option.map_eq_some_iff] at h;exact h
  have aum:=auh bc;simp only[go_sem,ak,hL,dn];refine⟨by omega,by omega,?_⟩;simp only[go_sem,aum,zT]
  by_cases ad:v.R<u.ab
  ·rw[Rc ad] at ay;simp only[go_sem,ad];refine aKG rfl ?_;unfold zV;rw[e,ay,S (by decide)];exact⟨rfl,rfl⟩
  ·rw[S ad] at ay;have kS:decide (v.R<u.ab)=false:=aLh ad;simp only[go_sem,kS,hL,qC,aP];refine⟨by omega,?_⟩
   (refine E.bB [some 0,some 1] ?_;simp only[go_sem])
   refine i ⟨⟨k+1+1,v.ab,by omega,λh=>by omega,λq aV=> ?_,ay,rfl,rfl⟩,?_⟩
   ·obtain rfl:q=k+1:=by omega
    rw[YK];rfl
   ·simp only[go_sem];omega
theorem YM {M:cc}{ae:List cw}(h:jd M ae=0):ae.length<=1024:=by
 unfold jd at h;split at h
 ·cases h
 ·omega
theorem aun {M:cc}{ae:List cw}(h:jd M ae=0):fe M=0:=by
 unfold jd at h;split at h
 ·cases h
 split at h
 ·assumption
 ·rename_i G;exact absurd h G
theorem YN {M:cc}:∀{l:List cw} {e:Int},ou M e l=0-> ∀I∈l,ew M I=0
 | [],_,_,I,ao=>by simp at ao
 |x::l,e,h,I,ao=>by
  rw[ou] at h
  by_cases aj:ew M x=0
  ·rw[Rc aj] at h;split at h
   ·cases h
   ·rcases aKV.1 ao with rfl|ao
    ·exact aj
    ·exact YN h I ao
  ·rw[S aj] at h;exact absurd h aj
theorem QP {M:cc}{ae:List cw}(h:jd M ae=0):∀I∈ae,ew M I=0:=by
 unfold jd at h;split at h
 ·cases h
 split at h
 ·exact YN h
 ·rename_i G;exact absurd h G
theorem auo (M:cc)(ae:List cw)(hl:ae.length<=9223372036854775806):aO prog 66 [M.v,.pure 3 (ai ae)] [] (λv rs=>v= .int .i64 (jd M ae)/\rs=[]):=by
 have du:=LH M ae hl;refine cu func66 YO (by simp[a66,QQ]) ?_;unfold cc.v at *;simp only[go_sem,a66,QQ];refine om [] [] (by simp) rfl (qw _ (by first|rfl|simp only[go_sem,ck])) du ?_;rintro v rs aV;unfold zV at aV;refine⟨.inl rfl,?_⟩
 by_cases h:jd M ae=0
 ·rw[Rc h] at aV;obtain⟨rfl,rfl⟩:=aV;simp only[go_sem];rw[h];exact aKG rfl ⟨rfl,rfl⟩
 ·rw[S h] at aV;obtain⟨rfl,rfl⟩:=aV;simp only[go_sem];exact aKG rfl ⟨rfl,rfl⟩
def tB (b e l:Int):Nat->List sr->Int×Int->Int×Int
 |_,[],a=>a
 |c,v::vs,a=>tB b e l (c+1) vs (if ((-e<=b-v.R/\b-v.R<=l)\/(0<=b-v.R/\b<v.ab))/\(a.1<0\/max (b-v.R) (-(b-v.R))<a.2) then ((c:Int),max (b-v.R) (-(b-v.R))) else a)
theorem aup {b e l:Int}{vs:List sr}{c:Nat}{a:Int×Int}(h:c<vs.length):tB b e l c (vs.drop c) a=tB b e l (c+1) (vs.drop (c+1)) (if ((-e<=b-vs[c].R/\b-vs[c].R<=l)\/(0<=b-vs[c].R/\b<vs[c].ab))/\(a.1<0\/max (b-vs[c].R) (-(b-vs[c].R))<a.2) then ((c:Int),max (b-vs[c].R) (-(b-vs[c].R))) else a):=by
 rw[aL4 h,tB]
theorem QR {b e l:Int}:∀{vs:List sr} {c:Nat} {a:Int×Int},-1<=a.1->a.1<c-> -1<=(tB b e l c vs a).1/\(tB b e l c vs a).1<c+vs.length
 | [],c,a,h0,d=>by rw[tB];simp;omega
 |v::vs,c,a,h0,d=>by
  rw[tB,aK8];split
  ·have:=QR (b:=b) (e:=e) (l:=l) (vs:=vs) (c:=c+1) (a:=((c:Int),max (b-v.R) (-(b-v.R)))) (by simp only;omega) (by simp only;omega);omega
  ·have:=QR (b:=b) (e:=e) (l:=l) (vs:=vs) (c:=c+1) (a:=a) h0 (by omega);omega
def bel (b e l:Int)(vs:List sr):Int:=(tB b e l 0 vs (-1,0)).1
theorem YP (b e l:Int)(vs:List sr): -1<=bel b e l vs/\bel b e l vs<vs.length:=by
 have:=QR (b:=b) (e:=e) (l:=l) (vs:=vs) (c:=0) (a:=(-1,0)) (by decide) (by decide);unfold bel;omega
theorem auq (vs:List sr)(hl:vs.length<=1024)(an:∀v∈vs,0<=v.R/\v.R<=120968640)(b e l:Int)(af:0<=b/\b<=120968640)(he:0<=e/\e<=1440):aO prog 153 [.pure 2 (ai vs),.int .i64 b,.int .i64 e,.int .i64 l] [] (λv rs=>v= .int .i64 (bel b e l vs)/\rs=[]):=by
 refine cu func153 YQ (by simp[EQ,Hz]) ?_;simp only[go_sem,EQ,Hz,bT]
 try rw[show Int.negSucc 0= -1 from rfl]
 refine dN (λD r=> ∃(c:Nat) (a0 cH:Int),c<=vs.length/\ -1<=a0/\a0<c/\tB b e l 0 vs (-1,0)=tB b e l c (vs.drop c) (a0,cH)/\D=[(1,.int .i64 b),(2,.int .i64 e),(3,.int .i64 l),(9,.int .i64 a0),(10,.int .i64 cH),(16,.pure 2 (ai vs)),(17,.int .i64 vs.length),(18,.int .i64 c)]/\r=[])
  (λD _=>match bs D 18 with| .int _ j=>(vs.length-j).toNat|_=>0) ?_ ?_
 ·exact i ⟨0,-1,0,by omega,by omega,by omega,rfl,rfl,rfl⟩
 rintro D r ⟨c,a0,cH,av,YR,BT,ay,rfl,rfl⟩;have aP:=dB (c:=c) (by omega)
 by_cases aI:c<vs.length
 rotate_left
 ·have d:decide ((c:Int)<vs.length)=false:=aK7;obtain rfl:c=vs.length:=by omega
  simp only[go_sem,EQ,Hz,d];rw[aLF,tB] at ay;exact aKG rfl ⟨by unfold bel;rw[ay],rfl⟩
 have d:decide ((c:Int)<vs.length)=true:=aLv;have z0: (0:Int)<=c:=by omega
 have mn: (c:Int)<vs.length:=by omega
 have aw: (ai vs).getD c []=aJ.J vs[c]:=cT aI;rw[aup aI] at ay;have LI:=an vs[c] (aLc aI);generalize vs[c]=v at *;obtain⟨aD,fC⟩:∃aD,aD=b-v.R:=⟨_,rfl⟩;rw[<-fC] at ay;have dn:IntKind.i64.wrap (b-v.R)=aD:=by rw[bl,fC]
 have gI:IntKind.i64.wrap (0-e)= -e:=by rw[bl];omega
 have ik:IntKind.i64.wrap (0-aD)= -aD:=by rw[bl];omega
 simp only[go_sem,EQ,Hz,d,z0,mn,aw,bT,zT,dn,gI,ik]
 by_cases c1: (-e<=aD/\aD<=l)\/(0<=aD/\b<v.ab)
 ·by_cases c2:a0<0\/max aD (-aD)<cH
  ·rw[Rc ⟨c1,c2⟩] at ay
   repeat' ((first|refine gv ?_ ?_|refine gw ?_ ?_|refine cf ?_ ?_|refine dj ?_ ?_)<;>intro aw<;>(have ak:=aw;try simp only[bC] at ak)<;>(first|omega| (simp only[go_sem,aw,aP,dn,gI,ik];clear aw)))
   all_goals ((refine E.bB [] ?_;simp only[go_sem]);refine i ⟨⟨c+1,c,max aD (-aD),by omega,by omega,by omega,ay,rfl,rfl⟩,?_⟩;simp only[go_sem];omega)
  ·rw[S (λh=>c2 h.2)] at ay
   repeat' ((first|refine gv ?_ ?_|refine gw ?_ ?_|refine cf ?_ ?_|refine dj ?_ ?_)<;>intro aw<;>(have ak:=aw;try simp only[bC] at ak)<;>(first|omega| (simp only[go_sem,aw,aP,dn,gI,ik];clear aw)))
   all_goals ((refine E.bB [] ?_;simp only[go_sem]);refine i ⟨⟨c+1,a0,cH,by omega,by omega,by omega,ay,rfl,rfl⟩,?_⟩;simp only[go_sem];omega)
 ·rw[S (λh=>c1 h.1)] at ay
  repeat' ((first|refine gv ?_ ?_|refine gw ?_ ?_|refine cf ?_ ?_|refine dj ?_ ?_)<;>intro aw<;>(have ak:=aw;try simp only[bC] at ak)<;>(first|omega| (simp only[go_sem,aw,aP,dn,gI,ik];clear aw)))
  all_goals ((refine E.bB [] ?_;simp only[go_sem]);refine i ⟨⟨c+1,a0,cH,by omega,by omega,by omega,ay,rfl,rfl⟩,?_⟩;simp only[go_sem];omega)
structure eX where
 bP:Int
 ah:Int
 aa:List Pr.dF
instance:aJ eX:=⟨λa=> [.int .i64 a.bP,.int .i64 a.ah,.pure 3 (ai a.aa)],3,λ_=>rfl,λa=>by simp only[bU,bJ,ck,aK4,aK0,aLw],λ_=>rfl⟩
theorem Ri (e:eX):aJ.J e=[.int .i64 e.bP,.int .i64 e.ah,.pure 3 (ai e.aa)]:=rfl
theorem avQ:aJ.U eX=3:=rfl
theorem avR (e:eX):List.take 3 (aJ.J e)=aJ.J e:=rfl
attribute [go_sem] avQ avR
def HY (a b:Int)(B:eX):Bool:=decide (B.bP=a/\B.ah=b)
def cM (a b:Int):List eX->Nat
 | []=>0
 |B::t=>if HY a b B then 0 else cM a b t+1
theorem RA (a b:Int):∀ds:List eX,cM a b ds<=ds.length
 | []=>aKM _
 |B::t=>by
  have:=RA a b t;unfold cM;split
  ·omega
  ·rw[aK8];omega
def fI (a b:Int)(p:Pr.dF):List eX->List eX
 | []=> [⟨a,b,[p]⟩]
 |B::t=>if HY a b B then ⟨B.bP,B.ah,B.aa++[p]⟩::t else B::fI a b p t
theorem E2 {a b:Int}{p:Pr.dF}:∀{ds:List eX},cM a b ds=ds.length->fI a b p ds=ds++[⟨a,b,[p]⟩]
 | [],_=>rfl
 |B::t,h=>by
  unfold cM at h;unfold fI;split at h
  ·simp at h
  ·rename_i ay;rw[S ay,E2 (by simpa using h)];rfl
theorem vc {a b:Int}{p:Pr.dF}:∀{ds:List eX} (h:cM a b ds<ds.length),fI a b p ds=ds.set (cM a b ds) ⟨ds[cM a b ds].bP,ds[cM a b ds].ah,ds[cM a b ds].aa++[p]⟩
 |B::t,h=>by
  by_cases ay:HY a b B
  ·have e:cM a b (B::t)=0:=by unfold cM;rw[Rc ay]
   unfold fI;rw[Rc ay];simp only[e,aO0,List.getElem_cons_zero]
  ·have e:cM a b (B::t)=cM a b t+1:=by rw[cM,S ay]
   have cR:cM a b t<t.length:=by rw[e] at h;simpa using h
   unfold fI;rw[S ay,vc cR];simp only[e,aOk,aQe]
def fZ:Nat->List eX->List (F×F)
 |_,[]=> []
 |c,B::t=>(.agg [.int .i64 B.bP,.int .i64 B.ah],.int .i64 (c:Int))::fZ (c+1) t
theorem ZH (a b J B:Int):fB (.agg [.int .i64 a,.int .i64 b]) (.agg [.int .i64 J,.int .i64 B])=decide (J=a/\B=b):=by
 simp only[fB,cp,ed,aK0];rw[aL0];simp only[aKJ,aLu,aKN];constructor<;>rintro⟨d,G⟩<;>exact⟨d.symm,G.symm⟩
theorem HZ {a b:Int}:∀{ds:List eX} {c:Nat},dm (.agg [.int .i64 a,.int .i64 b]) (fZ c ds)=if cM a b ds<ds.length then some (.int .i64 ((c+cM a b ds:Nat):Int)) else none
 | [],c=>by simp[fZ,dm,cM]
 |B::t,c=>by
  have ih:=HZ (a:=a) (b:=b) (ds:=t) (c:=c+1);rw[fZ,dm,ZH,cM];unfold HY
  by_cases ay:B.bP=a/\B.ah=b
  ·simp[ay]
  ·simp only[ay,aQf,aLK,aLi,ih,aK8,Nat.add_lt_add_iff_right];split
   ·congr 3;omega
   ·rfl
theorem ZI {a b:Int}{v:F}:∀{ds:List eX} {c:Nat},cM a b ds=ds.length->dy (.agg [.int .i64 a,.int .i64 b]) v (fZ c ds)=fZ c ds++[(.agg [.int .i64 a,.int .i64 b],v)]
 | [],c,_=>rfl
 |B::t,c,h=>by
  unfold cM at h;split at h
  ·simp at h
  ·rename_i ay;have ih:=ZI (a:=a) (b:=b) (v:=v) (ds:=t) (c:=c+1) (by simpa using h);rw[fZ,dy,ZH,ih];unfold HY at ay;simp only[aKN] at ay;simp[ay]
theorem ZJ {B:eX}:∀{ds:List eX} {c:Nat},fZ c (ds++[B])=fZ c ds++[(.agg [.int .i64 B.bP,.int .i64 B.ah],.int .i64 ((c+ds.length:Nat):Int))]
 | [],c=>rfl
 |x::t,c=>by
  rw[aLx,fZ,ZJ,fZ,aLx,aK8,show c+1+t.length=c+(t.length+1) by omega]
theorem ZK:∀{ds ar:List eX} {c:Nat},ds.map (λB=>(B.bP,B.ah))=ar.map (λB=>(B.bP,B.ah))->fZ c ds=fZ c ar
 | [],[],_,_=>rfl
 | [],_::_,_,h=>by simp at h
 |_::_,[],_,h=>by simp at h
 |B::ds,e::ar,c,h=>by
  simp only[aKP,aO4,aLH] at h;rw[fZ,fZ,ZK h.2,h.1.1,h.1.2]
theorem avS {a b:Int}{p:Pr.dF}{ds:List eX}(c:Nat)(h:cM a b ds<ds.length):fZ c (fI a b p ds)=fZ c ds:=by
 refine ZK ?_;rw[vc h,aO2];refine aPd (by simp) λj d G=> ?_;rw[aPe];split
 ·rename_i e;subst e;simp
 ·rfl
theorem avT {a b:Int}{p:Pr.dF}{ds:List eX}(c:Nat)(h:cM a b ds=ds.length):fZ c (fI a b p ds)=dy (.agg [.int .i64 a,.int .i64 b]) (.int .i64 ((c+ds.length:Nat):Int)) (fZ c ds):=by
 rw[E2 h,ZJ,ZI h]
theorem ZL {n:Nat}:∀{ds:List eX} {c:Nat},nG n (fZ c ds)=true
 | [],_=>rfl
 |B::t,c=>by
  show (dt n (.agg [.int .i64 B.bP,.int .i64 B.ah])&&dt n (.int .i64 (c:Int))&&nG n (fZ (c+1) t))=true;rw[ZL];rfl
def qG (X:Nat->Nat)(c:Nat)(B:eX):List F:=[.int .i64 B.bP,.int .i64 B.ah,.own (X c) B.aa.length 0 B.aa.length]
def gq (X:Nat->Nat)(ds:List eX):List (List F):=ds.mapIdx (qG X)
theorem kC {X:Nat->Nat}{ds:List eX}: (gq X ds).length=ds.length:=by simp[gq]
theorem L6 {X:Nat->Nat}{ds:List eX}{c:Nat}(h:c<ds.length): (gq X ds)[c]? =some (qG X c ds[c]):=by simp[gq,h]
theorem L8 {n:Nat}{X:Nat->Nat}{ds:List eX}(h:∀c,c<ds.length->X c<n):mj n (gq X ds)=true:=by
 have:∀el:List (List F),(∀J∈el,gx n J=true)->mj n el=true:=by
  intro el
  induction el with
  |nil=>intro _;rfl
  |cons J el ih=>
   intro h;rw[mj,h J aLa,ih λx aj=>h x (aK1 _ aj)];rfl
 refine this _ λJ ad=> ?_;obtain⟨c,av,rfl⟩:=aL9 ad;rw[kC] at av;have:=L6 (X:=X) av;rw[aKS (by rw[kC];exact av)] at this;rw[aMY this];unfold qG;simp only[gx,dt,aK0,aLw,aKN];exact h c av
structure Cs (r:List Z) (M:cc) (ds:List eX) (X:Nat->Nat):Prop where
 all:jP r
 M:r[0]? =some (.ag 32 2 [[.int .i64 M.off,.pure 2 (ai M.cS)]])
 m:r[1]? =some (.be (.map true [.int .i64,.int .i64] (fZ 0 ds)))
 B:r[2]? =some (.ag 157 3 (gq X ds))
 x:∀c (h:c<ds.length),r[X c]? =some (.ag 88 3 (ai ds[c].aa))
 inj:∀c j,c<ds.length->j<ds.length->X c=X j->c=j
theorem RB {X:Nat->Nat}{ds:List eX}{k:Nat}{B:eX}:gq X (ds.set k B)=(gq X ds).set k (qG X k B):=by
 unfold gq;refine aPd (by simp) λj d G=> ?_;rw[aPf,aPe,aPe];split
 ·rename_i e;subst e;rfl
 ·rw[aPf]
theorem RD {X:Nat->Nat}{ds:List eX}{B:eX}:gq X (ds++[B])=gq X ds++[qG X ds.length B]:=by unfold gq;rw[List.mapIdx_append];simp
theorem RE {X ly:Nat->Nat}{ds:List eX}(h:∀c,c<ds.length->X c=ly c):gq X ds=gq ly ds:=by
 unfold gq;refine aPd (by simp) λj d G=> ?_;rw[aPf,aPf];unfold qG;rw[h j (by simpa using d)]
theorem sA {r:List Z}{M:cc}{ds:List eX}{X:Nat->Nat}(h:Cs r M ds X){c:Nat}(av:c<ds.length):X c≠0/\X c≠1/\X c≠2/\X c<r.length:=by
 have aj:=h.x c av;refine⟨λe=> ?_,λe=> ?_,λe=> ?_,km aj⟩
 ·rw[e,h.M] at aj;simp at aj
 ·rw[e,h.m] at aj;cases aj
 ·rw[e,h.B] at aj;simp at aj
theorem ZM {r W:List Z}{M:cc}{ds:List eX}{X:Nat->Nat}(h:Cs r M ds X){a b:Int}{p:Pr.dF}(ak:cM a b ds<ds.length)(hW:jP W)
 (bp:∀z bG,r[z]? =some bG->z≠2->z≠X (cM a b ds)->W[z]? =some bG)
 (G:W[2]? =some (.ag 157 3 ((gq X ds).set (cM a b ds) (qG X (cM a b ds) ⟨ds[cM a b ds].bP,ds[cM a b ds].ah,ds[cM a b ds].aa++[p]⟩))))
 (aV:W[X (cM a b ds)]? =some (.ag 88 3 (ai (ds[cM a b ds].aa++[p])))):Cs W M (fI a b p ds) X:=by
 obtain⟨bb,aMq,eo,_⟩:=sA h ak;have hl: (fI a b p ds).length=ds.length:=by rw[vc ak,aLg]
 refine⟨hW,bp _ _ h.M (by omega) (λe=>bb e.symm),?_,by rw[vc ak,RB];exact G,λc av=> ?_,λc j av hj=>h.inj c j (by omega) (by omega)⟩
 ·rw[avS 0 ak];exact bp _ _ h.m (by omega) (λe=>aMq e.symm)
 ·rw[hl] at av;simp only[vc ak,aPe]
  by_cases e:cM a b ds=c
  ·subst e;rw[Rc rfl];exact aV
  ·rw[S e];exact bp _ _ (h.x c av) (sA h av).2.2.1 λbK=>e (h.inj _ _ ak av bK.symm)
theorem ZN {r W:List Z}{M:cc}{ds:List eX}{X:Nat->Nat}(h:Cs r M ds X){a b:Int}{p:Pr.dF}(ak:cM a b ds=ds.length)(q:Nat)(avU:r.length<=q)(hW:jP W)
 (bp:∀z bG,r[z]? =some bG->z≠1->z≠2->W[z]? =some bG)
 (d:W[1]? =some (.be (.map true [.int .i64,.int .i64] (dy (.agg [.int .i64 a,.int .i64 b]) (.int .i64 (ds.length:Int)) (fZ 0 ds)))))
 (G:W[2]? =some (.ag 157 3 (gq X ds++[[.int .i64 a,.int .i64 b,.own q 1 0 1]])))
 (aV:W[q]? =some (.ag 88 3 (ai [p]))):∃ly,Cs W M (fI a b p ds) ly:=by
 refine⟨λc=>if c<ds.length then X c else q,?_⟩;rw[E2 ak];refine⟨hW,bp _ _ h.M (by omega) (by omega),?_,?_,λc av=> ?_,λc j av hj=> ?_⟩
 ·rw[<-E2 ak,avT 0 ak,aL5];exact d
 ·rw[RD,G];congr 3
  ·exact RE λc av=>by rw[Rc av]
  ·unfold qG;simp
 ·rw[aKK,aL6] at av
  by_cases e:c<ds.length
  ·simp only[Rc e,List.getElem_append_left e];exact bp _ _ (h.x c e) (sA h e).2.1 (sA h e).2.2.1
  ·obtain rfl:c=ds.length:=by omega
   simp only[Nat.lt_irrefl,aLi,List.getElem_append_right (aKM _),aNe,List.getElem_cons_zero];exact aV
 ·rw[aKK,aL6] at av hj
  by_cases e:c<ds.length<;>by_cases f:j<ds.length
  ·simp only[Rc e,Rc f];exact h.inj c j e f
  ·simp only[Rc e,S f];intro g;have:=(sA h e).2.2.2;omega
  ·simp only[S e,Rc f];intro g;have:=(sA h f).2.2.2;omega
  ·intro _;omega
theorem avV {r:List Z}{M:cc}{ds:List eX}{X:Nat->Nat}(h:Cs r M ds X):lJ r [some 2] (List.range r.length) (gq X ds)=ai ds:=by
 rw[KV];unfold ai;refine aPd (by simp[gq]) λj d G=> ?_;have hj:j<ds.length:=by simpa using G
 rw[aPg,aPg];have aw:=L6 (X:=X) hj;rw[aKS (by rw[kC];exact hj)] at aw;rw[aMY aw];obtain⟨_,_,eo,hl⟩:=sA h hj;unfold qG;have af:bW r [some 2] (List.range r.length) (.own (X j) ds[j].aa.length 0 ds[j].aa.length)= .pure 3 (ai ds[j].aa):=by
  refine qx ?_ ?_ (h.x j hj) (by rw[bT]) ck
  ·simp[hE,eo.symm]
  ·simp;exact hl
 simp only[dT,af];rfl
end Go.Proofs.YtpincjkjoeopkaaGreatDoor
