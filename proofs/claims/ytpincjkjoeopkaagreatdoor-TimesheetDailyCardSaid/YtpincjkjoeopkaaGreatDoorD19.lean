/- Time evaluation. -/
import Derived.Test.YtpincjkjoeopkaaGreatDoorD18
set_option linter.all false
namespace Go.Proofs.YtpincjkjoeopkaaGreatDoor
open Go Go.Abs Go.Proofs.Tryz
structure lv where
 az:Int
 off:Int
def lv.cells (e:lv):List F:= [.int .i64 e.az,.int .i64 e.off]
instance:aJ lv:=⟨lv.cells,2,fun _=>rfl,fun _=>rfl,fun _=>rfl⟩
theorem Hj (e:lv):aJ.J e= [.int .i64 e.az,.int .i64 e.off]:=rfl
theorem atI:aJ.U lv=2:=rfl
theorem atJ (e:lv):List.take 2 (aJ.J e)=aJ.J e:=rfl
attribute [go_sem] atI atJ
theorem atK {l:List lv}{a b:Int}:ai l++ [[.int .i64 a,.int .i64 b]]=ai (l++ [⟨a,b⟩]):=kT (x:=lv.mk a b)
structure cc where
 off:Int
 cS:List lv
def cc.v (M:cc):F:= .agg [.int .i64 M.off,.pure 2 (ai M.cS)]
def jQ (V:Int):Prop:= -840≤V∧V≤840
instance (V:Int):Decidable (jQ V):=inferInstanceAs (Decidable (-840≤V∧V≤840))
def qA:Int→List lv→Int
 |_,[]=>0
 |p,J::ap=>if ¬(0≤J.az∧J.az≤120968639∧jQ J.off) then 2 else if J.az≤p then 1 else qA J.az ap
def fe (M:cc):Int:=if 64 < M.cS.length then 3 else if jQ M.off then qA (-1) M.cS else 2
theorem atL {p:Int}{l:List lv}{c:Nat}(h:c < l.length):qA p (l.drop c)=if ¬(0≤l[c].az∧l[c].az≤120968639∧jQ l[c].off) then 2 else if l[c].az≤p then 1 else qA l[c].az (l.drop (c+1)):=by
 rw[List.drop_eq_getElem_cons h,qA]
theorem Yf (V:Int):aO prog 220 [.int .i64 V] [] (fun v rs=>v= .bool (decide (jQ V))∧rs= []):=by
 refine cu func220 Yg (by simp[Hk,Lw]) ?_;simp only[go_sem,Hk,Lw]
 repeat' ((first|refine gv ?_ ?_|refine gw ?_ ?_|refine cf ?_ ?_|refine dj ?_ ?_)<;>intro aw<;>(have ak:=aw;try simp only[bC] at ak)<;>(first|omega| (simp only[go_sem,aw,Hk,Lw];clear aw)))
 all_goals ((refine E.bg rfl ⟨congrArg F.bool ?_,rfl⟩;rw[Bool.eq_iff_iff];simp only[bC,Bool.false_eq_true,false_iff,true_iff,iff_true,iff_false,and_true,true_and] at *;try simp only[jQ] at *;omega))
theorem Ch (M:cc):aO prog 141 [M.v] [] (fun v rs=>v= .int .i64 (fe M)∧rs= []):=by
 refine cu func141 Yh (by simp[EE,Hl]) ?_;unfold fe;simp only[go_sem,EE,Hl,cc.v]
 by_cases h1: (M.cS.length:Int)>64
 ·simp only[go_sem,h1];exact E.bg rfl ⟨by rw[if_pos (by omega)],rfl⟩
 simp only[go_sem,h1];rw[if_neg (by omega)];refine bM (Yf _) rfl rfl ?_
 by_cases G:jQ M.off
 rotate_left
 ·simp only[go_sem,G];exact E.bg rfl ⟨rfl,rfl⟩
 simp only[go_sem,G];refine dN (fun D r=> ∃ (c:Nat) (p:Int),c≤M.cS.length∧qA (-1) M.cS=qA p (M.cS.drop c)∧(c=0→p= -1)∧(∀ j (h:j < M.cS.length),c=j+1→p=M.cS[j].az)∧D= [(1,.bd 0 1 0 0),(14,.pure 2 (ai M.cS)),(15,.int .i64 M.cS.length),(16,.int .i64 c)]∧r= [.ag 32 2 [[.int .i64 M.off,.pure 2 (ai M.cS)]]])
  (fun D _=>match bs D 16 with| .int _ j=>(M.cS.length-j).toNat|_=>0) ?_ ?_
 ·exact E.ac ⟨0,-1,by omega,rfl,fun _=>rfl,fun j _ h=>by omega,rfl,rfl⟩
 ·rintro D r ⟨c,p,av,ay,Bx,iK,rfl,rfl⟩;have aP:=dB (c:=c) (by omega);simp only[go_sem,EE,Hl];refine cf ?_ ?_<;>intro ct<;>simp only[bC] at ct<;>simp only[go_sem,EE,Hl]
  ·have aI:c < M.cS.length:=by omega
   refine⟨by omega,by omega,?_⟩
   try simp only[Int.toNat_natCast]
   rw[atL aI] at ay;have dV: ∀ j (h:j < M.cS.length),c+1=j+1→M.cS[c].az=M.cS[j].az:=by intro j h aX;obtain rfl:c=j:=(by omega);rfl
   rw[cT aI];generalize M.cS[c]=J at ay dV ⊢;simp only[go_sem,Hj]
   by_cases au:J.az < 0
   ·simp only[go_sem,au];exact E.bg rfl ⟨by rw[ay,if_pos (by omega)],rfl⟩
   by_cases bv:J.az>120968639
   ·simp only[go_sem,au,bv];exact E.bg rfl ⟨by rw[ay,if_pos (by omega)],rfl⟩
   simp only[go_sem,au,bv];refine bM (Yf _) rfl rfl ?_
   by_cases cx:jQ J.off
   rotate_left
   ·simp only[go_sem,cx];exact E.bg rfl ⟨by rw[ay,if_pos (fun h=>cx h.2.2)],rfl⟩
   simp only[go_sem,cx];rw[if_neg (by simp only[cx,and_true];omega)] at ay;cases c with
   |zero=>
    simp only[go_sem,Int.natCast_zero,Int.lt_irrefl,gt_iff_lt];obtain rfl:=Bx rfl;rw[if_neg (by omega)] at ay;simp only[go_sem,Int.natCast_zero] at aP
    (refine E.bB [some 0] ?_;simp only[go_sem])
    refine E.ac ⟨⟨1,J.az,by omega,ay,fun h=>by omega,fun j h aX=>dV j h aX,rfl,rfl⟩,?_⟩;simp only[go_sem];omega
   |succ k=>
    have O:k < M.cS.length:=by omega
    obtain rfl:=iK k O rfl;have iG: ((k+1:Nat):Int)>0:=by omega
    have nH:IntKind.i64.wrap (((k+1:Nat):Int)-1)=(k:Int):=by rw[bl (by omega) (by omega)];omega
    simp only[go_sem,iG,nH];refine⟨by omega,by omega,?_⟩
    try simp only[Int.toNat_natCast]
    rw[cT O];simp only[go_sem,Hj]
    by_cases dx:J.az≤M.cS[k].az
    ·rw[if_pos dx] at ay;simp only[go_sem,dx];exact E.bg rfl ⟨by rw[ay],rfl⟩
    ·rw[if_neg dx] at ay;simp only[go_sem,dx,aP]
     (refine E.bB [some 0] ?_;simp only[go_sem])
     refine E.ac ⟨⟨k+1+1,J.az,by omega,ay,fun h=>by omega,fun j h aX=>dV j h aX,rfl,rfl⟩,?_⟩;simp only[go_sem];omega
  ·obtain rfl:c=M.cS.length:=by omega
   refine E.bg rfl ⟨?_,rfl⟩;rw[ay,List.drop_length];rfl
structure Lx (M:cc):Prop where
 len:M.cS.length≤64
 off:jQ M.off
 cS: ∀ J∈M.cS,0≤J.az∧J.az≤120968639∧jQ J.off
theorem Yi: ∀ {l:List lv} {p:Int},qA p l=0→ ∀ J∈l,0≤J.az∧J.az≤120968639∧jQ J.off
 | [],_,_,J,ad=>by simp at ad
 |x::aq,p,h,J,ad=>by
  rw[qA] at h;split at h
  ·cases h
  split at h
  ·cases h
  rename_i h1 G;rcases List.mem_cons.1 ad with rfl|ad
  ·exact Classical.not_not.1 h1
  ·exact Yi h J ad
theorem wv {M:cc}(h:fe M=0):Lx M:=by
 unfold fe at h;split at h
 ·cases h
 split at h
 ·rename_i h1 G;exact⟨by omega,G,Yi h⟩
 ·cases h
def zQ (t:Int)(V:Int)(l:List lv):Int:=l.foldl (fun V J=>if J.az≤t then J.off else V) V
def yf (M:cc)(t:Int):Int:=zQ t M.off M.cS
theorem atM {t V:Int}{l:List lv}{c:Nat}(h:c < l.length):zQ t V (l.take (c+1))=if l[c].az≤t then l[c].off else zQ t V (l.take c):=by
 unfold zQ;rw[List.take_succ_eq_append_getElem h,List.foldl_append];rfl
theorem Yj {t:Int}: ∀ {l:List lv} {V:Int},jQ V→(∀ J∈l,jQ J.off)→jQ (zQ t V l)
 | [],_,bp,_=>bp
 |J::ap,V,bp,hl=>by
  unfold zQ;rw[List.foldl_cons];refine Yj (l:=ap) ?_ (fun x aj=>hl x (List.mem_cons_of_mem _ aj));split
  ·exact hl J List.mem_cons_self
  ·exact bp
theorem Yk {M:cc}(ba:Lx M)(t:Int):jQ (yf M t):=Yj ba.off (fun J ad=>(ba.cS J ad).2.2)
theorem atN (M:cc)(ba:fe M=0)(t:Int)(h0:0≤t)(h1:t≤120968639):aO prog 322 [M.v,.int .i64 t] [] (fun v rs=>v= .bo [.int .i64 (yf M t),.int .i64 0]∧rs= []):=by
 have O:=wv ba;have cK:=O.len;refine cu func322 Yl (by simp[EF,Hm]) ?_;have bb: ¬t < 0:=by omega
 have n1: ¬t>120968639:=by omega
 simp only[go_sem,EF,Hm,cc.v];refine bM (Ch M) rfl rfl ?_;simp only[go_sem,ba,bb,n1];refine dN (fun D r=> ∃ (c:Nat),c≤M.cS.length∧yf M t=zQ t M.off (M.cS.take c)∧D= [(1,.int .i64 t),(2,.bd 0 1 0 0),(7,.int .i64 ((c:Int)-1))]∧r= [.ag 32 2 [[.int .i64 M.off,.pure 2 (ai M.cS)]]])
  (fun D _=>match bs D 7 with| .int _ j=>(j+1).toNat|_=>0) ?_ ?_
 ·have aP:IntKind.i64.wrap ((M.cS.length:Int)-1)=(M.cS.length:Int)-1:=bl (by omega) (by omega);simp only[go_sem,aP];exact E.ac ⟨M.cS.length,by omega,by rw[List.take_length];rfl,rfl,rfl⟩
 ·rintro D r ⟨c,av,ao,rfl,rfl⟩;simp only[go_sem,EF,Hm];refine cf ?_ ?_<;>intro ct<;>simp only[bC] at ct<;>simp only[go_sem,EF,Hm]
  ·obtain⟨k,rfl⟩: ∃ k,c=k+1:=⟨c-1,by omega⟩;have aI:k < M.cS.length:=by omega
   have ad: ((k+1:Nat):Int)-1=(k:Int):=by omega
   rw[ad];rw[atM aI] at ao;refine⟨by omega,by omega,?_⟩
   try simp only[Int.toNat_natCast]
   rw[cT aI];simp only[go_sem,Hj]
   by_cases au:M.cS[k].az≤t
   ·rw[if_pos au] at ao;simp only[go_sem,au];refine⟨by omega,by omega,?_⟩
    try simp only[Int.toNat_natCast]
    rw[cT aI];simp only[go_sem,Hj];exact E.bg rfl ⟨by rw[ao],rfl⟩
   ·rw[if_neg au] at ao;have aP:IntKind.i64.wrap ((k:Int)-1)=(k:Int)-1:=bl (by omega) (by omega);simp only[go_sem,au,aP];refine E.ac ⟨⟨k,by omega,ao,rfl,rfl⟩,?_⟩;simp only[go_sem];omega
  ·obtain rfl:c=0:=by omega
   refine E.bg rfl ⟨?_,rfl⟩;rw[ao];rfl
theorem Ym (M:cc)(ba:fe M=0)(t:Int)(h0:0≤t)(h1:t≤120968639):aO prog 259 [M.v,.int .i64 t] [] (fun v rs=>v= .bo [.int .i64 (t+yf M t),.int .i64 0]∧rs= []):=by
 have hb:=Yk (wv ba) t;unfold jQ at hb;have aP:IntKind.i64.wrap (t+yf M t)=t+yf M t:=bl (by omega) (by omega);refine cu func259 Yn (by simp[Ly,QD]) ?_;simp only[go_sem,Ly,QD,cc.v];refine bM (atN M ba t h0 h1) rfl rfl ?_;simp only[go_sem,aP];exact E.bg rfl ⟨rfl,rfl⟩
theorem Yo: ∀ {l:List lv} {p:Int} {J:lv},qA p l=0→(∀ x∈l,x.az < J.az)→p < J.az→0≤J.az∧J.az≤120968639∧jQ J.off→qA p (l++ [J])=0
 | [],p,J,_,_,ak,ad=>by
  rw[List.nil_append,qA,if_neg (fun h=>h ad),if_neg (by omega)];rfl
 |x::aq,p,J,h,aj,ak,ad=>by
  rw[qA] at h;rw[List.cons_append,qA];split at h
  ·cases h
  split at h
  ·cases h
  rename_i h1 G;rw[if_neg h1,if_neg G];exact Yo h (fun y bt=>aj y (List.mem_cons_of_mem _ bt)) (aj x List.mem_cons_self) ad
theorem atO (l:List Int)(hl:mW l)(az:Int)(h0:0≤az)(h1:az≤l.length):aO prog 58 [.bd 0 1 0 0] [gp l az]
 (fun v rs=> ∃ (a:Int) (M:cc),v=M.v∧rs= [gp l a]∧0≤a∧a≤l.length∧fe M=0∧M.cS.length≤3):=by
 refine hJ func58 Yp (by simp[EG,Hn]) ?_;simp only[go_sem,EG,Hn,gp]
 (refine E.ac ?_;simp only[go_sem])
 (refine ja [0,60,-300,840,-840,570] (hj l hl _ (by simp) (by simp)) ?_;rintro _ az _ _ ⟨V,cg,rfl⟩;simp only[fR] at cg;simp only[go_sem])
 have bp:jQ V:=by unfold jQ;omega
 clear cg
 (refine E.ac ?_;simp only[go_sem])
 (refine ja [0,29453760,29455200,29456700,29453060] (hj l hl _ (by simp) (by simp)) ?_;rintro _ az _ _ ⟨t0,cg,rfl⟩;simp only[fR] at cg;simp only[go_sem])
 have zR:0≤t0∧t0≤29456700:=by omega
 clear cg
 (refine E.ac ?_;simp only[go_sem])
 (refine lN (hi l hl 4 (by omega)) ?_;rintro _ az _ _ ⟨n,rfl,_,_⟩;simp only[go_sem])
 (refine E.ac ?_;simp only[go_sem])
 refine hv (fun D r=> ∃ (a:Int) (ap:List lv) (j t:Int),D= [(0,.bd 0 1 0 0),(2,.bd 1 1 0 0),(3,.bd 2 1 0 0),(4,.int .i64 t),(5,.int .i64 j)]∧r= [dX 143 l a,.ag 32 2 [[.int .i64 0,.bH]],.ag 32 2 [[.int .i64 V,.own 3 ap.length 0 ap.length]],.ag 259 2 (ai ap)]∧0≤a∧a≤l.length∧0≤j∧ap.length+j≤3∧qA (-1) ap=0∧(∀ J∈ap,J.az < t)∧0≤t∧t+4320*j≤29470000)
  (fun D _=>match bs D 5 with| .int _ j=>j.toNat|_=>0) ?_ ?_
 ·(refine E.oc (.vQ 3 0 1 259 2 rfl (by simp) (by decide) rfl) ?_;simp only[go_sem,fb])
  (refine E.bB [some 0,some 1,some 3,some 5] ?_;simp only[go_sem])
  exact E.ac ⟨az,[],n,t0,rfl,rfl,by omega,by omega,by omega,by simp;omega,rfl,by simp,by omega,by omega⟩
 ·rintro D r ⟨az,ap,j,t,rfl,rfl,_,_,_,jK,eK,aI,Lz,EH⟩;simp only[go_sem,EG,Hn]
  (refine E.ac ?_;simp only[go_sem])
  refine dj ?_ ?_<;>intro aw<;>simp only[bC] at aw<;>simp only[go_sem,EG,Hn]
  ·(refine E.ac ?_;simp only[go_sem])
   (refine G4 [60,120,0,-300,840,-840] (hj l hl _ (by simp) (by simp)) ?_;rintro _ az _ _ ⟨x,cg,rfl⟩;simp only[fR] at cg;simp only[go_sem])
   have aj:jQ x:=by unfold jQ;omega
   clear cg;refine⟨by omega,?_⟩;rw[atK]
   (refine E.ac ?_;simp only[go_sem])
   (refine ja [60,1440,30,4320,1] (hj l hl _ (by simp) (by simp)) ?_;rintro _ az _ _ ⟨y,cg,rfl⟩;simp only[fR] at cg;simp only[go_sem])
   have bt:1≤y∧y≤4320:=by omega
   clear cg;rw[bl (by omega) (by omega)]
   (refine E.ac ?_;simp only[go_sem])
   rw[bl (by omega) (by omega)]
   (refine E.bB [some 0,some 1,some 2,some 3] ?_;simp only[go_sem])
   refine E.ac ⟨⟨az,ap++ [⟨t,x⟩],j-1,t+y,by simp,by simp,by omega,by omega,by omega,by simp;omega,?_,?_,by omega,by omega⟩,?_⟩
   ·exact Yo eK aI (by simp only;omega) ⟨by simp only;omega,by simp only;omega,aj⟩
   ·intro J ad;rcases List.mem_append.1 ad with ad|ad
    ·have:=aI J ad;omega
    ·rw[List.mem_singleton] at ad;subst ad;simp only;omega
   ·simp only[go_sem];omega
  ·(refine E.ac ?_;simp only[go_sem])
   (refine E.kK [some 0,some 1] [3] ?_;simp only[go_sem])
   (refine E.ac ?_;simp only[go_sem])
   (refine E.bB [some 0] ?_;simp only[go_sem])
   refine E.ac ⟨az,⟨V,ap⟩,rfl,rfl,by omega,by omega,?_,by simp only;omega⟩;unfold fe;rw[if_neg (by simp only;omega),if_pos bp];exact eK
structure pL where
 R:Int
 ab:Int
 off:Int
def pL.cells (e:pL):List F:= [.int .i64 e.R,.int .i64 e.ab,.int .i64 e.off]
instance:aJ pL:=⟨pL.cells,3,fun _=>rfl,fun _=>rfl,fun _=>rfl⟩
theorem Yq (e:pL):aJ.J e= [.int .i64 e.R,.int .i64 e.ab,.int .i64 e.off]:=rfl
theorem atP:aJ.U pL=3:=rfl
theorem atQ (e:pL):List.take 3 (aJ.J e)=aJ.J e:=rfl
attribute [go_sem] atP atQ
theorem Yr {l:List pL}{a b J:Int}:ai l++ [[.int .i64 a,.int .i64 b,.int .i64 J]]=ai (l++ [⟨a,b,J⟩]):=kT (x:=pL.mk a b J)
def ml:Int→Int→List lv→List pL
 |f,V,[]=> [⟨f,120968640,V⟩]
 |f,V,J::ap=>(if f < J.az then [⟨f,J.az,V⟩] else [])++ml J.az J.off ap
theorem atS {f V:Int}{l:List lv}{c:Nat}(h:c < l.length):ml f V (l.drop c)=(if f < l[c].az then [⟨f,l[c].az,V⟩] else [])++ml l[c].az l[c].off (l.drop (c+1)):=by
 rw[List.drop_eq_getElem_cons h,ml]
theorem Ys (M:cc)(ba:M.cS.length≤64):aO prog 209 [M.v] [] (fun v rs=>v= .own 0 (ml 0 M.off M.cS).length 0 (ml 0 M.off M.cS).length∧rs= [.ag 326 3 (ai (ml 0 M.off M.cS))]):=by
 refine cu func209 Yt (by simp[EI,Ho]) ?_;simp only[go_sem,EI,Ho,cc.v];refine dN (fun D r=> ∃ (c:Nat) (f V:Int) (z:List pL),c≤M.cS.length∧ml 0 M.off M.cS=z++ml f V (M.cS.drop c)∧z.length≤c∧D= [(3,.own 1 z.length 0 z.length),(4,.bd 0 1 0 0),(11,.pure 2 (ai M.cS)),(12,.int .i64 M.cS.length),(13,.int .i64 c)]∧r= [.ag 326 3 [[.int .i64 f,.int .i64 0,.int .i64 V]],.ag 326 3 (ai z)])
  (fun D _=>match bs D 13 with| .int _ j=>(M.cS.length-j).toNat|_=>0) ?_ ?_
 ·(refine E.iv 3 326 3 rfl (E.eW [3,4,11,12,13] ?_);simp only[go_sem])
  (refine E.bB [some 1,some 2] ?_;simp only[go_sem])
  exact E.ac ⟨0,0,M.off,[],by omega,rfl,by simp,rfl,rfl⟩
 ·rintro D r ⟨c,f,V,z,av,ay,N,rfl,rfl⟩;have aP:=dB (c:=c) (by omega);simp only[go_sem,EI,Ho];refine cf ?_ ?_<;>intro ct<;>simp only[bC] at ct<;>simp only[go_sem,EI,Ho]
  ·have aI:c < M.cS.length:=by omega
   refine⟨by omega,by omega,?_⟩
   try simp only[Int.toNat_natCast]
   rw[atS aI] at ay;rw[cT aI];generalize M.cS[c]=J at ay ⊢;simp only[go_sem,Hj]
   by_cases au:J.az>f
   ·rw[if_pos au,←List.append_assoc] at ay;simp only[go_sem,au];refine⟨by omega,?_⟩;simp only[go_sem,Yr,aP]
    (refine E.bB [some 0,some 1] ?_;simp only[go_sem])
    refine E.ac ⟨⟨c+1,J.az,J.off,_,by omega,ay,by simp;omega,by simp,rfl⟩,?_⟩;simp only[go_sem];omega
   ·rw[if_neg au,List.nil_append] at ay;simp only[go_sem,au,aP]
    (refine E.bB [some 0,some 1] ?_;simp only[go_sem])
    refine E.ac ⟨⟨c+1,J.az,J.off,_,by omega,ay,by omega,rfl,rfl⟩,?_⟩;simp only[go_sem];omega
  ·obtain rfl:c=M.cS.length:=by omega
   rw[List.drop_length,ml] at ay;refine⟨by omega,?_⟩;simp only[go_sem,Yr]
   (refine E.bB [some 1] ?_;simp only[go_sem])
   rw[ay];exact E.ac ⟨by simp[bs],rfl⟩
def tA:List pL→Int→Int
 | [],_=>120968640
 |I::bV,t=>if max I.R (t-I.off) < I.ab then max I.R (t-I.off) else tA bV t
theorem atT {l:List pL}{t:Int}{c:Nat}(h:c < l.length):tA (l.drop c) t=if max l[c].R (t-l[c].off) < l[c].ab then max l[c].R (t-l[c].off) else tA (l.drop (c+1)) t:=by
 rw[List.drop_eq_getElem_cons h,tA]
def uY (M:cc)(t:Int):Int:=if 120969479 < t then 120968640 else tA (ml 0 M.off M.cS) (max t (-840))
theorem LA: ∀ {l:List lv} {f V:Int},0≤f→f≤120968640→jQ V→(∀ J∈l,0≤J.az∧J.az≤120968639∧jQ J.off)→ ∀ I∈ml f V l,0≤I.R∧I.R≤120968640∧0≤I.ab∧I.ab≤120968640∧jQ I.off
 | [],f,V,h0,h1,bp,_,I,ao=>by
  simp only[ml,List.mem_singleton] at ao;subst ao;exact⟨h0,h1,by simp only;omega,by simp only;omega,bp⟩
 |J::ap,f,V,h0,h1,bp,ad,I,ao=>by
  have G:=ad J List.mem_cons_self;rw[ml,List.mem_append] at ao;rcases ao with ao|ao
  ·split at ao
   ·rw[List.mem_singleton] at ao;subst ao;exact⟨h0,h1,by simp only;omega,by simp only;omega,bp⟩
   ·simp at ao
  ·exact LA (by omega) (by omega) G.2.2 (fun J h=>ad J (List.mem_cons_of_mem _ h)) I ao
theorem Yu: ∀ {l:List pL} {t:Int},(∀ I∈l,0≤I.R∧I.ab≤120968640)→0≤tA l t∧tA l t≤120968640
 | [],t,_=>by simp[tA]
 |I::bV,t,h=>by
  have h1:=h I List.mem_cons_self;rw[tA];split
  ·omega
  ·exact Yu fun I ao=>h I (List.mem_cons_of_mem _ ao)
theorem QE: ∀ {l:List lv} {f V:Int},(ml f V l).length≤l.length+1
 | [],f,V=>by simp[ml]
 |J::ap,f,V=>by
  have:=QE (l:=ap) (f:=J.az) (V:=J.off);rw[ml,List.length_append,List.length_cons];split<;>simp<;>omega
theorem atU (M:cc)(ba:Lx M)(t:Int)(ht: -1000000000≤t):aO prog 284 [M.v,.int .i64 t] [] (fun v rs=>v= .int .i64 (uY M t)∧rs= []):=by
 refine cu func284 Yv (by simp[EJ,Hp]) ?_;have QF:=Ys M ba.len;have so:=LA (l:=M.cS) (f:=0) (V:=M.off) (by omega) (by omega) ba.off ba.cS;have QG:=QE (l:=M.cS) (f:=0) (V:=M.off);have Yw:=ba.len;unfold uY;unfold cc.v at QF ⊢;simp only[go_sem,EJ,Hp]
 by_cases h1:t>120969479
 ·have ii:120969479 < t:=h1;simp only[go_sem,h1,ii];exact E.bg rfl ⟨rfl,rfl⟩
 have ii: ¬120969479 < t:=h1;rw[if_neg ii];simp only[go_sem,h1]
 (refine rv (QF) ?_;rintro _ _ ⟨rfl,rfl⟩;simp only[go_sem])
 clear QF
 try rw[show Int.negSucc 839= -840 from rfl]
 generalize ml 0 M.off M.cS=l at *;obtain⟨u,bc⟩: ∃ u,u=max t (-840):=⟨_,rfl⟩;rw[←bc];have Yx: -1000000000≤u∧u≤120969479:=by omega
 refine dN (fun D r=> ∃ c:Nat,c≤l.length∧tA l u=tA (l.drop c) u∧D= [(1,.int .i64 u),(13,.own 0 l.length 0 l.length),(14,.int .i64 l.length),(15,.int .i64 c)]∧r= [.ag 326 3 (ai l)])
  (fun D _=>match bs D 15 with| .int _ j=>(l.length-j).toNat|_=>0) ?_ ?_
 ·(refine E.bB [some 1] ?_;simp only[go_sem])
  exact E.ac ⟨0,by omega,rfl,rfl,rfl⟩
 ·rintro D r ⟨c,av,ay,rfl,rfl⟩;have aP:=dB (c:=c) (by omega);simp only[go_sem,EJ,Hp];refine cf ?_ ?_<;>intro ct<;>simp only[bC] at ct<;>simp only[go_sem,EJ,Hp]
  ·have aI:c < l.length:=by omega
   refine⟨by omega,by omega,?_⟩
   try simp only[Int.toNat_natCast]
   rw[atT aI] at ay;have hb:=so l[c] (List.getElem_mem _);rw[cT aI];generalize l[c]=I at ay hb ⊢;unfold jQ at hb;simp only[go_sem,Yq];rw[bl (x:=u-I.off) (by omega) (by omega)]
   by_cases au:max I.R (u-I.off) < I.ab
   ·rw[if_pos au] at ay;simp only[go_sem,au];exact E.bg rfl ⟨by rw[ay],rfl⟩
   ·rw[if_neg au] at ay;simp only[go_sem,au,aP]
    (refine E.bB [some 0] ?_;simp only[go_sem])
    refine E.ac ⟨⟨c+1,by omega,ay,rfl,rfl⟩,?_⟩;simp only[go_sem];omega
  ·obtain rfl:c=l.length:=by omega
   refine E.bg rfl ⟨?_,rfl⟩;rw[ay,List.drop_length];rfl
theorem Yy {M:cc}(ba:Lx M)(t:Int):0≤uY M t∧uY M t≤120968640:=by
 unfold uY;split
 ·omega
 ·exact Yu fun I ao=>by
   have:=LA (l:=M.cS) (f:=0) (V:=M.off) (by omega) (by omega) ba.off ba.cS I ao;omega
theorem atV (M:cc)(t:Int)(ht: -1000000000≤t):aO prog 226 [M.v,.int .i64 t] [] (fun v rs=>v=(if fe M=0 then .bo [.int .i64 (uY M t),.int .i64 0] else .bo [.int .i64 0,.int .i64 (fe M)])∧rs= []):=by
 refine cu func226 Yz (by simp[LB,QH]) ?_;have hV:=Ch M;have hF:=fun h:fe M=0=>atU M (wv h) t ht;unfold cc.v at *;simp only[go_sem,LB,QH];refine bM hV rfl rfl ?_
 by_cases h:fe M=0
 ·rw[if_pos h,h];simp only[go_sem,bne_self_eq_false];refine bM (hF h) rfl rfl ?_;simp only[go_sem];exact E.bg rfl ⟨rfl,rfl⟩
 ·rw[if_neg h];have cR: (fe M != 0)=true:=bne_iff_ne.2 h;simp only[go_sem,cR];exact E.bg rfl ⟨rfl,rfl⟩
def zS (t:Int):List pL→Int→Int
 | [],g=>g
 |I::bV,g=>if I.R>t then g else zS t bV (max g (min t (I.ab-1)+I.off))
theorem atW {t g:Int}{l:List pL}{c:Nat}(h:c < l.length):zS t (l.drop c) g=if l[c].R>t then g else zS t (l.drop (c+1)) (max g (min t (l[c].ab-1)+l[c].off)):=by
 rw[List.drop_eq_getElem_cons h,zS]
def mm (M:cc)(t:Int):Int:=min (Int.tdiv (zS t (ml 0 M.off M.cS) 0) 1440) 84005
def ot (M:cc)(t:Int):Int:=if fe M≠0 then fe M else if t < 0∨120968639 < t then 2 else 0
theorem YA (M:cc)(t:Int):aO prog 125 [M.v,.int .i64 t] [] (fun v rs=>v= .bo [.int .i64 (if ot M t=0 then mm M t else 0),.int .i64 (ot M t)]∧rs= []):=by
 refine cu func125 YB (by simp[EK,Hq]) ?_;have hV:=Ch M;have du:=fun h:fe M=0=>Ys M (wv h).len;have cU:=fun h:fe M=0=>LA (l:=M.cS) (f:=0) (V:=M.off) (by omega) (by omega) (wv h).off (wv h).cS;have hL:=fun h:fe M=0=>(wv h).len;have QG:=QE (l:=M.cS) (f:=0) (V:=M.off);unfold cc.v at *;simp only[go_sem,EK,Hq];refine bM hV rfl rfl ?_
 by_cases h:fe M=0
 rotate_left
 ·have cR: (fe M != 0)=true:=bne_iff_ne.2 h;have e:ot M t=fe M:=by unfold ot;rw[if_pos h]
  rw[e,if_neg h];simp only[go_sem,cR];exact E.bg rfl ⟨rfl,rfl⟩
 replace du:=du h
 replace cU:=cU h
 replace hL:=hL h
 rw[h];simp only[go_sem,bne_self_eq_false]
 by_cases h1:t < 0
 ·simp only[go_sem,h1];have e:ot M t=2:=by unfold ot;rw[if_neg (fun hh=>hh h),if_pos (.inl h1)]
  rw[e];exact E.bg rfl ⟨rfl,rfl⟩
 by_cases G:120968639 < t
 ·have px:t>120968639:=G;simp only[go_sem,h1,G,px];have e:ot M t=2:=by unfold ot;rw[if_neg (fun hh=>hh h),if_pos (.inr G)]
  rw[e];exact E.bg rfl ⟨rfl,rfl⟩
 have px: ¬t>120968639:=G;have e:ot M t=0:=by unfold ot;rw[if_neg (fun hh=>hh h),if_neg (by omega)]
 rw[e,if_pos rfl];unfold mm;simp only[go_sem,h1,G,px]
 (refine rv (du) ?_;rintro _ _ ⟨rfl,rfl⟩;simp only[go_sem])
 clear du hV;generalize ml 0 M.off M.cS=l at *;refine dN (fun D r=> ∃ (c:Nat) (g:Int),c≤l.length∧0≤g∧g≤200000000∧zS t l 0=zS t (l.drop c) g∧D= [(1,.int .i64 t),(7,.int .i64 g),(22,.own 0 l.length 0 l.length),(23,.int .i64 l.length),(24,.int .i64 c)]∧r= [.ag 326 3 (ai l)])
  (fun D _=>match bs D 24 with| .int _ j=>(l.length-j).toNat|_=>0) ?_ ?_
 ·(refine E.bB [some 1] ?_;simp only[go_sem])
  exact E.ac ⟨0,0,by omega,by omega,by omega,rfl,rfl,rfl⟩
 ·rintro D r ⟨c,g,av,wm,dI,ay,rfl,rfl⟩;have aP:=dB (c:=c) (by omega);simp only[go_sem,EK,Hq];refine cf ?_ ?_<;>intro ct<;>simp only[bC] at ct<;>simp only[go_sem,EK,Hq]
  ·have aI:c < l.length:=by omega
   refine⟨by omega,by omega,?_⟩
   try simp only[Int.toNat_natCast]
   rw[atW aI] at ay;have hb:=cU l[c] (List.getElem_mem _);rw[cT aI];generalize l[c]=I at ay hb ⊢;unfold jQ at hb;have ww: ∀ g:Int,0≤g→g≤400000000→IntKind.i64.wrap (g.tdiv 1440)=g.tdiv 1440:=fun g h0 h1=>by
    rw[Int.tdiv_eq_ediv_of_nonneg h0];exact bl (by omega) (by omega)
   simp only[go_sem,Yq]
   by_cases au:I.R>t
   ·have yg:t < I.R:=au;rw[if_pos au] at ay;simp only[go_sem,yg];refine⟨by omega,?_⟩;rw[ww g wm (by omega)];exact E.bg rfl ⟨by rw[ay],rfl⟩
   ·have yg: ¬t < I.R:=au;rw[if_neg au] at ay;rw[decide_eq_false yg];simp only[go_sem];rw[bl (x:=I.ab-1) (by omega) (by omega),bl (x:=min t (I.ab-1)+I.off) (by omega) (by omega),aP]
    (refine E.bB [some 0] ?_;simp only[go_sem])
    refine E.ac ⟨⟨c+1,max g (min t (I.ab-1)+I.off),by omega,by omega,by omega,ay,rfl,rfl⟩,?_⟩;simp only[go_sem];omega
  ·obtain rfl:c=l.length:=by omega
   refine⟨by omega,?_⟩;have ww:IntKind.i64.wrap (g.tdiv 1440)=g.tdiv 1440:=by
    rw[Int.tdiv_eq_ediv_of_nonneg wm];exact bl (by omega) (by omega)
   rw[ww];rw[List.drop_length,zS] at ay;exact E.bg rfl ⟨by rw[ay],rfl⟩
end Go.Proofs.YtpincjkjoeopkaaGreatDoor
