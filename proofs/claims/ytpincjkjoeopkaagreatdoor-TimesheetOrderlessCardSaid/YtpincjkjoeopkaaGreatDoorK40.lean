/- Presences and working time. -/
import Derived.Test.YtpincjkjoeopkaaGreatDoorK32
import Derived.Test.YtpincjkjoeopkaaGreatDoorK27
import Derived.Test.YtpincjkjoeopkaaGreatDoorK18
import Derived.Test.YtpincjkjoeopkaaGreatDoorK21
import Derived.Test.YtpincjkjoeopkaaGreatDoorK23
set_option linter.unusedSimpArgs false
set_option linter.unusedVariables false
set_option linter.unusedSectionVars false
namespace Go.Proofs.YtpincjkjoeopkaaGreatDoor.Pr
open Go Go.Abs Go.Proofs.Tryz
def B5:Int→List lm→Int
 |a,[]=>a
 |_,b::i=>B5 b.after i
def B6:Int→List lm→Int
 |m,[]=>m
 |_,b::i=>B6 b.iD i
theorem ahD: ∀ {l:List lm} {a:Int} {b:lm},B5 a (l++ [b])=b.after
 | [],_,_=>rfl
 |x::i,_,b=>by rw[List.cons_append,B5,ahD]
theorem ahE: ∀ {l:List lm} {a:Int} {b:lm},B6 a (l++ [b])=b.iD
 | [],_,_=>rfl
 |x::i,_,b=>by rw[List.cons_append,B6,ahE]
theorem ahF: ∀ {l:List lm} {a m:Int} {b:lm},kW a m l=true→B5 a l < b.after→b.after≤1440→B6 m l < b.iD→b.iD≤1440→kW a m (l++ [b])=true
 | [],a,m,b,_,h1,B,am,bp=>by
  simp only[B5,B6] at h1 am;simp only[List.nil_append,kW,Bool.and_true,decide_eq_true_eq];omega
 |x::i,a,m,b,h,h1,B,am,bp=>by
  simp only[kW,Bool.and_eq_true] at h;simp only[List.cons_append,kW,Bool.and_eq_true];exact⟨h.1,ahF h.2 h1 B am bp⟩
theorem axg (l:List Int)(hl:kx l)(aD:Int)(h0:0≤aD)(h1:aD≤l.length):aK prog 60 [.aW 0 1 0 0,.bool false] [fx l aD]
 (fun v rs=> ∃ (a:Int) (i:gz),v= .agg (aG.F i)∧rs= [fx l a]∧0≤a∧a≤l.length∧lK i=0):=by
 refine hr func60 abo (by simp[xv,zX]) ?_;simp only[go_sem,xv,zX,fx]
 (refine s.U ?_;simp only[go_sem])
 (refine ie (fB l hl 4 (by omega)) ?_;rintro _ aD _ _ ⟨EX,rfl,_,_⟩;simp only[go_sem])
 (refine iy [0,5,15,120] (gG l hl _ (by simp) (by simp)) ?_;rintro _ aD _ _ ⟨EY,bV,rfl⟩;simp only[fA] at bV;simp only[go_sem])
 have pT:0≤EY∧EY≤120:=by omega
 clear bV
 (refine s.U ?_;simp only[go_sem])
 (refine s.U ?_;simp only[go_sem])
 refine apX (s 1 fun r d=> ∃ (a g:Int),bn r 0= .aW 0 1 0 0∧bn r 1= .bool false∧bn r 4= .aW 1 1 0 0∧bn r 5= .aW 2 1 0 0∧d= [dK 143 l a,.aa 35 4 [[.int .i64 0,.int .i64 0,.int .i64 0,.bD]],.aa 35 4 [[.int .i64 g,.int .i64 EX,.int .i64 EY,.bD]]]∧0≤a∧a≤l.length∧(EX=0∧g=0∨EX≠0∧1≤g∧g≤60)) ?_ ?_ ?_
 ·intro ck;simp only[bA] at ck;simp only[go_sem,xv,zX]
  (refine iy [15,5,1,60,7] (gG l hl _ (by simp) (by simp)) ?_;rintro _ aD _ _ ⟨g,bV,rfl⟩;simp only[fA] at bV;simp only[go_sem])
  have ao:1≤g∧g≤60:=by omega
  clear bV
  (refine s.bw [some 0,some 1,some 3] ?_;simp only[go_sem])
  exact s.U ⟨aD,g,rfl,rfl,rfl,rfl,rfl,by omega,by omega,.inr ⟨ck,ao⟩⟩
 ·intro ck;simp only[bA] at ck;simp only[go_sem,xv,zX]
  (refine s.bw [some 0,some 1,some 3] ?_;simp only[go_sem])
  exact s.U ⟨aD,0,rfl,rfl,rfl,rfl,rfl,by omega,by omega,.inl ⟨by omega,rfl⟩⟩
 ·intro e i h;refine s.mono ?_ h;rintro r d ⟨aD,g,Tn,Al,zS,If,rfl,_,_,ao⟩;simp only[go_sem,xv,zX,Tn,Al,zS,If];have xg:gz.py ⟨g,EX,EY,[]⟩:=by unfold gz.py;simp only;omega
  (refine iy [0,120,360] (gG l hl _ (by simp) (by simp)) ?_;rintro _ aD _ _ ⟨aA,bV,rfl⟩;simp only[fA] at bV;simp only[go_sem])
  have aIU:0≤aA∧aA≤360:=by omega
  clear bV;simp only[Tn,Al,zS,If]
  (refine iy [15,30,1] (gG l hl _ (by simp) (by simp)) ?_;rintro _ aD _ _ ⟨uB,bV,rfl⟩;simp only[fA] at bV;simp only[go_sem])
  have aIV:1≤uB∧uB≤30:=by omega
  clear bV;refine s.U ?_;simp only[go_sem,Tn,Al,zS,If]
  (refine ie (fB l hl 4 (by omega)) ?_;rintro _ aD _ _ ⟨F,rfl,_,_⟩;simp only[go_sem])
  (refine s.U ?_;simp only[go_sem])
  refine gY (fun r d=> ∃ (a:Int) (dc:List lm) (c aA uB:Int),r= [(0,.aW 0 1 0 0),(1,.bool false),(4,.aW 1 1 0 0),(5,.aW 2 1 0 0),(6,.int .i64 aA),(7,.int .i64 uB),(8,.int .i64 c)]∧
   d= [dK 143 l a,.aa 35 4 [[.int .i64 0,.int .i64 0,.int .i64 0,.bD]],.aa 35 4 [[.int .i64 g,.int .i64 EX,.int .i64 EY,.own 3 dc.length 0 dc.length]],.aa 261 2 (ac dc)]∧0≤a∧a≤l.length∧0≤c∧dc.length+c≤3∧kW (-1) 0 dc=true∧B5 (-1) dc < aA∧B6 0 dc < uB∧aA+180*c≤900∧uB+15*c≤75∧0≤aA∧0≤uB)
   (fun r _=>match bn r 8 with| .int _ j=>j.toNat|_=>0) ?_ ?_
  ·(refine s.bw [some 0,some 1,some 2] ?_;simp only[go_sem])
   (refine s.nt (.uP 2 0 3 261 2 rfl (by simp) (by decide) rfl) ?_;simp only[go_sem,eO])
   exact s.U ⟨aD,[],F,aA,uB,rfl,rfl,by omega,by omega,by omega,by simp;omega,rfl,by simp[B5];omega,by simp[B6];omega,by omega,by omega,by omega,by omega⟩
  ·rintro r d ⟨aD,dc,c,aA,uB,rfl,rfl,_,_,_,_,J9,aaD,To,_,_,_,_⟩;simp only[go_sem,xv,zX]
   (refine s.U ?_;simp only[go_sem])
   refine dg ?_ ?_<;>intro fQ<;>simp only[bA] at fQ<;>simp only[go_sem,xv,zX]
   ·(refine s.U ?_;simp only[go_sem])
    refine⟨by omega,?_⟩
    (refine s.U ?_;simp only[go_sem])
    (refine iy [60,180,1] (gG l hl _ (by simp) (by simp)) ?_;rintro _ aD _ _ ⟨x,bV,rfl⟩;simp only[fA] at bV;simp only[go_sem])
    have ad:1≤x∧x≤180:=by omega
    clear bV;rw[bf (by omega) (by omega)]
    (refine iy [15,1] (gG l hl _ (by simp) (by simp)) ?_;rintro _ aD _ _ ⟨y,bV,rfl⟩;simp only[fA] at bV;simp only[go_sem])
    have bl:1≤y∧y≤15:=by omega
    clear bV;rw[bf (by omega) (by omega)]
    (refine s.U ?_;simp only[go_sem])
    rw[bf (by omega) (by omega)]
    (refine s.bw [some 0,some 1,some 2,some 3] ?_;simp only[go_sem])
    refine s.U ⟨⟨aD,dc++ [⟨aA,uB⟩],c-1,aA+x,uB+y,by simp,(by first| (simp;done)| (rw[←kz,List.length_append];rfl)),by omega,by omega,by omega,by simp;omega,ahF J9 aaD (by simp only;omega) To (by simp only;omega),by rw[ahD];simp only;omega,by rw[ahE];simp only;omega,by omega,by omega,by omega,by omega⟩,?_⟩;simp only[go_sem];omega
   ·(refine s.kp [some 0,some 1,some 2] [3] ?_;simp only[go_sem])
    repeat (refine s.U ?_;simp only[go_sem])
    (refine s.bw [some 0] ?_;simp only[go_sem])
    refine s.U ⟨aD,⟨g,EX,EY,dc⟩,rfl,rfl,by omega,by omega,?_⟩;rw[lK,if_neg (by simp only;omega),if_pos];exact⟨xg,J9⟩
end Go.Proofs.YtpincjkjoeopkaaGreatDoor.Pr
namespace Go.Proofs.YtpincjkjoeopkaaGreatDoor.Ib
open Go Go.Abs Go.Proofs.Tryz
def Mg:ByteArray:=⟨#[110,111,114,109,97,108]⟩
theorem RP {x:jU}(aB:up x.name)(B:x.after≤10080): ∀ {b:Int} {l:List jU},jD b l=true→b < x.after→(∀ y∈l,y.after < x.after)→jD b (l++ [x])=true
 |b,[],_,h1,_=>by simp[jD,aB,h1,B]
 |b,y::l,h,h1,am=>by
  simp only[jD,Bool.and_eq_true,decide_eq_true_eq] at h;have:=RP aB B h.2.2.2 (am y List.mem_cons_self) fun D aS=>am D (List.mem_cons_of_mem _ aS);simp[jD,h.1,h.2.1,h.2.2.1,this]
def afh (az:hJ):Prop:=az.dX=Mg∧az.eC.length≤2∧az.gA.length≤2∧jD (-1) az.eC=true∧jD (-1) az.gA=true
theorem axk {az:hJ}(h:afh az):mu az=0:=by
 obtain⟨h1,B,am,bp,cn⟩:=h;have aB:up az.dX:=by rw[h1];decide
 unfold mu;rw[if_neg (by omega),if_pos ⟨aB,bp,cn⟩]
theorem axh (l:List Int)(hl:kx l)(aD:Int)(h0:0≤aD)(h1:aD≤l.length):aK prog 61 [.aW 0 1 0 0,.bool false] [fx l aD]
 (fun v rs=> ∃ (a:Int) (az:hJ),v=az.v∧rs= [fx l a]∧0≤a∧a≤l.length∧afh az):=by
 refine hr func61 abp (by simp[zq,BO]) ?_;simp only[go_sem,zq,BO,fx]
 repeat (refine s.U ?_;simp only[go_sem])
 (refine iy [0,60,480,120] (gG l hl _ (by simp) (by simp)) ?_;rintro _ aD _ _ ⟨x,bV,rfl⟩;simp only[fA] at bV;simp only[go_sem])
 have ad:0≤x∧x≤480:=by omega
 clear bV
 repeat (refine s.U ?_;simp only[go_sem])
 (refine ie (fB l hl 3 (by omega)) ?_;rintro _ aD _ _ ⟨k,rfl,_,_⟩;simp only[go_sem])
 (refine s.U ?_;simp only[go_sem])
 refine gY (fun r d=> ∃ (a:Int) (eC:List jU) (j t:Int),r= [(0,.aW 0 1 0 0),(1,.bool false),(4,.aW 1 1 0 0),(5,.aW 2 1 0 0),(6,.int .i64 t),(7,.int .i64 j)]∧
  d= [dK 143 l a,.aa 38 3 [[.str ⟨#[]⟩,.bD,.bD]],.aa 38 3 [[.str Mg,.own 3 eC.length 0 eC.length,.bD]],.aa 128 2 (ac eC)]∧0≤a∧a≤l.length∧0≤j∧eC.length+j≤2∧jD (-1) eC=true∧(∀ y∈eC,y.after < t)∧0≤t∧t+120*j≤720)
  (fun r _=>match bn r 7 with| .int _ j=>j.toNat|_=>0) ?_ ?_
 ·(refine s.bw [some 0,some 1,some 2] ?_;simp only[go_sem])
  (refine s.nt (.uP 2 0 1 128 2 rfl (by simp) (by decide) rfl) ?_;simp only[go_sem,eO])
  exact s.U ⟨aD,[],k,x,rfl,rfl,by omega,by omega,by omega,by simp;omega,rfl,by simp,by omega,by omega⟩
 ·rintro r d ⟨aD,eC,j,t,rfl,rfl,_,_,_,_,Z,aC,yH,Ki⟩;simp only[go_sem,zq,BO]
  repeat (refine s.U ?_;simp only[go_sem])
  refine dg ?_ ?_<;>intro ao<;>simp only[bA] at ao<;>simp only[go_sem,zq,BO]
  ·(refine s.U ?_;simp only[go_sem])
   (refine wP (fB l hl 3 (by omega)) ?_;rintro _ aD _ _ ⟨D,rfl,_,_⟩;simp only[go_sem])
   rcases (show D=0∨D=1∨D=2 by omega) with rfl|rfl|rfl
   all_goals
    simp only[go_sem,afi];refine⟨by omega,?_⟩
    repeat (refine s.U ?_;simp only[go_sem])
    (refine iy [60,1,120] (gG l hl _ (by simp) (by simp)) ?_;rintro _ aD _ _ ⟨y,bV,rfl⟩;simp only[fA] at bV;simp only[go_sem])
    have bl:1≤y∧y≤120:=by omega
    clear bV;rw[bf (x:=t+y) (by omega) (by omega)]
    (refine s.U ?_;simp only[go_sem])
    rw[bf (x:=j-1) (by omega) (by omega)]
    (refine s.bw [some 0,some 1,some 2,some 3] ?_;simp only[go_sem])
    refine s.U ⟨⟨aD,eC++ [⟨_,t⟩],j-1,t+y,rfl,(by rw[List.length_append];rfl),by omega,by omega,by omega,(by rw[List.length_append,List.length_singleton];omega),RP ?_ (by simp only;omega) Z (by simp only;omega) aC,?_,by omega,by omega⟩,?_⟩
    ·(dsimp only;decide)
    ·intro b Z;rcases List.mem_append.1 Z with Z|Z
     ·have:=aC b Z;omega
     ·rw[List.mem_singleton] at Z;subst Z;simp only;omega
    ·simp only[go_sem];omega
  clear aC
  (refine s.U ?_;simp only[go_sem])
  (refine iy [100,480,0,2400] (gG l hl _ (by simp) (by simp)) ?_;rintro _ aD _ _ ⟨RQ,bV,rfl⟩;simp only[fA] at bV;simp only[go_sem])
  have Qw:0≤RQ∧RQ≤2400:=by omega
  clear bV
  repeat (refine s.U ?_;simp only[go_sem])
  (refine ie (fB l hl 3 (by omega)) ?_;rintro _ aD _ _ ⟨ca,rfl,_,_⟩;simp only[go_sem])
  (refine s.U ?_;simp only[go_sem])
  have Rm:eC.length≤2:=by omega
  clear yH Ki;refine gY (fun r d=> ∃ (a:Int) (gA:List jU) (j t:Int),r= [(0,.aW 0 1 0 0),(1,.bool false),(4,.aW 1 1 0 0),(5,.aW 2 1 0 0),(6,.int .i64 t),(8,.int .i64 j)]∧
   d= [dK 143 l a,.aa 38 3 [[.str ⟨#[]⟩,.bD,.bD]],.aa 38 3 [[.str Mg,.own 3 eC.length 0 eC.length,.own 4 gA.length 0 gA.length]],.aa 128 2 (ac eC),.aa 128 2 (ac gA)]∧0≤a∧a≤l.length∧0≤j∧gA.length+j≤2∧jD (-1) gA=true∧(∀ y∈gA,y.after < t)∧0≤t∧t+600*j≤3600)
   (fun r _=>match bn r 8 with| .int _ j=>j.toNat|_=>0) ?_ ?_
  ·(refine s.bw [some 0,some 1,some 2,some 3] ?_;simp only[go_sem])
   (refine s.nt (.uP 2 0 2 128 2 rfl (by simp) (by decide) rfl) ?_;simp only[go_sem,eO])
   exact s.U ⟨aD,[],ca,RQ,rfl,rfl,by omega,by omega,by omega,by simp;omega,rfl,by simp,by omega,by omega⟩
  rintro r d ⟨aD,gA,j,t,rfl,rfl,_,_,_,_,mi,aC,yH,Ki⟩;simp only[go_sem,zq,BO]
  repeat (refine s.U ?_;simp only[go_sem])
  refine dg ?_ ?_<;>intro ao<;>simp only[bA] at ao<;>simp only[go_sem,zq,BO]
  ·(refine s.U ?_;simp only[go_sem])
   (refine wP (fB l hl 3 (by omega)) ?_;rintro _ aD _ _ ⟨D,rfl,_,_⟩;simp only[go_sem])
   rcases (show D=0∨D=1∨D=2 by omega) with rfl|rfl|rfl
   all_goals
    simp only[go_sem,afi];refine⟨by omega,?_⟩
    repeat (refine s.U ?_;simp only[go_sem])
    (refine iy [60,1,600] (gG l hl _ (by simp) (by simp)) ?_;rintro _ aD _ _ ⟨y,bV,rfl⟩;simp only[fA] at bV;simp only[go_sem])
    have bl:1≤y∧y≤600:=by omega
    clear bV;rw[bf (x:=t+y) (by omega) (by omega)]
    (refine s.U ?_;simp only[go_sem])
    rw[bf (x:=j-1) (by omega) (by omega)]
    (refine s.bw [some 0,some 1,some 2,some 3,some 4] ?_;simp only[go_sem])
    refine s.U ⟨⟨aD,gA++ [⟨_,t⟩],j-1,t+y,rfl,(by rw[List.length_append];rfl),by omega,by omega,by omega,(by rw[List.length_append,List.length_singleton];omega),RP ?_ (by simp only;omega) mi (by simp only;omega) aC,?_,by omega,by omega⟩,?_⟩
    ·(dsimp only;decide)
    ·intro b Z;rcases List.mem_append.1 Z with Z|Z
     ·have:=aC b Z;omega
     ·rw[List.mem_singleton] at Z;subst Z;simp only;omega
    ·simp only[go_sem];omega
  repeat (refine s.U ?_;simp only[go_sem])
  (refine s.kp [some 0] [3,4] ?_;simp only[go_sem])
  exact s.U ⟨aD,⟨Mg,eC,gA⟩,rfl,rfl,by omega,by omega,rfl,Rm,by simp only;omega,Z,mi⟩
end Go.Proofs.YtpincjkjoeopkaaGreatDoor.Ib
namespace Go.Proofs.YtpincjkjoeopkaaGreatDoor.Pm
open Go Go.Abs Go.Proofs.Tryz
def EQ:List cP:= [⟨0,1,1,0,0,false⟩,⟨0,12,25,0,0,true⟩,⟨0,2,29,0,0,false⟩,⟨1,0,0,0,1,false⟩,⟨1,0,0,0,-2,false⟩,⟨1,0,0,0,-100,false⟩,⟨2,11,4,3,0,false⟩,⟨2,1,-1,0,0,false⟩,⟨2,1,1,5,0,true⟩,⟨2,12,5,3,7,false⟩,⟨2,1,1,4,-7,false⟩]
theorem aDR:nK EQ=true:=by decide
theorem aDS {l:List cP}{h:cP}(hl:nK l=true)(hh:zJ h=true):nK (l++ [h])=true:=by
 unfold nK at *;rw[List.all_append,hl];simp[hh]
theorem agS:ac EQ= [[.int .i64 0,.int .i64 1,.int .i64 1,.int .i64 0,.int .i64 0,.bool false],[.int .i64 0,.int .i64 12,.int .i64 25,.int .i64 0,.int .i64 0,.bool true],[.int .i64 0,.int .i64 2,.int .i64 29,.int .i64 0,.int .i64 0,.bool false],
 [.int .i64 1,.int .i64 0,.int .i64 0,.int .i64 0,.int .i64 1,.bool false],[.int .i64 1,.int .i64 0,.int .i64 0,.int .i64 0,.int .i64 (-2),.bool false],[.int .i64 1,.int .i64 0,.int .i64 0,.int .i64 0,.int .i64 (-100),.bool false],
 [.int .i64 2,.int .i64 11,.int .i64 4,.int .i64 3,.int .i64 0,.bool false],[.int .i64 2,.int .i64 1,.int .i64 (-1),.int .i64 0,.int .i64 0,.bool false],[.int .i64 2,.int .i64 1,.int .i64 1,.int .i64 5,.int .i64 0,.bool true],
 [.int .i64 2,.int .i64 12,.int .i64 5,.int .i64 3,.int .i64 7,.bool false],[.int .i64 2,.int .i64 1,.int .i64 1,.int .i64 4,.int .i64 (-7),.bool false]]:=rfl
def S1 (qV:Bool)(i:List cP):Prop:=qV=false→nK i=true
theorem axj (l:List Int)(hl:kx l)(qV:Bool)(aD:Int)(h0:0≤aD)(h1:aD≤l.length):aK prog 63 [.aW 0 1 0 0,.bool qV] [dK 143 l aD]
 (fun v rs=> ∃ (a:Int) (i:List cP),0≤a∧a≤l.length∧i.length≤4∧S1 qV i∧v= .own 1 i.length 0 i.length∧rs= [dK 143 l a,.aa 263 6 (ac i)]):=by
 refine cr func63 abr (by simp[BI,ER]) ?_;simp only[go_sem,BI,ER]
 first
 |rw[←agS]
 | (simp only[show Int.negSucc 0= -1 from rfl,show Int.negSucc 1= -2 from rfl,show Int.negSucc 99= -100 from rfl,show Int.negSucc 6= -7 from rfl];rw[←agS])
 (refine ie (fB l hl 4 (by omega)) ?_;rintro _ aD _ _ ⟨x,rfl,_,_⟩;simp only[go_sem])
 refine dR (fun r d=> ∃ (a:Int) (j:Nat) (i:List cP),0≤a∧a≤l.length∧i.length+j≤3∧nK i=true∧r= [(0,.aW 0 1 0 0),(1,.bool qV),(5,.own 1 11 0 11),(6,.own 2 i.length 0 i.length),(7,.int .i64 j)]∧d= [dK 143 l a,.aa 263 6 (ac EQ),.aa 263 6 (ac i)])
  (fun r _=>match bn r 7 with| .int _ j=>j.toNat|_=>0) ?_ ?_
 ·(refine s.iI 6 263 6 rfl (s.eW [0,1,5,6,7] ?_);simp only[go_sem])
  refine s.U ⟨aD,x.toNat,[],by omega,by omega,by simp;omega,rfl,?_,rfl⟩;rw[show ((x.toNat:Nat):Int)=x from by omega];rfl
 ·rintro r d ⟨aD,j,i,h0,h1,G,ag,rfl,rfl⟩;simp only[go_sem,BI,ER];refine cg ?_ ?_<;>intro dL<;>simp only[bA] at dL<;>simp only[go_sem,BI,ER]
  ·(refine ie (fB l hl 11 (by omega)) ?_;rintro _ aD _ _ ⟨q,rfl,_,_⟩;simp only[go_sem])
   have aQ:q.toNat < EQ.length:=by show q.toNat < 11;omega
   rw[cQ aQ];have agT:=agw aDR aQ;generalize EQ[q.toNat]=hh at agT ⊢;have nJ:IntKind.i64.wrap ((j:Int)-1)=((j-1:Nat):Int):=by rw[bf (by omega) (by omega)];omega
   refine⟨rfl,by omega,by omega,rfl,?_⟩;simp only[go_sem,SJ,SK,agx];refine⟨by omega,?_⟩;simp only[go_sem,nJ]
   (refine s.bw [some 0,some 1,some 2] ?_;simp only[go_sem])
   refine s.U ⟨⟨aD,j-1,i++ [hh],by omega,by omega,by simp;omega,aDS ag agT,?_,rfl⟩,?_⟩
   ·simp
   ·simp only[go_sem];omega
  ·have vp: ∀ (aD:Int) (i:List cP) (d:List R),0≤aD→aD≤l.length→i.length≤4→S1 qV i→
    s 1 (wI fun v rs=> ∃ (a:Int) (i:List cP),0≤a∧a≤l.length∧i.length≤4∧S1 qV i∧v= .own 1 i.length 0 i.length∧rs= [dK 143 l a,.aa 263 6 (ac i)]) [(0,.own 2 i.length 0 i.length)] (dK 143 l aD:: .aa 263 6 (ac EQ):: .aa 263 6 (ac i)::d):=by
    intro aD i d h0 h1 G ag
    (refine s.bw [some 0,some 2] ?_;simp only[go_sem])
    exact s.U ⟨aD,i,h0,h1,G,ag,rfl,rfl⟩
   cases qV
   ·simp only[go_sem];exact vp aD i [] (by omega) (by omega) (by omega) (fun _=>ag)
   ·simp only[go_sem]
    (refine ie (fB l hl 6 (by omega)) ?_;rintro _ aD _ _ ⟨q,rfl,_,_⟩;simp only[go_sem])
    refine cg ?_ ?_<;>intro ck<;>simp only[bA] at ck<;>simp only[go_sem,BI,ER]
    ·(refine ie (fB l hl 4 (by omega)) ?_;rintro _ aD _ _ ⟨bI,rfl,_,_⟩;simp only[go_sem])
     (refine ie (fB l hl 14 (by omega)) ?_;rintro _ aD _ _ ⟨ca,rfl,_,_⟩;simp only[go_sem])
     (refine iy [0,6,31,-1] (gG l hl _ (by simp) (by simp)) ?_;rintro _ aD _ _ ⟨fc,bV,rfl⟩;simp only[fA] at bV;simp only[go_sem])
     (refine ie (fB l hl 8 (by omega)) ?_;rintro _ aD _ _ ⟨hi,rfl,_,_⟩;simp only[go_sem])
     (refine iy [0,8,101] (gG l hl _ (by simp) (by simp)) ?_;rintro _ aD _ _ ⟨jr,bV,rfl⟩;simp only[fA] at bV;simp only[go_sem])
     refine⟨by omega,?_⟩;have he:=vp aD (i++ [⟨bI,ca,fc,hi,jr,false⟩]) [.aa 3 1 [[.int .i64 0],[.int .i64 6],[.int .i64 31],[.int .i64 (-1)]],.aa 3 1 [[.int .i64 0],[.int .i64 8],[.int .i64 101]],.aa 263 6 [[.int .i64 bI,.int .i64 ca,.int .i64 fc,.int .i64 hi,.int .i64 jr,.bool false]]] (by omega) (by omega) (by simp;omega) (fun h=>by cases h);rw[←kz,List.length_append] at he;exact he
    ·exact vp aD i [] (by omega) (by omega) (by omega) (fun h=>by cases h)
theorem Tg {l:List dF}{n g:ByteArray}{i f t w o:Int}:ac l++ [[.str n,.str g,.int .i64 i,.int .i64 f,.int .i64 t,.int .i64 w,.int .i64 o]]=ac (l++ [⟨n,g,i,f,t,w,o⟩]):=kz (x:=dF.mk n g i f t w o)
theorem axi (l:List Int)(hl:kx l)(qV:Bool)(aD:Int)(h0:0≤aD)(h1:aD≤l.length):aK prog 62 [.aW 0 1 0 0,.bool qV] [fx l aD]
 (fun v rs=> ∃ (a:Int) (af:List dF),v= .own 1 af.length 0 af.length∧rs= [fx l a,.aa 229 7 (ac af)]∧0≤a∧a≤l.length∧af.length≤3∧(qV=false→qo af=true)):=by
 refine hr func62 abq (by simp[zr,B2]) ?_;simp only[go_sem,zr,B2,fx]
 (refine s.U ?_;simp only[go_sem])
 (refine s.U ?_;simp only[go_sem])
 (refine ie (fB l hl 4 (by omega)) ?_;rintro _ aD _ _ ⟨k,rfl,_,_⟩;simp only[go_sem])
 (refine s.U ?_;simp only[go_sem])
 refine gY (fun r d=> ∃ (a:Int) (af:List dF) (j:Int),r= [(0,.aW 0 1 0 0),(1,.bool qV),(5,.own 1 af.length 0 af.length),(6,.int .i64 j)]∧d= [dK 143 l a,.aa 229 7 (ac af)]∧0≤a∧a≤l.length∧0≤j∧af.length+j≤3∧(qV=false→qo af=true))
  (fun r _=>match bn r 6 with| .int _ j=>j.toNat|_=>0) ?_ ?_
 ·(refine s.iI 5 229 7 rfl (s.eW [0,1,5,6] ?_);simp only[go_sem])
  (refine s.bw [some 0,some 1] ?_;simp only[go_sem])
  exact s.U ⟨aD,[],k,rfl,rfl,by omega,by omega,by omega,by simp;omega,fun _=>rfl⟩
 ·rintro r d ⟨aD,af,j,rfl,rfl,_,_,_,jv,pm⟩;simp only[go_sem,zr,B2]
  (refine s.U ?_;simp only[go_sem])
  refine dg ?_ ?_<;>intro ao<;>simp only[bA] at ao<;>simp only[go_sem,zr,B2]
  ·(refine s.U ?_;simp only[go_sem])
   have Fw: ∀ a:Int,0≤a→a < 4→ ∃ E,([[z.str ⟨#[110,105,103,104,116]⟩],[.str ⟨#[108,97,116,101]⟩],[.str ⟨#[115,117,110,100,97,121]⟩],[.str ⟨#[104,111,108,105,100,97,121]⟩]]:List (List z)).getD a.toNat []= [.str E]∧qY E=true:=by
    intro a XC AN;rcases (show a=0∨a=1∨a=2∨a=3 by omega) with rfl|rfl|rfl|rfl
    ·exact⟨_,rfl,by decide⟩
    ·exact⟨_,rfl,by decide⟩
    ·exact⟨_,rfl,by decide⟩
    ·exact⟨_,rfl,by decide⟩
   have aEC: ∀ a:Int,0≤a→a < 4→ ∃ E,([[z.str ⟨#[]⟩],[.str ⟨#[97]⟩],[.str ⟨#[97]⟩],[.str ⟨#[98]⟩]]:List (List z)).getD a.toNat []= [.str E]∧(eo E ⟨#[]⟩||qY E)=true:=by
    intro a XC AN;rcases (show a=0∨a=1∨a=2∨a=3 by omega) with rfl|rfl|rfl|rfl
    ·exact⟨_,rfl,by rw[EE];rfl⟩
    ·exact⟨_,rfl,by rw[show qY ⟨#[97]⟩=true by decide];simp⟩
    ·exact⟨_,rfl,by rw[show qY ⟨#[97]⟩=true by decide];simp⟩
    ·exact⟨_,rfl,by rw[show qY ⟨#[98]⟩=true by decide];simp⟩
   (refine wP (fB l hl 4 (by omega)) ?_;rintro _ aD _ _ ⟨cz,rfl,_,_⟩;simp only[go_sem])
   obtain⟨n,aB,aED⟩:=Fw cz (by omega) (by omega);refine⟨by omega,by omega,?_⟩
   first|rw[aB]|erw [aB]
   simp only[go_sem]
   (refine wP (fB l hl 4 (by omega)) ?_;rintro _ aD _ _ ⟨eT,rfl,_,_⟩;simp only[go_sem])
   obtain⟨g,ahu,EC⟩:=aEC eT (by omega) (by omega);refine⟨by omega,by omega,?_⟩
   first|rw[ahu]|erw [ahu]
   simp only[go_sem]
   (refine wP (fB l hl 3 (by omega)) ?_;rintro _ aD _ _ ⟨i,rfl,_,_⟩;simp only[go_sem])
   (refine FU [1320,0,1080,360] (gG l hl _ (by simp) (by simp)) ?_;rintro _ aD _ _ ⟨f,bV,rfl⟩;simp only[fA] at bV;simp only[go_sem])
   have hf:0≤f∧f < 1440:=by omega
   clear bV
   (refine FU [360,1440,0,1380,1080] (gG l hl _ (by simp) (by simp)) ?_;rintro _ aD _ _ ⟨t,bV,rfl⟩;simp only[fA] at bV;simp only[go_sem])
   have ht:0≤t∧t≤1440:=by omega
   clear bV
   (refine FU [127,64,31,8,0] (gG l hl _ (by simp) (by simp)) ?_;rintro _ aD _ _ ⟨w,bV,rfl⟩;simp only[fA] at bV;simp only[go_sem])
   have aR:0≤w∧w≤127:=by omega
   clear bV
   (refine wP (fB l hl 3 (by omega)) ?_;rintro _ aD _ _ ⟨o,rfl,_,_⟩;simp only[go_sem])
   have aEE:qo (af++ [⟨n,g,i,f,t,w,o⟩])=qo af:=by
    have B: (0≤i∧i≤1000∧0≤f∧f < 1440∧0≤t∧t≤1440∧0≤w∧w≤127∧0≤o∧o≤2):=by omega
    have am:zU ⟨n,g,i,f,t,w,o⟩=true:=by
     unfold zU lr;simp only[aED,EC,Bool.true_and];exact decide_eq_true B
    simp[qo,am]
   have nJ:IntKind.i64.wrap (j-1)=j-1:=bf (by omega) (by omega);have cB:af.length < 3:=by omega
   (refine s.bw [some 0,some 1,some 7] ?_;simp only[go_sem])
   (refine s.U ?_;simp only[go_sem])
   cases qV with
   |false=>
    simp only[go_sem,zr,B2]
    (refine s.U ?_;simp only[go_sem])
    (refine s.U ?_;simp only[go_sem])
    refine⟨by omega,?_⟩;rw[Tg]
    (refine s.U ?_;simp only[go_sem])
    rw[nJ]
    (refine s.bw [some 0,some 1] ?_;simp only[go_sem])
    refine s.U ⟨⟨aD,af++ [⟨n,g,i,f,t,w,o⟩],j-1,by simp,by simp,by omega,by omega,by omega,by simp;omega,fun _=>by rw[aEE];exact pm rfl⟩,?_⟩;simp only[go_sem];omega
   |true=>
    simp only[go_sem,zr,B2]
    (refine ie (fB l hl 12 (by omega)) ?_;rintro _ aD _ _ ⟨q,rfl,_,_⟩;simp only[go_sem])
    (refine s.U ?_;simp only[go_sem])
    by_cases aQ:q=11
    ·have AG: (q==11)=true:=beq_iff_eq.2 aQ;simp only[go_sem,AG,aQ]
     (refine iy [1440,-1,5] (gG l hl _ (by simp) (by simp)) ?_;rintro _ aD _ _ ⟨hO,bV,rfl⟩;simp only[fA] at bV;simp only[go_sem])
     clear bV
     (refine iy [128,127] (gG l hl _ (by simp) (by simp)) ?_;rintro _ aD _ _ ⟨ju,bV,rfl⟩;simp only[fA] at bV;simp only[go_sem])
     clear bV
     (refine s.U ?_;simp only[go_sem])
     refine⟨by omega,?_⟩;rw[Tg]
     (refine s.U ?_;simp only[go_sem])
     rw[nJ]
     (refine s.bw [some 0,some 1] ?_;simp only[go_sem])
     refine s.U ⟨⟨aD,af++ [⟨n,g,i,hO,t,ju,o⟩],j-1,by simp,by simp,by omega,by omega,by omega,by simp;omega,fun e=>by cases e⟩,?_⟩;simp only[go_sem];omega
    ·have AG: (q==11)=false:=beq_eq_false_iff_ne.2 aQ;simp only[go_sem,AG,aQ]
     (refine s.U ?_;simp only[go_sem])
     refine⟨by omega,?_⟩;rw[Tg]
     (refine s.U ?_;simp only[go_sem])
     rw[nJ]
     (refine s.bw [some 0,some 1] ?_;simp only[go_sem])
     refine s.U ⟨⟨aD,af++ [⟨n,g,i,f,t,w,o⟩],j-1,by simp,by simp,by omega,by omega,by omega,by simp;omega,fun e=>by cases e⟩,?_⟩;simp only[go_sem];omega
  ·(refine s.U ?_;simp only[go_sem])
   (refine s.U ?_;simp only[go_sem])
   (refine s.bw [some 0,some 1] ?_;simp only[go_sem])
   exact s.U ⟨aD,af,rfl,rfl,by omega,by omega,by omega,pm⟩
end Go.Proofs.YtpincjkjoeopkaaGreatDoor.Pm
