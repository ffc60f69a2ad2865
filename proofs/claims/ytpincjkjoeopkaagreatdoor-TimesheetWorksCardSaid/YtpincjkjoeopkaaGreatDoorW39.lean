/- Calendar and premiums. -/
import Derived.Test.YtpincjkjoeopkaaGreatDoorW15
import Derived.Test.YtpincjkjoeopkaaGreatDoorW17
import Derived.Test.YtpincjkjoeopkaaGreatDoorW37
import Derived.Test.YtpincjkjoeopkaaGreatDoorW38
import Derived.Test.YtpincjkjoeopkaaGreatDoorW18
import Derived.Test.YtpincjkjoeopkaaGreatDoorW21
import Derived.Test.YtpincjkjoeopkaaGreatDoorW16
set_option linter.all false
namespace Go.Proofs.YtpincjkjoeopkaaGreatDoor.Pm
open Go Go.Abs Go.Proofs.Tryz
def FV:List cX:= [⟨0,1,1,0,0,false⟩,⟨0,12,25,0,0,true⟩,⟨0,2,29,0,0,false⟩,⟨1,0,0,0,1,false⟩,⟨1,0,0,0,-2,false⟩,⟨1,0,0,0,-100,false⟩,⟨2,11,4,3,0,false⟩,⟨2,1,-1,0,0,false⟩,⟨2,1,1,5,0,true⟩,⟨2,12,5,3,7,false⟩,⟨2,1,1,4,-7,false⟩]
theorem aE9:oD FV=true:=by decide
theorem aFa {l:List cX}{h:cX}(hl:oD l=true)(hh:AW h=true):oD (l++ [h])=true:=by
 unfold oD at *;rw[List.all_append,hl];simp[hh]
theorem aii:ai FV= [[.int .i64 0,.int .i64 1,.int .i64 1,.int .i64 0,.int .i64 0,.bool false],[.int .i64 0,.int .i64 12,.int .i64 25,.int .i64 0,.int .i64 0,.bool true],[.int .i64 0,.int .i64 2,.int .i64 29,.int .i64 0,.int .i64 0,.bool false],
 [.int .i64 1,.int .i64 0,.int .i64 0,.int .i64 0,.int .i64 1,.bool false],[.int .i64 1,.int .i64 0,.int .i64 0,.int .i64 0,.int .i64 (-2),.bool false],[.int .i64 1,.int .i64 0,.int .i64 0,.int .i64 0,.int .i64 (-100),.bool false],
 [.int .i64 2,.int .i64 11,.int .i64 4,.int .i64 3,.int .i64 0,.bool false],[.int .i64 2,.int .i64 1,.int .i64 (-1),.int .i64 0,.int .i64 0,.bool false],[.int .i64 2,.int .i64 1,.int .i64 1,.int .i64 5,.int .i64 0,.bool true],
 [.int .i64 2,.int .i64 12,.int .i64 5,.int .i64 3,.int .i64 7,.bool false],[.int .i64 2,.int .i64 1,.int .i64 1,.int .i64 4,.int .i64 (-7),.bool false]]:=rfl
def T6 (rL:Bool)(z:List cX):Prop:=rL=false→oD z=true
theorem ayL (l:List Int)(hl:mW l)(rL:Bool)(az:Int)(h0:0≤az)(h1:az≤l.length):aO prog 63 [.bd 0 1 0 0,.bool rL] [dX 143 l az]
 (fun v rs=> ∃ (a:Int) (z:List cX),0≤a∧a≤l.length∧z.length≤4∧T6 rL z∧v= .own 1 z.length 0 z.length∧rs= [dX 143 l a,.ag 263 6 (ai z)]):=by
 refine cu func63 acP (by simp[CP,FW]) ?_;simp only[go_sem,CP,FW]
 first
 |rw[←aii]
 | (simp only[show Int.negSucc 0= -1 from rfl,show Int.negSucc 1= -2 from rfl,show Int.negSucc 99= -100 from rfl,show Int.negSucc 6= -7 from rfl];rw[←aii])
 (refine lN (hi l hl 4 (by omega)) ?_;rintro _ az _ _ ⟨x,rfl,_,_⟩;simp only[go_sem])
 refine dN (fun D r=> ∃ (a:Int) (j:Nat) (z:List cX),0≤a∧a≤l.length∧z.length+j≤3∧oD z=true∧D= [(0,.bd 0 1 0 0),(1,.bool rL),(5,.own 1 11 0 11),(6,.own 2 z.length 0 z.length),(7,.int .i64 j)]∧r= [dX 143 l a,.ag 263 6 (ai FV),.ag 263 6 (ai z)])
  (fun D _=>match bs D 7 with| .int _ j=>j.toNat|_=>0) ?_ ?_
 ·(refine E.iv 6 263 6 rfl (E.eW [0,1,5,6,7] ?_);simp only[go_sem])
  refine E.ac ⟨az,x.toNat,[],by omega,by omega,by simp;omega,rfl,?_,rfl⟩;rw[show ((x.toNat:Nat):Int)=x from by omega];rfl
 ·rintro D r ⟨az,j,z,h0,h1,N,an,rfl,rfl⟩;simp only[go_sem,CP,FW];refine cf ?_ ?_<;>intro dI<;>simp only[bC] at dI<;>simp only[go_sem,CP,FW]
  ·(refine lN (hi l hl 11 (by omega)) ?_;rintro _ az _ _ ⟨q,rfl,_,_⟩;simp only[go_sem])
   have aV:q.toNat < FV.length:=by show q.toNat < 11;omega
   rw[cT aV];have aij:=ahM aE9 aV;generalize FV[q.toNat]=hh at aij ⊢;have nf:IntKind.i64.wrap ((j:Int)-1)=((j-1:Nat):Int):=by rw[bl (by omega) (by omega)];omega
   refine⟨rfl,by omega,by omega,rfl,?_⟩;simp only[go_sem,TQ,TR,ahN];refine⟨by omega,?_⟩;simp only[go_sem,nf]
   (refine E.bB [some 0,some 1,some 2] ?_;simp only[go_sem])
   refine E.ac ⟨⟨az,j-1,z++ [hh],by omega,by omega,by simp;omega,aFa an aij,?_,rfl⟩,?_⟩
   ·simp
   ·simp only[go_sem];omega
  ·have ww: ∀ (az:Int) (z:List cX) (r:List Z),0≤az→az≤l.length→z.length≤4→T6 rL z→
    E 1 (xP fun v rs=> ∃ (a:Int) (z:List cX),0≤a∧a≤l.length∧z.length≤4∧T6 rL z∧v= .own 1 z.length 0 z.length∧rs= [dX 143 l a,.ag 263 6 (ai z)]) [(0,.own 2 z.length 0 z.length)] (dX 143 l az:: .ag 263 6 (ai FV):: .ag 263 6 (ai z)::r):=by
    intro az z r h0 h1 N an
    (refine E.bB [some 0,some 2] ?_;simp only[go_sem])
    exact E.ac ⟨az,z,h0,h1,N,an,rfl,rfl⟩
   cases rL
   ·simp only[go_sem];exact ww az z [] (by omega) (by omega) (by omega) (fun _=>an)
   ·simp only[go_sem]
    (refine lN (hi l hl 6 (by omega)) ?_;rintro _ az _ _ ⟨q,rfl,_,_⟩;simp only[go_sem])
    refine cf ?_ ?_<;>intro ct<;>simp only[bC] at ct<;>simp only[go_sem,CP,FW]
    ·(refine lN (hi l hl 4 (by omega)) ?_;rintro _ az _ _ ⟨bO,rfl,_,_⟩;simp only[go_sem])
     (refine lN (hi l hl 14 (by omega)) ?_;rintro _ az _ _ ⟨cd,rfl,_,_⟩;simp only[go_sem])
     (refine ja [0,6,31,-1] (ys l hl _ (by simp) (by simp)) ?_;rintro _ az _ _ ⟨fk,cg,rfl⟩;simp only[fR] at cg;simp only[go_sem])
     (refine lN (hi l hl 8 (by omega)) ?_;rintro _ az _ _ ⟨hB,rfl,_,_⟩;simp only[go_sem])
     (refine ja [0,8,101] (ys l hl _ (by simp) (by simp)) ?_;rintro _ az _ _ ⟨jE,cg,rfl⟩;simp only[fR] at cg;simp only[go_sem])
     refine⟨by omega,?_⟩;have he:=ww az (z++ [⟨bO,cd,fk,hB,jE,false⟩]) [.ag 3 1 [[.int .i64 0],[.int .i64 6],[.int .i64 31],[.int .i64 (-1)]],.ag 3 1 [[.int .i64 0],[.int .i64 8],[.int .i64 101]],.ag 263 6 [[.int .i64 bO,.int .i64 cd,.int .i64 fk,.int .i64 hB,.int .i64 jE,.bool false]]] (by omega) (by omega) (by simp;omega) (fun h=>by cases h);rw[←kT,List.length_append] at he;exact he
    ·exact ww az z [] (by omega) (by omega) (by omega) (fun h=>by cases h)
end Go.Proofs.YtpincjkjoeopkaaGreatDoor.Pm
namespace Go.Proofs.YtpincjkjoeopkaaGreatDoor
open Go Go.Abs Go.Proofs.Tryz
set_option maxHeartbeats 4000000 in
theorem aOU (l:List Int)(hl:mW l)(az:Int)(h0:0≤az)(h1:az≤l.length):aO prog 17 [.bd 0 1 0 0,.bool true] [gp l az]
 (fun v rs=> ∃ (a:Int) (z:eD) (ap:List F),v= .agg ap∧hK ap z.J∧rs= [gp l a]∧0≤a∧a≤l.length∧fe z.M=0∧z.M.cS.length≤3∧z.dK.iA.length≤4∧z.ia.eN.length≤3∧z.ia.gL.length≤3∧z.ao.length≤4∧z.al.length≤3):=by
 refine hJ func17 abV (by simp[IA,MN]) ?_;simp only[go_sem,IA,MN,gp]
 (refine E.ac ?_;simp only[go_sem])
 (refine fy [0] (atO l hl az h0 h1) ?_;rintro _ _ ⟨abz,M,rfl,rfl,h0,h1,ba,axb⟩;simp only[go_sem])
 simp only[go_sem,gp,cc.v]
 (refine ja [900,700,10080] (ys l hl _ (by simp) (by simp)) ?_;rintro _ az _ _ ⟨fz,cg,rfl⟩;simp only[fR] at cg;simp only[go_sem])
 have SM:1≤fz∧fz≤10080:=by omega
 clear cg
 (refine ja [60,0,180] (ys l hl _ (by simp) (by simp)) ?_;rintro _ az _ _ ⟨er,cg,rfl⟩;simp only[fR] at cg;simp only[go_sem])
 have abW:0≤er∧er≤1440:=by omega
 clear cg
 (refine ja [120,0] (ys l hl _ (by simp) (by simp)) ?_;rintro _ az _ _ ⟨ex,cg,rfl⟩;simp only[fR] at cg;simp only[go_sem])
 have MO:0≤ex∧ex≤1440:=by omega
 clear cg
 (refine fy [0] (Pr.aPm l hl az (by omega) (by omega)) ?_;rintro _ _ ⟨ff,dK,rfl,rfl,_,_,DO⟩;simp only[go_sem])
 simp only[go_sem,Pr.gp,gp,Pr.Ab]
 (refine fy [0] (Ib.aPn l hl ff (by omega) (by omega)) ?_;rintro _ _ ⟨a3,ia,rfl,rfl,_,_,so,hp⟩;simp only[go_sem])
 simp only[go_sem,Ib.gp,gp,Ib.ib.v]
 (refine fy [0] (Pm.ayK l hl true a3 (by omega) (by omega)) ?_;rintro _ _ ⟨a4,al,rfl,rfl,_,_,sF,_⟩;simp only[go_sem])
 simp only[go_sem,gp]
 (refine fy [0] (Pm.ayL l hl true a4 (by omega) (by omega)) ?_;rintro _ _ ⟨a5,ao,_,_,aJ8,_,rfl,rfl⟩;simp only[go_sem])
 have mT: ∀ r0 r1 cY fY fc Hh ws:Z,bW [r0,r1,cY,fY,fc,.ag 229 7 (ai al),Hh,ws] [some 0,some 1,some 7] [5,6] (.own 5 al.length 0 al.length)= .pure 7 (ai al):=fun _ _ _ _ _ _ _=>qx rfl rfl rfl (by rw[bT]) ck;have abX: ∀ r0 r1 cY fY fc sd ws:Z,bW [r0,r1,cY,fY,fc,sd,.ag 263 6 (ai ao),ws] [some 0,some 1,some 7] [5,6] (.own 6 ao.length 0 ao.length)= .pure 6 (ai ao):=fun _ _ _ _ _ _ _=>qx rfl rfl rfl (by rw[bT]) ck;refine E.jN [some 0,some 1,some 7] [5,6] rfl rfl (by simp only[go_sem,mT,abX,ck]<;>rfl) ?_;simp only[go_sem,mT,abX]
 (refine E.ac ?_;simp only[go_sem])
 (refine lN (hi l hl 2 (by omega)) ?_;rintro _ az _ _ ⟨q,rfl,_,_⟩;simp only[go_sem])
 (refine E.ac ?_;simp only[go_sem])
 refine arL (E 1 fun D r=> ∃ (a:Int) (M:cc) (aLu:F),bs D 0= .bd 0 1 0 0∧bs D 1= .bool true∧bs D 4= .bd 1 1 0 0∧bs D 5= .bd 2 1 0 0∧r= [dX 143 l a,.ag 42 14 [[.int .i64 0,.bH,.int .i64 0,.int .i64 0,.int .i64 0,.int .i64 0,.int .i64 0,.int .i64 0,.bH,.str ⟨#[]⟩,.bH,.bH,.bH,.bH]],.ag 42 14 [[.int .i64 M.off,aLu,.int .i64 fz,.int .i64 er,.int .i64 ex,.int .i64 dK.eI,.int .i64 dK.lw,.int .i64 dK.lP,.pure 2 (ai dK.iA),.str ia.ef,.pure 2 (ai ia.eN),.pure 2 (ai ia.gL),.pure 7 (ai al),.pure 6 (ai ao)]]]∧0≤a∧a≤l.length∧(aLu= .bH∧M.cS= []∨aLu= .pure 2 (ai M.cS))∧fe M=0∧M.cS.length≤3) ?_ ?_ ?_
 ·intro aw;simp only[go_sem,IA,MN]
  (refine ja [0,60] (ys l hl _ (by simp) (by simp)) ?_;rintro _ az _ _ ⟨o,cg,rfl⟩;simp only[fR] at cg;simp only[go_sem])
  have bp:o=0∨o=60:=cg;clear cg;have th:fe ⟨o,[]⟩=0:=by rcases bp with rfl|rfl<;>decide
  (refine E.bB [some 0,some 1,some 2] ?_;simp only[go_sem])
  exact E.ac ⟨az,⟨o,[]⟩,_,rfl,rfl,rfl,rfl,rfl,by omega,by omega,.inl ⟨rfl,rfl⟩,th,by simp⟩
 ·intro aw;simp only[go_sem,IA,MN];exact E.ac ⟨az,M,_,rfl,rfl,rfl,rfl,rfl,by omega,by omega,.inr rfl,ba,axb⟩
 ·intro e z h;refine E.mono ?_ h;rintro D r ⟨az,M,aLu,Us,xu,xb,Dd,rfl,_,_,abe,aJL,JL⟩;have ob:bJ aLu=true:=by
   rcases abe with ⟨rfl,_⟩|rfl
   ·rfl
   ·simp only[bJ,ck]
  simp only[go_sem,IA,MN,Us,xu,xb,Dd]
  (refine lN (hi l hl 8 (by omega)) ?_;rintro _ az _ _ ⟨w,rfl,_,_⟩;simp only[go_sem])
  simp only[Us,xu,xb,Dd]
  (refine E.ac ?_;simp only[go_sem])
  refine arL (E 1 fun D r=> ∃ (a fz er:Int),bs D 4= .bd 1 1 0 0∧bs D 5= .bd 2 1 0 0∧r= [dX 143 l a,.ag 42 14 [[.int .i64 0,.bH,.int .i64 0,.int .i64 0,.int .i64 0,.int .i64 0,.int .i64 0,.int .i64 0,.bH,.str ⟨#[]⟩,.bH,.bH,.bH,.bH]],.ag 42 14 [[.int .i64 M.off,aLu,.int .i64 fz,.int .i64 er,.int .i64 ex,.int .i64 dK.eI,.int .i64 dK.lw,.int .i64 dK.lP,.pure 2 (ai dK.iA),.str ia.ef,.pure 2 (ai ia.eN),.pure 2 (ai ia.gL),.pure 7 (ai al),.pure 6 (ai ao)]]]∧0≤a∧a≤l.length) ?_ ?_ ?_
  ·intro aw;simp only[go_sem,IA,MN]
   (refine ja [0,10081,5] (ys l hl _ (by simp) (by simp)) ?_;rintro _ az _ _ ⟨fz,cg,rfl⟩;simp only[fR] at cg;simp only[go_sem])
   clear cg
   (refine ja [-1,1441,0] (ys l hl _ (by simp) (by simp)) ?_;rintro _ az _ _ ⟨er,cg,rfl⟩;simp only[fR] at cg;simp only[go_sem])
   clear cg
   (refine E.bB [some 0,some 1,some 2] ?_;simp only[go_sem])
   try simp only[go_sem,ob]
   exact E.ac ⟨az,fz,er,rfl,rfl,rfl,by omega,by omega⟩
  ·intro aw;simp only[go_sem,IA,MN];exact E.ac ⟨az,fz,er,rfl,rfl,rfl,by omega,by omega⟩
  ·intro e z h;refine E.mono ?_ h;rintro D r ⟨az,fz,er,xb,Dd,rfl,_,_⟩;rcases abe with ⟨rfl,jD⟩|rfl
   all_goals
    simp only[go_sem,xb,Dd]
    repeat (refine E.ac ?_;simp only[go_sem])
    (refine E.bB [some 0] ?_;simp only[go_sem])
    refine E.ac ⟨az,⟨M,fz,er,ex,dK,ia,al,ao⟩,_,rfl,?_,rfl,by omega,by omega,aJL,JL,DO,so,hp,aJ8,sF⟩;simp[eD.J,hK,le,ai, *]
theorem YC {l:List cw}{a b B:Int}:ai l++ [[.int .i64 a,.int .i64 b,.int .i64 B]]=ai (l++ [⟨a,b,B⟩]):=kT (x:=cw.mk a b B)
def QI:ByteArray:=⟨#[115,105,99,107]⟩
def QJ:ByteArray:=⟨#[108,101,97,118,101]⟩
def QK:ByteArray:=⟨#[111,116,49]⟩
def wy (M:cc):Int→List cw→Int
 |e,[]=>e
 |_,I::l=>wy M (fW M I).ab l
theorem YE {M:cc}{I:cw}(ao:ew M I=0): ∀ {l:List cw} {e:Int},ou M e l=0→wy M e l≤(fW M I).R→ou M e (l++ [I])=0∧wy M e (l++ [I])=(fW M I).ab
 | [],e,_,h=>by
  rw[wy] at h;rw[List.nil_append,ou,if_pos ao,if_neg (by omega),ou,wy,wy];exact⟨rfl,rfl⟩
 |x::l,e,h,G=>by
  rw[ou] at h;rw[wy] at G;rw[List.cons_append,ou,wy]
  by_cases aj:ew M x=0
  ·rw[if_pos aj] at h ⊢;split at h
   ·cases h
   ·rename_i au;rw[if_neg au];exact YE ao h G
  ·rw[if_neg aj] at h;exact absurd h aj
theorem atZ {t:Int}(h0:0≤t)(h1:t≤120968639):uY ⟨0,[]⟩ t=t:=by
 unfold uY;rw[if_neg (by omega)];simp only[ml,tA];rw[show max 0 (max t (-840)-0)=t by omega,if_pos (by omega)]
theorem aua {I:cw}(h:yh I)(G:I.ah*1440+I.bw+I.cN≤120968640):ew ⟨0,[]⟩ I=0∧fW ⟨0,[]⟩ I=⟨I.ah*1440+I.bw,I.ah*1440+I.bw+I.cN⟩:=by
 have cR:=h;unfold yh at cR;have e:qB ⟨0,[]⟩ I=I.ah*1440+I.bw:=atZ (by omega) (by omega);have bF:ew ⟨0,[]⟩ I=0:=by
  unfold ew;rw[if_pos (show fe ⟨0,[]⟩=0 from rfl),if_pos h,e,if_neg (by omega)]
 exact⟨bF,by unfold fW;rw[if_pos bF,e]⟩
def LE (ae:List cw)(aW:Int):Prop:=ou ⟨0,[]⟩ 0 ae=0∧wy ⟨0,[]⟩ 0 ae≤aW
def Ht (ae:List cw)(B:Int):Prop:=LE ae ((20454+B)*1440+360)
theorem QL {ae:List cw}{aW:Int}{I:cw}(h:LE ae aW)(ao: (20454≤I.ah∧I.ah≤21000)∧(0≤I.bw∧I.bw < 1440)∧1≤I.cN∧I.cN≤1440)(hN:aW≤I.ah*1440+I.bw)(e:Int)(he:I.ah*1440+I.bw+I.cN≤e):LE (ae++ [I]) e:=by
 obtain⟨h1,G⟩:=h;obtain⟨a,b⟩:=aua (I:=I) ⟨by omega,by omega,by omega⟩ (by omega);obtain⟨J,f⟩:=YE a h1 (by rw[b];simp only;omega);exact⟨J,by rw[f,b];simp only;omega⟩
theorem YF {ae:List cw}{B:Int}{I:cw}(h:Ht ae B)(ay:0≤B∧B≤500)(ao:I.ah=20454+B∧360≤I.bw∧I.bw < 1440∧1≤I.cN∧I.cN≤1440)(e:Int)(he:I.ah*1440+I.bw+I.cN≤(20454+e)*1440+360):
 Ht (ae++ [I]) e:=QL h (by omega) (by omega) _ he
theorem aub {ae:List cw}{B:Int}(h:Ht ae B)(hl:ae.length≤1024):jd ⟨0,[]⟩ ae=0:=by
 unfold jd;rw[if_neg (by omega),if_pos (show fe ⟨0,[]⟩=0 from rfl)];exact h.1
def Hu (ae:List cw)(B:Int):Prop:=(∀ x,(ae.filter fun I=>decide (I.ah=x)).length≤2)∧ ∀ I∈ae,I.ah < 20454+B
theorem QM {ae S:List cw}{B e:Int}(h:Hu ae B)(du: ∀ I∈S,I.ah=20454+B)(hl:S.length≤2)(he:B < e):Hu (ae++S) e:=by
 refine⟨fun x=> ?_,fun I ao=> ?_⟩
 ·rw[List.filter_append,List.length_append];have h1:=h.1 x
  by_cases aj:x=20454+B
  ·have:ae.filter (fun I=>decide (I.ah=x))= []:=List.filter_eq_nil_iff.2 fun I ao=>by
    have:=h.2 I ao;simp;omega
   rw[this];have:=List.length_filter_le (fun I:cw=>decide (I.ah=x)) S;simp;omega
  ·have:S.filter (fun I=>decide (I.ah=x))= []:=List.filter_eq_nil_iff.2 fun I ao=>by
    have:=du I ao;simp;omega
   rw[this];simpa using h1
 ·rcases List.mem_append.1 ao with ao|ao
  ·have:=h.2 I ao;omega
  ·have:=du I ao;omega
theorem auc {ae:List cw}{B e:Int}(h:Hu ae B)(he:B≤e):Hu ae e:=⟨h.1,fun I ao=>by have:=h.2 I ao;omega⟩
def EL (I:cw):Prop:=20454≤I.ah∧I.ah≤20554∧1≤I.cN∧I.cN≤510
theorem aud (l:List Int)(hl:mW l)(n:Int)(LD:0≤n)(aH:n≤50)(az:Int)(h0:0≤az)(h1:az≤l.length):aO prog 18 [.bd 0 1 0 0,.int .i64 n] [gp l az]
 (fun v rs=> ∃ (a:Int) (ae:List cw),v= .own 1 ae.length 0 ae.length∧rs= [gp l a,.ag 140 3 (ai ae)]∧0≤a∧a≤l.length∧ae.length≤2*n∧jd ⟨0,[]⟩ ae=0∧(∀ x,(ae.filter fun I=>decide (I.ah=x)).length≤2)∧ ∀ I∈ae,EL I):=by
 refine hJ func18 YG (by simp[EM,Hv]) ?_;simp only[go_sem,EM,Hv,gp]
 (refine E.ac ?_;simp only[go_sem])
 (refine E.ac ?_;simp only[go_sem])
 refine E.ac ?_
 try simp only[go_sem]
 refine hv (fun D r=> ∃ (a:Int) (ae:List cw) (B:Int),D= [(0,.bd 0 1 0 0),(1,.int .i64 n),(5,.own 1 ae.length 0 ae.length),(6,.int .i64 B)]∧r= [dX 143 l a,.ag 140 3 (ai ae)]∧0≤a∧a≤l.length∧0≤B∧B≤n+1∧ae.length≤2*B∧ae.length≤2*n∧Ht ae B∧Hu ae B∧ ∀ I∈ae,EL I)
  (fun D _=>match bs D 6 with| .int _ j=>(n+1-j).toNat|_=>0) ?_ ?_
 ·(refine E.iv 5 140 3 rfl (E.eW [0,1,5,6] ?_);simp only[go_sem])
  exact E.ac ⟨az,[],0,rfl,rfl,by omega,by omega,by omega,by omega,by simp,by simp;omega,⟨rfl,by simp[wy]⟩,⟨by simp,by simp⟩,by simp⟩
 rintro D r ⟨az,ae,B,rfl,rfl,_,_,EN,LF,iK,Ci,EO,pM,kk⟩;simp only[go_sem,EM,Hv]
 (refine E.ac ?_;simp only[go_sem])
 refine dj ?_ ?_<;>intro aw<;>simp only[bC] at aw<;>simp only[go_sem,EM,Hv]
 ·(refine E.ac ?_;simp only[go_sem])
  (refine lN (hi l hl 5 (by omega)) ?_;rintro _ az _ _ ⟨J,rfl,_,_⟩;simp only[go_sem])
  have wx:IntKind.i64.wrap (20454+B)=20454+B:=bl (by omega) (by omega);have LG:IntKind.i64.wrap (B+1)=B+1:=bl (by omega) (by omega);have aue:IntKind.i64.wrap (B+1+1)=B+2:=by rw[bl (by omega) (by omega)];omega
  rcases (show J=0∨J=1∨J=2∨(3≤J∧J < 5) by omega) with rfl|rfl|rfl|ad
  ·(refine E.ac ?_;simp only[go_sem])
   (refine E.ac ?_;simp only[go_sem])
   try rw[wx]
   (refine ja [480,360,450] (ys l hl _ (by simp) (by simp)) ?_;rintro _ az _ _ ⟨I,cg,rfl⟩;simp only[fR] at cg;simp only[go_sem])
   have ao:I=480∨I=360∨I=450:=cg;clear cg
   (refine ja [480,510,300] (ys l hl _ (by simp) (by simp)) ?_;rintro _ az _ _ ⟨m,cg,rfl⟩;simp only[fR] at cg;simp only[go_sem])
   have hm:m=480∨m=510∨m=300:=cg;clear cg;refine⟨by omega,?_⟩;rw[YC]
   (refine E.bB [some 0,some 1] ?_;simp only[go_sem])
   (refine E.ac ?_;simp only[go_sem])
   rw[LG];refine E.ac ⟨⟨az,_,B+1,by rw[List.length_append];rfl,rfl,by omega,by omega,by omega,by omega,?_,?_,YF EO (by omega) ?_ _ ?_,QM pM (by simp) (by simp) (by omega),?_⟩,?_⟩
   ·rw[List.length_append,List.length_singleton];omega
   ·rw[List.length_append,List.length_singleton];omega
   ·simp only[true_and];omega
   ·simp only;omega
   ·intro d bt;rcases List.mem_append.1 bt with bt|bt
    ·exact kk d bt
    ·rw[List.mem_singleton] at bt;subst bt;unfold EL;simp only;omega
   ·simp only[go_sem];omega
  ·(refine E.ac ?_;simp only[go_sem])
   (refine E.ac ?_;simp only[go_sem])
   (refine E.ac ?_;simp only[go_sem])
   try rw[wx]
   refine⟨by omega,?_⟩;rw[YC]
   (refine E.bB [some 0,some 1] ?_;simp only[go_sem])
   (refine E.ac ?_;simp only[go_sem])
   (refine E.ac ?_;simp only[go_sem])
   rw[LG,aue];refine E.ac ⟨⟨az,_,B+2,by rw[List.length_append];rfl,rfl,by omega,by omega,by omega,by omega,?_,?_,YF EO (by omega) ?_ _ ?_,QM pM (by simp) (by simp) (by omega),?_⟩,?_⟩
   ·rw[List.length_append,List.length_singleton];omega
   ·rw[List.length_append,List.length_singleton];omega
   ·simp only[true_and];omega
   ·simp only;omega
   ·intro d bt;rcases List.mem_append.1 bt with bt|bt
    ·exact kk d bt
    ·rw[List.mem_singleton] at bt;subst bt;unfold EL;simp only;omega
   ·simp only[go_sem];omega
  ·(refine E.ac ?_;simp only[go_sem])
   (refine E.ac ?_;simp only[go_sem])
   (refine E.ac ?_;simp only[go_sem])
   (refine E.ac ?_;simp only[go_sem])
   try rw[wx]
   (refine ja [240,60] (ys l hl _ (by simp) (by simp)) ?_;rintro _ az _ _ ⟨m,cg,rfl⟩;simp only[fR] at cg;simp only[go_sem])
   have hm:m=240∨m=60:=cg;clear cg;refine⟨by omega,?_⟩;have aV:ai ae++ [[.int .i64 (20454+B),.int .i64 360,.int .i64 240],[.int .i64 (20454+B),.int .i64 720,.int .i64 m]]=ai (ae++ [⟨20454+B,360,240⟩]++ [⟨20454+B,720,m⟩]):=by
    rw[←kT,←kT,List.append_assoc];rfl
   rw[aV]
   (refine E.bB [some 0,some 1] ?_;simp only[go_sem])
   (refine E.ac ?_;simp only[go_sem])
   rw[LG];have h1:LE (ae++ [⟨20454+B,360,240⟩]) ((20454+B)*1440+600):=QL EO (by simp only;omega) (by simp only;omega) _ (by simp only;omega);have G:Ht (ae++ [⟨20454+B,360,240⟩]++ [⟨20454+B,720,m⟩]) (B+1):=QL h1 (by simp only;omega) (by simp only;omega) _ (by simp only;omega);have cK: (ae++ [(⟨20454+B,360,240⟩:cw)]++ [(⟨20454+B,720,m⟩:cw)]).length=ae.length+2:=by simp
   refine E.ac ⟨⟨az,_,B+1,by rw[cK],rfl,by omega,by omega,by omega,by omega,by rw[cK];omega,by rw[cK];omega,G,by rw[List.append_assoc];exact QM pM (by simp) (by simp) (by omega),?_⟩,?_⟩
   ·intro d bt;rcases List.mem_append.1 bt with bt|bt
    ·rcases List.mem_append.1 bt with bt|bt
     ·exact kk d bt
     ·rw[List.mem_singleton] at bt;subst bt;unfold EL;simp only;omega
    ·rw[List.mem_singleton] at bt;subst bt;unfold EL;simp only;omega
   ·simp only[go_sem];omega
  ·have iI: (J==0)=false:=beq_eq_false_iff_ne.2 (by omega);have bF: (J==1)=false:=beq_eq_false_iff_ne.2 (by omega);have bK: (J==2)=false:=beq_eq_false_iff_ne.2 (by omega);refine E.ac ?_;simp only[go_sem,iI,bF,bK];refine E.ac ?_;simp only[go_sem,iI,bF,bK];refine E.ac ?_;simp only[go_sem,iI,bF,bK];refine E.ac ?_;simp only[go_sem,iI,bF,bK];refine E.ac ?_;simp only[go_sem,iI,bF,bK];refine E.ac ?_;simp only[go_sem,iI,bF,bK];rw[LG];obtain⟨h1,G⟩:=EO;refine⟨⟨az,ae,B+1,rfl,rfl,by omega,by omega,by omega,by omega,by omega,by omega,⟨h1,by omega⟩,auc pM (by omega),kk⟩,by omega⟩
 ·(refine E.ac ?_;simp only[go_sem])
  (refine E.ac ?_;simp only[go_sem])
  exact E.ac ⟨az,ae,rfl,rfl,by omega,by omega,Ci,aub EO (by omega),pM.1,kk⟩
mutual
theorem axq: ∀ (a b:F),le a b→bJ b=true→bJ a=true
 | .bH,_,_,_=>rfl
 | .agg aq,.agg i,h,k=>by
  simp only[bJ] at k ⊢;simp only[le] at h;exact Fc aq i h k
 | .bo aq,.bo i,h,k=>by
  simp only[bJ] at k ⊢;simp only[le] at h;exact Fc aq i h k
 |a,b,h,k=>by
  unfold le at h;split at h
  ·rfl
  ·rename_i aq i;simp only[bJ] at k ⊢;exact Fc aq i h k
  ·rename_i aq i;simp only[bJ] at k ⊢;exact Fc aq i h k
  ·rw[h];exact k
theorem Fc: ∀ (aq i:List F),hK aq i→bU i=true→bU aq=true
 | [],_,_,_=>rfl
 |a::aq,b::i,h,k=>by
  simp only[bU,Bool.and_eq_true] at k ⊢;simp only[hK] at h;exact⟨axq a b h.1 k.1,Fc aq i h.2 k.2⟩
 |_::_,[],h,_=>by simp only[hK] at h
end
theorem axr: ∀ (a b:F),le a b→Abs.cV b=true→Abs.cV a=true:=by
 intro a b h k;unfold le at h;split at h
 ·rfl
 ·simp[Abs.cV] at k
 ·simp[Abs.cV] at k
 ·rw[h];exact k
theorem abp: ∀ (aq i:List F),hK aq i→i.all Abs.cV=true→aq.length=i.length∧aq.all Abs.cV=true
 | [],[],_,_=>⟨rfl,rfl⟩
 |a::aq,b::i,h,k=>by
  simp only[hK] at h;simp only[List.all_cons,Bool.and_eq_true,List.length_cons] at k ⊢;obtain⟨h1,G⟩:=abp aq i h.2 k.2;exact⟨by omega,axr a b h.1 k.1,G⟩
 | [],_::_,h,_=>by simp only[hK] at h
 |_::_,[],h,_=>by simp only[hK] at h
end Go.Proofs.YtpincjkjoeopkaaGreatDoor
