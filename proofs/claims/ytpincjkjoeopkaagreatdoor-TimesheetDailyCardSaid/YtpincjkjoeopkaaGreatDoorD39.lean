/- Time evaluation. -/
import Derived.Test.YtpincjkjoeopkaaGreatDoorD30
import Derived.Test.YtpincjkjoeopkaaGreatDoorD38
set_option linter.all false
namespace Go.Proofs.YtpincjkjoeopkaaGreatDoor
open Go Go.Abs Go.Proofs.Tryz
theorem aK2 {l:List eH}{a b B:Int}{I:ByteArray}:ai l++ [[.int .i64 a,.int .i64 b,.str I,.int .i64 B]]=ai (l++ [⟨a,b,I,B⟩]):=kT (x:=eH.mk a b I B)
theorem YC {l:List cw}{a b B:Int}:ai l++ [[.int .i64 a,.int .i64 b,.int .i64 B]]=ai (l++ [⟨a,b,B⟩]):=kT (x:=cw.mk a b B)
def QI:ByteArray:=⟨#[115,105,99,107]⟩
def QJ:ByteArray:=⟨#[108,101,97,118,101]⟩
def QK:ByteArray:=⟨#[111,116,49]⟩
def LC (a:eH):Prop:=(a.bk=1∨a.bk=2)∧20454≤a.ah∧a.ah≤20458∧(a.name=QI∨a.name=QJ∨a.name=QK)∧(a.min= -1∨a.min=480∨a.min=0∨a.min=60)
theorem aJC (l:List Int)(hl:mW l)(n:Int)(LD:0≤n)(aH:n≤1000)(az:Int)(h0:0≤az)(h1:az≤l.length):aO prog 24 [.bd 0 1 0 0,.int .i64 n] [gp l az]
 (fun v rs=> ∃ (a:Int) (aq:List eH),v= .own 1 aq.length 0 aq.length∧rs= [gp l a,.ag 25 4 (ai aq)]∧0≤a∧a≤l.length∧aq.length≤n∧ ∀ x∈aq,LC x):=by
 refine hJ func24 YD (by simp[a24,Hr]) ?_;simp only[go_sem,a24,Hr,gp];have Hs:IntKind.i64.wrap (n+1)=n+1:=bl (by omega) (by omega)
 (refine E.ac ?_;simp only[go_sem])
 (refine E.ac ?_;simp only[go_sem])
 rw[Hs]
 (refine lN (hi l hl (n+1) (by omega)) ?_;rintro _ az _ _ ⟨k,rfl,_,_⟩;simp only[go_sem])
 (refine E.ac ?_;simp only[go_sem])
 refine hv (fun D r=> ∃ (a:Int) (aq:List eH) (j:Int),D= [(0,.bd 0 1 0 0),(5,.own 1 aq.length 0 aq.length),(6,.int .i64 j)]∧r= [dX 143 l a,.ag 25 4 (ai aq)]∧0≤a∧a≤l.length∧0≤j∧aq.length+j≤n∧ ∀ x∈aq,LC x)
  (fun D _=>match bs D 6 with| .int _ j=>j.toNat|_=>0) ?_ ?_
 ·(refine E.iv 5 25 4 rfl (E.eW [0,5,6] ?_);simp only[go_sem])
  exact E.ac ⟨az,[],k,rfl,rfl,by omega,by omega,by omega,by simp;omega,by simp⟩
 rintro D r ⟨az,aq,j,rfl,rfl,_,_,_,jK,ts⟩;simp only[go_sem,a24,Hr]
 (refine E.ac ?_;simp only[go_sem])
 refine dj ?_ ?_<;>intro aw<;>simp only[bC] at aw<;>simp only[go_sem,a24,Hr]
 ·(refine E.ac ?_;simp only[go_sem])
  (refine xW (hi l hl 4 (by omega)) ?_;rintro _ az _ _ ⟨e,rfl,_,_⟩;simp only[go_sem])
  have he:e.tdiv 3=0∨e.tdiv 3=1:=by rw[Int.tdiv_eq_ediv_of_nonneg (by omega)];omega
  generalize e.tdiv 3=q at *;have atX:IntKind.i64.wrap q=q:=bl (by omega) (by omega);have atY:IntKind.i64.wrap (1+q)=1+q:=bl (by omega) (by omega);simp only[go_sem,atX,atY];refine⟨by omega,?_⟩
  (refine xW (hi l hl 5 (by omega)) ?_;rintro _ az _ _ ⟨B,rfl,_,_⟩;simp only[go_sem])
  have wx:IntKind.i64.wrap (20454+B)=20454+B:=bl (by omega) (by omega);simp only[go_sem,wx]
  (refine xW (hi l hl 3 (by omega)) ?_;rintro _ az _ _ ⟨x,rfl,_,_⟩;simp only[go_sem])
  refine⟨by omega,by omega,?_⟩
  (refine G4 [-1,480,0,60] (hj l hl _ (by simp) (by simp)) ?_;rintro _ az _ _ ⟨m,cg,rfl⟩;simp only[fR] at cg;simp only[go_sem])
  have hm:=cg;clear cg;rcases (show x=0∨x=1∨x=2 by omega) with rfl|rfl|rfl
  all_goals
   simp only[go_sem]
   try refine⟨by omega,?_⟩
  ·(refine E.bB [some 0,some 1] ?_;simp only[go_sem])
   (refine E.ac ?_;simp only[go_sem])
   rw[bl (by omega) (by omega)];refine E.ac ⟨⟨az,aq++ [⟨1+q,20454+B,QI,m⟩],j-1,by simp,by rw[←kT];rfl,by omega,by omega,by omega,by simp;omega,?_⟩,?_⟩
   ·intro y bt;rcases List.mem_append.1 bt with bt|bt
    ·exact ts y bt
    ·rw[List.mem_singleton] at bt;subst bt;refine⟨by simp only;omega,by simp only;omega,by simp only;omega,by simp,by simp only;omega⟩
   ·simp only[go_sem];omega
  ·(refine E.bB [some 0,some 1] ?_;simp only[go_sem])
   (refine E.ac ?_;simp only[go_sem])
   rw[bl (by omega) (by omega)];refine E.ac ⟨⟨az,aq++ [⟨1+q,20454+B,QJ,m⟩],j-1,by simp,by rw[←kT];rfl,by omega,by omega,by omega,by simp;omega,?_⟩,?_⟩
   ·intro y bt;rcases List.mem_append.1 bt with bt|bt
    ·exact ts y bt
    ·rw[List.mem_singleton] at bt;subst bt;refine⟨by simp only;omega,by simp only;omega,by simp only;omega,by simp,by simp only;omega⟩
   ·simp only[go_sem];omega
  ·(refine E.bB [some 0,some 1] ?_;simp only[go_sem])
   (refine E.ac ?_;simp only[go_sem])
   rw[bl (by omega) (by omega)];refine E.ac ⟨⟨az,aq++ [⟨1+q,20454+B,QK,m⟩],j-1,by simp,by rw[←kT];rfl,by omega,by omega,by omega,by simp;omega,?_⟩,?_⟩
   ·intro y bt;rcases List.mem_append.1 bt with bt|bt
    ·exact ts y bt
    ·rw[List.mem_singleton] at bt;subst bt;refine⟨by simp only;omega,by simp only;omega,by simp only;omega,by simp,by simp only;omega⟩
   ·simp only[go_sem];omega
 ·(refine E.ac ?_;simp only[go_sem])
  (refine E.ac ?_;simp only[go_sem])
  exact E.ac ⟨az,aq,rfl,rfl,by omega,by omega,by omega,ts⟩
def wy (M:cc):Int→List cw→Int
 |e,[]=>e
 |_,I::l=>wy M (fW M I).ab l
theorem YE {M:cc}{I:cw}(ao:ew M I=0): ∀ {l:List cw} {e:Int},ou M e l=0→wy M e l≤(fW M I).R→ou M e (l++ [I])=0∧wy M e (l++ [I])=(fW M I).ab
 | [],e,_,h=>by
  rw[wy] at h;rw[List.nil_append,ou,if_pos ao,if_neg (by omega),ou,wy,wy];exact⟨rfl,rfl⟩
 |x::l,e,h,G=>by
  rw[ou] at h;rw[wy] at G;rw[List.cons_append,ou,wy]
  by_cases aj:ew M x=0
  ·rw[if_pos aj] at h ⊢;split at h
   ·cases h
   ·rename_i au;rw[if_neg au];exact YE ao h G
  ·rw[if_neg aj] at h;exact absurd h aj
theorem atZ {t:Int}(h0:0≤t)(h1:t≤120968639):uY ⟨0,[]⟩ t=t:=by
 unfold uY;rw[if_neg (by omega)];simp only[ml,tA];rw[show max 0 (max t (-840)-0)=t by omega,if_pos (by omega)]
theorem aua {I:cw}(h:yh I)(G:I.ah*1440+I.bw+I.cN≤120968640):ew ⟨0,[]⟩ I=0∧fW ⟨0,[]⟩ I=⟨I.ah*1440+I.bw,I.ah*1440+I.bw+I.cN⟩:=by
 have cR:=h;unfold yh at cR;have e:qB ⟨0,[]⟩ I=I.ah*1440+I.bw:=atZ (by omega) (by omega);have bF:ew ⟨0,[]⟩ I=0:=by
  unfold ew;rw[if_pos (show fe ⟨0,[]⟩=0 from rfl),if_pos h,e,if_neg (by omega)]
 exact⟨bF,by unfold fW;rw[if_pos bF,e]⟩
def LE (ae:List cw)(aW:Int):Prop:=ou ⟨0,[]⟩ 0 ae=0∧wy ⟨0,[]⟩ 0 ae≤aW
def Ht (ae:List cw)(B:Int):Prop:=LE ae ((20454+B)*1440+360)
theorem QL {ae:List cw}{aW:Int}{I:cw}(h:LE ae aW)(ao: (20454≤I.ah∧I.ah≤21000)∧(0≤I.bw∧I.bw < 1440)∧1≤I.cN∧I.cN≤1440)(hN:aW≤I.ah*1440+I.bw)(e:Int)(he:I.ah*1440+I.bw+I.cN≤e):LE (ae++ [I]) e:=by
 obtain⟨h1,G⟩:=h;obtain⟨a,b⟩:=aua (I:=I) ⟨by omega,by omega,by omega⟩ (by omega);obtain⟨J,f⟩:=YE a h1 (by rw[b];simp only;omega);exact⟨J,by rw[f,b];simp only;omega⟩
theorem YF {ae:List cw}{B:Int}{I:cw}(h:Ht ae B)(ay:0≤B∧B≤500)(ao:I.ah=20454+B∧360≤I.bw∧I.bw < 1440∧1≤I.cN∧I.cN≤1440)(e:Int)(he:I.ah*1440+I.bw+I.cN≤(20454+e)*1440+360):
 Ht (ae++ [I]) e:=QL h (by omega) (by omega) _ he
theorem aub {ae:List cw}{B:Int}(h:Ht ae B)(hl:ae.length≤1024):jd ⟨0,[]⟩ ae=0:=by
 unfold jd;rw[if_neg (by omega),if_pos (show fe ⟨0,[]⟩=0 from rfl)];exact h.1
def Hu (ae:List cw)(B:Int):Prop:=(∀ x,(ae.filter fun I=>decide (I.ah=x)).length≤2)∧ ∀ I∈ae,I.ah < 20454+B
theorem QM {ae S:List cw}{B e:Int}(h:Hu ae B)(du: ∀ I∈S,I.ah=20454+B)(hl:S.length≤2)(he:B < e):Hu (ae++S) e:=by
 refine⟨fun x=> ?_,fun I ao=> ?_⟩
 ·rw[List.filter_append,List.length_append];have h1:=h.1 x
  by_cases aj:x=20454+B
  ·have:ae.filter (fun I=>decide (I.ah=x))= []:=List.filter_eq_nil_iff.2 fun I ao=>by
    have:=h.2 I ao;simp;omega
   rw[this];have:=List.length_filter_le (fun I:cw=>decide (I.ah=x)) S;simp;omega
  ·have:S.filter (fun I=>decide (I.ah=x))= []:=List.filter_eq_nil_iff.2 fun I ao=>by
    have:=du I ao;simp;omega
   rw[this];simpa using h1
 ·rcases List.mem_append.1 ao with ao|ao
  ·have:=h.2 I ao;omega
  ·have:=du I ao;omega
theorem auc {ae:List cw}{B e:Int}(h:Hu ae B)(he:B≤e):Hu ae e:=⟨h.1,fun I ao=>by have:=h.2 I ao;omega⟩
def EL (I:cw):Prop:=20454≤I.ah∧I.ah≤20554∧1≤I.cN∧I.cN≤510
theorem aud (l:List Int)(hl:mW l)(n:Int)(LD:0≤n)(aH:n≤50)(az:Int)(h0:0≤az)(h1:az≤l.length):aO prog 18 [.bd 0 1 0 0,.int .i64 n] [gp l az]
 (fun v rs=> ∃ (a:Int) (ae:List cw),v= .own 1 ae.length 0 ae.length∧rs= [gp l a,.ag 140 3 (ai ae)]∧0≤a∧a≤l.length∧ae.length≤2*n∧jd ⟨0,[]⟩ ae=0∧(∀ x,(ae.filter fun I=>decide (I.ah=x)).length≤2)∧ ∀ I∈ae,EL I):=by
 refine hJ func18 YG (by simp[EM,Hv]) ?_;simp only[go_sem,EM,Hv,gp]
 (refine E.ac ?_;simp only[go_sem])
 (refine E.ac ?_;simp only[go_sem])
 refine E.ac ?_
 try simp only[go_sem]
 refine hv (fun D r=> ∃ (a:Int) (ae:List cw) (B:Int),D= [(0,.bd 0 1 0 0),(1,.int .i64 n),(5,.own 1 ae.length 0 ae.length),(6,.int .i64 B)]∧r= [dX 143 l a,.ag 140 3 (ai ae)]∧0≤a∧a≤l.length∧0≤B∧B≤n+1∧ae.length≤2*B∧ae.length≤2*n∧Ht ae B∧Hu ae B∧ ∀ I∈ae,EL I)
  (fun D _=>match bs D 6 with| .int _ j=>(n+1-j).toNat|_=>0) ?_ ?_
 ·(refine E.iv 5 140 3 rfl (E.eW [0,1,5,6] ?_);simp only[go_sem])
  exact E.ac ⟨az,[],0,rfl,rfl,by omega,by omega,by omega,by omega,by simp,by simp;omega,⟨rfl,by simp[wy]⟩,⟨by simp,by simp⟩,by simp⟩
 rintro D r ⟨az,ae,B,rfl,rfl,_,_,EN,LF,iK,Ci,EO,pM,kk⟩;simp only[go_sem,EM,Hv]
 (refine E.ac ?_;simp only[go_sem])
 refine dj ?_ ?_<;>intro aw<;>simp only[bC] at aw<;>simp only[go_sem,EM,Hv]
 ·(refine E.ac ?_;simp only[go_sem])
  (refine lN (hi l hl 5 (by omega)) ?_;rintro _ az _ _ ⟨J,rfl,_,_⟩;simp only[go_sem])
  have wx:IntKind.i64.wrap (20454+B)=20454+B:=bl (by omega) (by omega);have LG:IntKind.i64.wrap (B+1)=B+1:=bl (by omega) (by omega);have aue:IntKind.i64.wrap (B+1+1)=B+2:=by rw[bl (by omega) (by omega)];omega
  rcases (show J=0∨J=1∨J=2∨(3≤J∧J < 5) by omega) with rfl|rfl|rfl|ad
  ·(refine E.ac ?_;simp only[go_sem])
   (refine E.ac ?_;simp only[go_sem])
   try rw[wx]
   (refine ja [480,360,450] (hj l hl _ (by simp) (by simp)) ?_;rintro _ az _ _ ⟨I,cg,rfl⟩;simp only[fR] at cg;simp only[go_sem])
   have ao:I=480∨I=360∨I=450:=cg;clear cg
   (refine ja [480,510,300] (hj l hl _ (by simp) (by simp)) ?_;rintro _ az _ _ ⟨m,cg,rfl⟩;simp only[fR] at cg;simp only[go_sem])
   have hm:m=480∨m=510∨m=300:=cg;clear cg;refine⟨by omega,?_⟩;rw[YC]
   (refine E.bB [some 0,some 1] ?_;simp only[go_sem])
   (refine E.ac ?_;simp only[go_sem])
   rw[LG];refine E.ac ⟨⟨az,_,B+1,by rw[List.length_append];rfl,rfl,by omega,by omega,by omega,by omega,?_,?_,YF EO (by omega) ?_ _ ?_,QM pM (by simp) (by simp) (by omega),?_⟩,?_⟩
   ·rw[List.length_append,List.length_singleton];omega
   ·rw[List.length_append,List.length_singleton];omega
   ·simp only[true_and];omega
   ·simp only;omega
   ·intro y bt;rcases List.mem_append.1 bt with bt|bt
    ·exact kk y bt
    ·rw[List.mem_singleton] at bt;subst bt;unfold EL;simp only;omega
   ·simp only[go_sem];omega
  ·(refine E.ac ?_;simp only[go_sem])
   (refine E.ac ?_;simp only[go_sem])
   (refine E.ac ?_;simp only[go_sem])
   try rw[wx]
   refine⟨by omega,?_⟩;rw[YC]
   (refine E.bB [some 0,some 1] ?_;simp only[go_sem])
   (refine E.ac ?_;simp only[go_sem])
   (refine E.ac ?_;simp only[go_sem])
   rw[LG,aue];refine E.ac ⟨⟨az,_,B+2,by rw[List.length_append];rfl,rfl,by omega,by omega,by omega,by omega,?_,?_,YF EO (by omega) ?_ _ ?_,QM pM (by simp) (by simp) (by omega),?_⟩,?_⟩
   ·rw[List.length_append,List.length_singleton];omega
   ·rw[List.length_append,List.length_singleton];omega
   ·simp only[true_and];omega
   ·simp only;omega
   ·intro y bt;rcases List.mem_append.1 bt with bt|bt
    ·exact kk y bt
    ·rw[List.mem_singleton] at bt;subst bt;unfold EL;simp only;omega
   ·simp only[go_sem];omega
  ·(refine E.ac ?_;simp only[go_sem])
   (refine E.ac ?_;simp only[go_sem])
   (refine E.ac ?_;simp only[go_sem])
   (refine E.ac ?_;simp only[go_sem])
   try rw[wx]
   (refine ja [240,60] (hj l hl _ (by simp) (by simp)) ?_;rintro _ az _ _ ⟨m,cg,rfl⟩;simp only[fR] at cg;simp only[go_sem])
   have hm:m=240∨m=60:=cg;clear cg;refine⟨by omega,?_⟩;have aV:ai ae++ [[.int .i64 (20454+B),.int .i64 360,.int .i64 240],[.int .i64 (20454+B),.int .i64 720,.int .i64 m]]=ai (ae++ [⟨20454+B,360,240⟩]++ [⟨20454+B,720,m⟩]):=by
    rw[←kT,←kT,List.append_assoc];rfl
   rw[aV]
   (refine E.bB [some 0,some 1] ?_;simp only[go_sem])
   (refine E.ac ?_;simp only[go_sem])
   rw[LG];have h1:LE (ae++ [⟨20454+B,360,240⟩]) ((20454+B)*1440+600):=QL EO (by simp only;omega) (by simp only;omega) _ (by simp only;omega);have G:Ht (ae++ [⟨20454+B,360,240⟩]++ [⟨20454+B,720,m⟩]) (B+1):=QL h1 (by simp only;omega) (by simp only;omega) _ (by simp only;omega);have cK: (ae++ [(⟨20454+B,360,240⟩:cw)]++ [(⟨20454+B,720,m⟩:cw)]).length=ae.length+2:=by simp
   refine E.ac ⟨⟨az,_,B+1,by rw[cK],rfl,by omega,by omega,by omega,by omega,by rw[cK];omega,by rw[cK];omega,G,by rw[List.append_assoc];exact QM pM (by simp) (by simp) (by omega),?_⟩,?_⟩
   ·intro y bt;rcases List.mem_append.1 bt with bt|bt
    ·rcases List.mem_append.1 bt with bt|bt
     ·exact kk y bt
     ·rw[List.mem_singleton] at bt;subst bt;unfold EL;simp only;omega
    ·rw[List.mem_singleton] at bt;subst bt;unfold EL;simp only;omega
   ·simp only[go_sem];omega
  ·have iI: (J==0)=false:=beq_eq_false_iff_ne.2 (by omega);have bF: (J==1)=false:=beq_eq_false_iff_ne.2 (by omega);have bK: (J==2)=false:=beq_eq_false_iff_ne.2 (by omega);refine E.ac ?_;simp only[go_sem,iI,bF,bK];refine E.ac ?_;simp only[go_sem,iI,bF,bK];refine E.ac ?_;simp only[go_sem,iI,bF,bK];refine E.ac ?_;simp only[go_sem,iI,bF,bK];refine E.ac ?_;simp only[go_sem,iI,bF,bK];refine E.ac ?_;simp only[go_sem,iI,bF,bK];rw[LG];obtain⟨h1,G⟩:=EO;refine⟨⟨az,ae,B+1,rfl,rfl,by omega,by omega,by omega,by omega,by omega,by omega,⟨h1,by omega⟩,auc pM (by omega),kk⟩,by omega⟩
 ·(refine E.ac ?_;simp only[go_sem])
  (refine E.ac ?_;simp only[go_sem])
  exact E.ac ⟨az,ae,rfl,rfl,by omega,by omega,Ci,aub EO (by omega),pM.1,kk⟩
end Go.Proofs.YtpincjkjoeopkaaGreatDoor
