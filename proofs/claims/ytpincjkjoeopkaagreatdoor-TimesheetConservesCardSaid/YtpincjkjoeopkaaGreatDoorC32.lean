/- Time evaluation. -/
import Derived.Test.YtpincjkjoeopkaaGreatDoorC30
import Derived.Test.YtpincjkjoeopkaaGreatDoorC31
import Derived.Shelf.SlIter.Sorted
import Derived.Shelf.SlIter.Keys
set_option linter.all false
namespace Go.Proofs.YtpincjkjoeopkaaGreatDoor
open Go Go.Abs Go.Proofs.Tryz
theorem aSG {ap:List F}(h:ap.length=14):∃a0 cH ff a3 a4 a5 MV Az Au a9 uW qN acl acm,ap=[a0,cH,ff,a3,a4,a5,MV,Az,Au,a9,uW,qN,acl,acm]:=by
 match ap,h with
 | [a0,cH,ff,a3,a4,a5,MV,Az,Au,a9,uW,qN,acl,acm],_=>exact⟨a0,cH,ff,a3,a4,a5,MV,Az,Au,a9,uW,qN,acl,acm,rfl⟩
def aLL (z:eD):eD:= {z with al:=[]}
def aNh (z:eD)(cH Au uW qN acm:F):List F:=[.int .i64 z.M.off,cH,.int .i64 z.fz,.int .i64 z.er,.int .i64 z.ex,.int .i64 z.dK.eI,.int .i64 z.dK.lw,.int .i64 z.dK.lP,Au,.str z.ia.ef,uW,qN,.bH,acm]
def aPt (z:eD)(cH Au uW qN acm:F):List F:=[.int .i64 z.M.off,cH,.int .i64 z.fz,.int .i64 z.er,.int .i64 z.ex,.int .i64 0,.int .i64 0,.int .i64 0,Au,.str z.ia.ef,uW,qN,.bH,acm]
theorem aSH {ap:List F}{z:eD}(h:hK ap z.J):∃cH Au uW qN acl acm,ap=[.int .i64 z.M.off,cH,.int .i64 z.fz,.int .i64 z.er,.int .i64 z.ex,.int .i64 z.dK.eI,.int .i64 z.dK.lw,.int .i64 z.dK.lP,Au,.str z.ia.ef,uW,qN,acl,acm]/\
 (bJ cH=true/\bJ Au=true/\bJ uW=true/\bJ qN=true/\bJ acl=true/\bJ acm=true)/\(Abs.cV cH=true/\Abs.cV Au=true/\Abs.cV uW=true/\Abs.cV qN=true/\Abs.cV acl=true/\Abs.cV acm=true)/\cp Au=[Au]/\
 hK (aNh z cH Au uW qN acm) (aLL z).J/\hK (aPt z cH Au uW qN acm) (aLq (aLL z)).J:=by
 obtain⟨hl,aNS⟩:=abp ap z.J h z.on;have gN:=Fc ap z.J h z.fX;obtain⟨a0,cH,ff,a3,a4,a5,MV,Az,Au,a9,uW,qN,acl,acm,rfl⟩:=aSG (hl.trans rfl);simp only[eD.J,hK] at h;obtain⟨h0,d,G,au,bv,cx,dx,oN,Ia,Id,Rk,RV,aKl,aQ8,_⟩:=h;have aNT:∀{a:F} {n:Int},le a (.int .i64 n)->a= .int .i64 n:=λ{a n} h=>by
  unfold le at h;split at h
  ·rename_i e;cases e
  ·rename_i e;cases e
  ·rename_i e;cases e
  ·exact h
 have ar:∀{a:F} {I:ByteArray},le a (.str I)->a= .str I:=λ{a I} h=>by
  unfold le at h;split at h
  ·rename_i e;cases e
  ·rename_i e;cases e
  ·rename_i e;cases e
  ·exact h
 obtain rfl:=aNT h0;obtain rfl:=aNT G;obtain rfl:=aNT au;obtain rfl:=aNT bv;obtain rfl:=aNT cx;obtain rfl:=aNT dx;obtain rfl:=aNT oN;obtain rfl:=ar Id;simp only[bU,bJ,aKJ] at gN;simp only[aMN,aKJ] at aNS;refine⟨cH,Au,uW,qN,acl,acm,rfl,⟨gN.2.1,gN.2.2.2.2.2.2.2.2.1,gN.2.2.2.2.2.2.2.2.2.2.1,gN.2.2.2.2.2.2.2.2.2.2.2.1,gN.2.2.2.2.2.2.2.2.2.2.2.2.1,gN.2.2.2.2.2.2.2.2.2.2.2.2.2.1⟩,
  ⟨aNS.2.1,aNS.2.2.2.2.2.2.2.2.1,aNS.2.2.2.2.2.2.2.2.2.2.1,aNS.2.2.2.2.2.2.2.2.2.2.2.1,aNS.2.2.2.2.2.2.2.2.2.2.2.2.1,aNS.2.2.2.2.2.2.2.2.2.2.2.2.2.1⟩,?_,?_,?_⟩
 ·unfold le at Ia;split at Ia
  ·rfl
  ·rename_i e;cases e
  ·rename_i e;cases e
  ·rw[Ia];rfl
 ·simp only[eD.J,aNh,hK,aLL];exact⟨h0,d,G,au,bv,cx,dx,oN,Ia,Id,Rk,RV,by simp[le,ai],aQ8,trivial⟩
 ·simp only[eD.J,aPt,hK,aLL,aLq];exact⟨h0,d,G,au,bv,by simp[le],by simp[le],by simp[le],Ia,Id,Rk,RV,by simp[le,ai],aQ8,trivial⟩
theorem aQ9:∀{al:List wE} {w:wE},(∀w∈al,0<=Pr.da w.gM)->w∈al->Pr.da w.gM<=Pr.da (al.flatMap λw=>w.gM)
 |x::al,w,h,aP=>by
  have aH:∀al:List wE,(∀w∈al,0<=Pr.da w.gM)->0<=Pr.da (al.flatMap λw=>w.gM):=by
   intro al
   induction al with
   |nil=>intro _;simp[Pr.da]
   |cons y al ih=>
    intro h;have d:=ih λx aj=>h x (aK1 _ aj);have G:=h y aLa;rw[aMR,Pr.UM];omega
  have d:=aH al λx aj=>h x (aK1 _ aj);have G:=h x aLa;rw[aMR,Pr.UM];rcases aKV.1 aP with rfl|aP
  ·omega
  ·have:=aQ9 (λx aj=>h x (aK1 _ aj)) aP;omega
theorem aRa {z:eD}{ae:List cw}{ds:List eX}{bw:List wE×List Pr.bx}(h:aNU z ae ds bw):∀w∈bw.1,Pr.aMk w.gM=Pr.da w.gM/\0<=Pr.da w.gM/\Pr.da w.gM<=16480/\w.gM.length<=720:=by
 have ak:=h.aMJ.aOI;have hall:=wG h.aMJ.ok;have nu:Pr.dd 29453640 29470120 bw.2=true:=Se (λx aj=>by have:=h.aMJ.aOJ x aj;have:=hall x aj;omega) (Ix h.aMJ.ok);have hN:=aOK nu (by omega);have vP:∀w∈bw.1,Pr.gz w.gM:=λw aP x aj=>by
  have hm:=ak.mem_iff.2 (aM1.2 ⟨w,aP,aj⟩);have:=hall x hm;omega
 have G1:∀w∈bw.1,0<=Pr.da w.gM:=λw aP=>Pr.Jz (vP w aP);intro w aP;have d:=aQ9 G1 aP;rw[<-aOL ak] at d;have G:=aQq aP;rw[<-ak.length_eq] at G;have au:=h.tk;exact⟨Pr.aRb (vP w aP),G1 w aP,by omega,by omega⟩
def aL2 (W:List wE)(B:Int):Int:=(W.map λw=>if w.ah=B then Pr.da w.gM else 0).sum
def aNi (W:List wE):Int:=(W.map λw=>Pr.da w.gM).sum
theorem aPu {bj:Type}{f:bj->Int}{l:List bj}{j:Nat}(h:j<l.length): ((l.take (j+1)).map f).sum=((l.take j).map f).sum+f l[j]:=by
 rw[aLz h,aLU,aNO];simp
theorem aQr {bj:Type}{f:bj->Int}{di:Int}{l:List bj}(h:∀x∈l,0<=f x/\f x<=di):∀{j:Nat},j<=l.length->0<=((l.take j).map f).sum/\((l.take j).map f).sum<=di*j
 |0,_=>by simp
 |j+1,hj=>by
  have ih:=aQr h (j:=j) (by omega);have aj:=h _ (aLc (show j<l.length by omega));have e:di*((j+1:Nat):Int)=di*(j:Int)+di:=by rw[Int.natCast_add,Int.mul_add];simp
  rw[aPu (by omega),e];omega
theorem aPv {bj:Type}{f:bj->Int}{l:List bj}(h:∀x∈l,0<=f x)(j:Nat):0<=((l.take j).map f).sum/\((l.take j).map f).sum<=(l.map f).sum:=by
 have aH:∀m:List bj,(∀x∈m,0<=f x)->0<=(m.map f).sum:=by
  intro m
  induction m with
  |nil=>intro _;simp
  |cons x m ih=>
   intro h;have d:=h x aLa;have G:=ih λy bt=>h y (aK1 _ bt);rw[aKP,aMf];omega
 have d:=aH (l.take j) λx aj=>h x (aMl aj);have G:=aH (l.drop j) λx aj=>h x (aMV aj);have au: (l.map f).sum=((l.take j).map f).sum+((l.drop j).map f).sum:=by
  rw[<-aNO,<-aLU,aMt]
 omega
theorem aSI {z:eD}{ae:List cw}{bh:List Ib.Ev}{n:Int}(aP:z.al=[])(hl: (fT z ae bh n).length<=4096){R ab:Int}{x:CK}(aj:x∈jp z ae bh [] n R ab):∀t∈x.eg,0<=t.m:=by
 unfold jp at aj;obtain⟨B,_,ay⟩:=aN2.1 aj;unfold pl at ay;split at ay
 ·cases ay
 cases ay;have Ut:lB z ae bh n=[]:=by unfold lB;rw[aP];exact aRc _ _ _
 have hm:An (nP ae n B [])=[]:=rfl;simp only;unfold ne;rw[Ut,hm];simp only[List.filter_nil,aLC,aLY];intro t ht;split at ht
 ·obtain⟨y,bt,rfl⟩:=aKZ.1 ht;unfold Ib.pQ at bt;rw[aLZ hl] at bt;have:=(Ib.ahC (fT z ae bh n) B (fT z ae bh n).length (aKM _)).1;rw[aLb] at this;exact (this y bt).1
 ·cases ht
structure aSJ (W:List wE) (X:List CK):Prop where
 w:∀w∈W,Pr.aMk w.gM=Pr.da w.gM/\0<=Pr.da w.gM/\Pr.da w.gM<=16480/\w.gM.length<=720
 Ga:W.length<=20
 aT1:X.length<=84006
 Ac:∀x∈X,∀t∈x.eg,0<=t.m
 aT2:∀x∈X,aNz x.eg=aL2 W x.ah
 eg:∀x∈X,x.eg.length<=1000000
theorem aRd {W:List wE}(h:∀w∈W,Pr.aMk w.gM=Pr.da w.gM/\0<=Pr.da w.gM/\Pr.da w.gM<=16480/\w.gM.length<=720)(hl:W.length<=20){j:Nat}(hj:j<=W.length)(B:Int):0<=aL2 (W.take j) B/\aL2 (W.take j) B<=329600:=by
 have:=aQr (f:=λw:wE=>if w.ah=B then Pr.da w.gM else 0) (di:=16480) (l:=W) (λw aP=>by
  have:=h w aP;split<;>omega) hj
 unfold aL2;omega
theorem aRe {ap:List F}{z:eD}(ad:hK ap z.J)(hh:z.ao.length<=1000000)(aP:z.al.length<=1000000)(ae:List cw)(gy:ae.length<=1000000)(l:List Ib.Ev)(hl:l.length<=1000000)(n:Int):
 aO prog 20 [.agg ap,.pure 3 (ai ae),.pure 7 (ai l),.int .i64 n] []
  (λv rs=>(if rE z ae l n=0 then v= .bo [.pure 2 (ai (nc z ae (tX z ae l n)).1),.pure 2 (ai (Pr.tY (kZ l n) z.fz)),.int .i64 0] else v= .bo [.bH,.bH,.int .i64 (rE z ae l n)])/\rs=[]):=
 (awS z hh aP ae gy l hl n).le (by simp[hK,le,ad])
theorem aSK {ap:List F}{z:eD}(ad:hK ap z.J)(hh:z.ao.length<=1000000)(aP:z.al.length<=1000000)(ae:List cw)(gy:ae.length<=1000000)(l:List Ib.Ev)(hl:l.length<=1000000):
 aO prog 11 [.agg ap,.pure 3 (ai ae),.pure 7 (ai l),.bH,.int .i64 1,.int .i64 0,.int .i64 84005] []
  (λv rs=>(if rG z ae l 1=0 then v= .bo [.pure 3 (ai (jp z ae l [] 1 0 84005)),.int .i64 0] else v= .bo [.bH,.int .i64 (rG z ae l 1)])/\rs=[]):=
 (axj z hh aP ae gy l hl [] (by simp) (by simp) (by simp) 1 0 84005 (by unfold E9;rw[S (by simp),S (by omega),S (by omega)])).le (by simp[hK,le,ad,ai])
theorem ayg (t:Int)(h0:0<=t)(d:t<=120968639):aO prog 259 [.agg [.int .i64 0,.bH],.int .i64 t] [] (λv rs=>v= .bo [.int .i64 t,.int .i64 0]/\rs=[]):=by
 refine ((Ym ⟨0,[]⟩ rfl t h0 d).le (aNR:=[.agg [.int .i64 0,.bH],.int .i64 t]) (by simp[hK,le,cc.v,ai])).mono ?_;rintro v rs ⟨rfl,rfl⟩;exact⟨by simp[yf,zQ],rfl⟩
def wH (bm:Bool):List Z:=[.ag 359 3 [[.bH,.bE 1,.bE 2]],.be (.map false [.int .i64] (if bm then [(.int .i64 2025,.bH),(.int .i64 2026,.bH),(.int .i64 2027,.bH)] else [])),.be (.map false [.int .i64] (if bm then [(.int .i64 20454,.bool false)] else []))]
theorem ayh:aO prog 200 [.bH] [] (λv rs=>v= .bd 0 1 0 0/\rs=wH false):=
 zN (aW:=As) (aY:=[]) 60 [(.bd 0 1 0 0,wH false)] (by kernel_rfl) (by intro V h;rw[aK2] at h;subst h;exact⟨rfl,rfl⟩)
theorem ayi:aO prog 203 [.bH,.int .i64 0] [] (λv rs=>v= .int .i64 0/\rs=[]):=
 zN (aW:=As) (aY:=MH) 60 [(.int .i64 0,[])] (by kernel_rfl) (by intro V h;rw[aK2] at h;subst h;exact⟨rfl,rfl⟩)
theorem abQ (bm:Bool):aO prog 260 [.bd 0 1 0 0,.int .i64 20454] (wH bm) (λv rs=>v= .bool false/\rs=wH true):=by
 cases bm
 ·exact zN (aW:=As) (aY:=MH) 60 [(.bool false,wH true)] (by kernel_rfl) (by intro V h;rw[aK2] at h;subst h;exact⟨rfl,rfl⟩)
 ·exact zN (aW:=As) (aY:=MH) 60 [(.bool false,wH true)] (by kernel_rfl) (by intro V h;rw[aK2] at h;subst h;exact⟨rfl,rfl⟩)
theorem ayj (bm:Bool)(t:Int)(h0:29453760<=t)(d:t<29455200):aO prog 201 [.agg [.int .i64 0,.bH],.bd 0 1 0 0,.int .i64 t] (wH bm)
 (λv rs=>v= .agg [.int .i64 (t-29453760),.int .i64 3,.bool false]/\rs=wH true):=by
 refine cu func201 SJ (by simp[Ff,Iy]) ?_;have ay:t.tdiv 1440=20454:=by rw[aMn (by omega)];omega
 have hm:t.tmod 1440=t-29453760:=by rw[aMC (by omega)];omega
 have dn:IntKind.i64.wrap 20454=20454:=bl;have gI:IntKind.i64.wrap 29453760=29453760:=bl;have ik:IntKind.i64.wrap (t-29453760)=t-29453760:=bl;have aI:decide (t-29453760<0)=false:=aK7;have bF:IntKind.i64.wrap (t-IntKind.i64.wrap (20454*1440))=t-29453760:=by
  rw[show IntKind.i64.wrap (20454*1440)=29453760 from by decide];exact ik
 have bK: (IntKind.i64.wrap (Int.tmod 20454 7+10)).tmod 7=3:=by decide
 cases bm
 all_goals
  have uQ:=abQ false;have abR:=abQ true;unfold wH at *;simp only[aK5,aLK,aLi] at uQ abR ⊢;simp only[go_sem,Ff,Iy];refine bM (ayg t (by omega) (by omega)) rfl rfl ?_;simp only[go_sem,ay,hm,dn,aI];refine⟨by omega,by omega,by omega,by omega,?_⟩
 ·(refine fy [0,1,2] (uQ) ?_;rintro _ _ ⟨rfl,rfl⟩;simp only[go_sem])
  simp only[go_sem,bF,bK]
  (refine E.bB [some 0,some 1,some 2] ?_;simp only[go_sem])
  exact i ⟨rfl,rfl⟩
 ·(refine fy [0,1,2] (abR) ?_;rintro _ _ ⟨rfl,rfl⟩;simp only[go_sem])
  simp only[go_sem,bF,bK]
  (refine E.bB [some 0,some 1,some 2] ?_;simp only[go_sem])
  exact i ⟨rfl,rfl⟩
def CN:F:= .agg [.int .i64 0,.int .i64 0,.int .i64 0,.int .i64 0,.int .i64 0,.int .i64 0,.int .i64 0,.int .i64 0,.int .i64 0,.int .i64 0,.int .i64 0,.int .i64 0,.int .i64 0,.int .i64 0,.int .i64 0,.int .i64 0]
structure wI where
 ah:Int
 R:Int
 ab:Int
 ep:ByteArray
instance:aJ wI:=⟨λa=> [.int .i64 a.ah,.int .i64 a.R,.int .i64 a.ab,.str a.ep],4,λ_=>rfl,λ_=>rfl,λ_=>rfl⟩
theorem ayk (e:wI):aJ.J e=[.int .i64 e.ah,.int .i64 e.R,.int .i64 e.ab,.str e.ep]:=rfl
theorem ayl:aJ.U wI=4:=rfl
theorem aym (e:wI):List.take 4 (aJ.J e)=aJ.J e:=rfl
attribute [go_sem] ayl aym
def MI (p:wI):Prop:=p.ah=20454/\29453760<=p.R/\p.R<=p.ab/\p.ab<=29455200
def MJ (bm:Bool):List (F×F):=if bm then [(.int .i64 2025,.bH),(.int .i64 2026,.bH),(.int .i64 2027,.bH)] else []
def MK (bm:Bool):List (F×F):=if bm then [(.int .i64 20454,.bool false)] else []
def Fg (bm:Bool):List (F×F):=if bm then [(.int .i64 0,.int .i64 0)] else []
def Av (bm:Bool):List (F×F):=if bm then [(.int .i64 20454,CN)] else []
theorem ayn (bm:Bool):kh (MJ bm)=true:=by cases bm<;>rfl
theorem ayo (bm:Bool):kh (MK bm)=true:=by cases bm<;>rfl
theorem ayp (bm:Bool):kh (Fg bm)=true:=by cases bm<;>rfl
theorem ayq (bm:Bool):kh (Av bm)=true:=by cases bm<;>rfl
attribute [go_sem] ayn ayo ayp ayq
theorem ayr (bm:Bool): (dm (.int .i64 20454) (Av bm)).getD CN=CN:=by cases bm<;>rfl
theorem ays (bm:Bool):dy (.int .i64 20454) CN (Av bm)=Av true:=by cases bm<;>rfl
theorem ayt (bm:Bool):dy (.int .i64 0) (.int .i64 0) (Fg bm)=Fg true:=by cases bm<;>rfl
def vl (bm W iZ:Bool):List Z:=[.ag 32 2 [[.int .i64 0,.bH]],.ag 359 3 [[.bH,.bE 2,.bE 3]],.be (.map false [.int .i64] (MJ bm)),.be (.map false [.int .i64] (MK bm)),
 .be (.map false [.int .i64] (Fg W)),.be (.map false [.int .i64] (Av iZ))]
theorem ayu (bm:Bool)(t:Int)(h0:29453760<=t)(d:t<29455200):aO prog 201 [.agg [.int .i64 0,.bH],.bd 0 1 0 0,.int .i64 t] [.ag 359 3 [[.bH,.bE 1,.bE 2]],.be (.map false [.int .i64] (MJ bm)),.be (.map false [.int .i64] (MK bm))]
 (λv rs=>v= .agg [.int .i64 (t-29453760),.int .i64 3,.bool false]/\rs=[.ag 359 3 [[.bH,.bE 1,.bE 2]],.be (.map false [.int .i64] (MJ true)),.be (.map false [.int .i64] (MK true))]):=ayj bm t h0 d
theorem ayv (aa:List wI)(hl:aa.length<=1000000)(ak:∀p∈aa,MI p):aO prog 115 [.agg [.int .i64 0,.bH],.bH,.bH,.pure 4 (ai aa)] []
 (λv rs=>v= .bE 0/\rs=[.be (.map false [.int .i64] (Av (decide (0<aa.length))))]):=by
 refine cu func115 SK (by simp[ip,iC]) ?_;have hA:=ayh;unfold wH at hA;simp only[aK5,aLK,aLi] at hA;simp only[go_sem,ip,iC,bT]
 (refine rv (hA) ?_;rintro _ _ ⟨rfl,rfl⟩;simp only[go_sem])
 refine dN (λD r=> ∃(c:Nat) (bm W:Bool),c<=aa.length/\D=[(2,.bH),(4,.bd 0 1 0 0),(9,.bd 1 1 0 0),(10,.bE 4),(11,.bE 5),(27,.pure 4 (ai aa)),(28,.int .i64 aa.length),(29,.int .i64 c)]/\r=vl bm W (decide (0<c)))
  (λD _=>match bs D 29 with| .int _ j=>(aa.length-j).toNat|_=>0) ?_ ?_
 ·exact i ⟨0,false,false,by omega,rfl,rfl⟩
 rintro D r ⟨c,bm,W,av,rfl,rfl⟩;have fK:=dB (c:=c) (by omega)
 by_cases aI:c<aa.length
 rotate_left
 ·have d:decide ((c:Int)<aa.length)=false:=aK7;obtain rfl:c=aa.length:=by omega
  unfold vl;simp only[go_sem,ip,iC,d]
  (refine E.bB [some 5] ?_;simp only[go_sem])
  exact i ⟨rfl,rfl⟩
 have d:decide ((c:Int)<aa.length)=true:=aLv;have z0: (0:Int)<=c:=by omega
 have mn: (c:Int)<aa.length:=by omega
 have aw: (ai aa).getD c []=aJ.J aa[c]:=cT aI;obtain⟨aK6,iT,Ds,aJ6⟩:=ak _ (aLc aI);generalize aa[c]=p at *;generalize hG:decide (0<c)=iZ;unfold vl;simp only[go_sem,ip,iC,d,z0,mn,aw,bT,ayk,aK6];rw[show (F.agg [.int .i64 0,.int .i64 0,.int .i64 0,.int .i64 0,.int .i64 0,.int .i64 0,.int .i64 0,.int .i64 0,.int .i64 0,.int .i64 0,.int .i64 0,.int .i64 0,.int .i64 0,.int .i64 0,.int .i64 0,.int .i64 0])=CN from rfl,ayr];refine⟨rfl,rfl,?_⟩;rw[show cp CN=[.int .i64 0,.int .i64 0,.int .i64 0,.int .i64 0,.int .i64 0,.int .i64 0,.int .i64 0,.int .i64 0,.int .i64 0,.int .i64 0,.int .i64 0,.int .i64 0,.int .i64 0,.int .i64 0,.int .i64 0,.int .i64 0] from rfl];refine dN (λD r=> ∃(k:Int) (bm W:Bool),p.R<=k/\k<=p.ab/\D=[(2,.bH),(4,.bd 0 1 0 0),(9,.bd 1 1 0 0),(10,.bE 4),(11,.bE 5),(13,.bd 6 1 0 0),(14,.bd 7 1 0 0),(15,.int .i64 k),(27,.pure 4 (ai aa)),(28,.int .i64 aa.length),(29,.int .i64 c)]/\r=vl bm W iZ++[.ag 221 4 [[.int .i64 20454,.int .i64 p.R,.int .i64 p.ab,.str p.ep]],.ag 227 16 [[.int .i64 0,.int .i64 0,.int .i64 0,.int .i64 0,.int .i64 0,.int .i64 0,.int .i64 0,.int .i64 0,.int .i64 0,.int .i64 0,.int .i64 0,.int .i64 0,.int .i64 0,.int .i64 0,.int .i64 0,.int .i64 0]]])
  (λD _=>match bs D 15 with| .int _ j=>(p.ab-j).toNat|_=>0) ?_ ?_
 ·exact i ⟨p.R,bm,W,by omega,by omega,rfl,rfl⟩
 clear bm W;rintro D r ⟨k,bm,W,Cm,kL,rfl,rfl⟩;unfold vl
 by_cases Aa:k<p.ab
 rotate_left
 ·have G:decide (k<p.ab)=false:=aLh Aa;simp only[go_sem,ip,iC,G];rw[fK,show (F.agg [.int .i64 0,.int .i64 0,.int .i64 0,.int .i64 0,.int .i64 0,.int .i64 0,.int .i64 0,.int .i64 0,.int .i64 0,.int .i64 0,.int .i64 0,.int .i64 0,.int .i64 0,.int .i64 0,.int .i64 0,.int .i64 0])=CN from rfl,ays]
  (refine E.bB [some 0,some 1,some 2,some 3,some 4,some 5] ?_;simp only[go_sem])
  refine i ⟨⟨c+1,bm,W,by omega,rfl,?_⟩,?_⟩
  ·rw[aLf (show 0<c+1 by omega)]
  ·simp only[go_sem];omega
 have G:decide (k<p.ab)=true:=aLf Aa;simp only[go_sem,ip,iC,G]
 (refine fy [1,2,3] (ayu bm k (by omega) (by omega)) ?_;rintro _ _ ⟨rfl,rfl⟩;simp only[go_sem])
 have nH:IntKind.i64.wrap (k+1)=k+1:=bl;refine dN (λD r=>D=[(2,.bH),(4,.bd 0 1 0 0),(9,.bd 1 1 0 0),(10,.bE 4),(11,.bE 5),(13,.bd 6 1 0 0),(14,.bd 7 1 0 0),(15,.int .i64 k),(16,.bd 8 1 0 0),(17,.int .i64 0),(27,.pure 4 (ai aa)),(28,.int .i64 aa.length),(29,.int .i64 c),(51,.bH),(52,.int .i64 0),(53,.int .i64 0)]/\r=vl true W iZ++[.ag 221 4 [[.int .i64 20454,.int .i64 p.R,.int .i64 p.ab,.str p.ep]],.ag 227 16 [[.int .i64 0,.int .i64 0,.int .i64 0,.int .i64 0,.int .i64 0,.int .i64 0,.int .i64 0,.int .i64 0,.int .i64 0,.int .i64 0,.int .i64 0,.int .i64 0,.int .i64 0,.int .i64 0,.int .i64 0,.int .i64 0]],.ag 316 3 [[.int .i64 (k-29453760),.int .i64 3,.bool false]]])
  (λD _=>0) ?_ ?_
 ·exact i ⟨rfl,rfl⟩
 rintro D r ⟨rfl,rfl⟩;unfold vl;simp only[go_sem,ip,iC];cases W
 ·rw[show dm (.int .i64 0) (Fg false)=none from rfl];simp only[go_sem,ip,iC];refine bM ayi rfl rfl ?_;simp only[go_sem,ip,iC,ayt];refine dN (λD r=>D=[(2,.bH),(4,.bd 0 1 0 0),(9,.bd 1 1 0 0),(10,.bE 4),(11,.bE 5),(13,.bd 6 1 0 0),(14,.bd 7 1 0 0),(15,.int .i64 k),(20,.int .i64 0),(27,.pure 4 (ai aa)),(28,.int .i64 aa.length),(29,.int .i64 c),(81,.int .i64 0),(82,.int .i64 0)]/\r=vl true true iZ++[.ag 221 4 [[.int .i64 20454,.int .i64 p.R,.int .i64 p.ab,.str p.ep]],.ag 227 16 [[.int .i64 0,.int .i64 0,.int .i64 0,.int .i64 0,.int .i64 0,.int .i64 0,.int .i64 0,.int .i64 0,.int .i64 0,.int .i64 0,.int .i64 0,.int .i64 0,.int .i64 0,.int .i64 0,.int .i64 0,.int .i64 0]],.ag 316 3 [[.int .i64 (k-29453760),.int .i64 3,.bool false]]])
   (λD _=>0) ?_ ?_
  ·exact i ⟨rfl,rfl⟩
  rintro D r ⟨rfl,rfl⟩;unfold vl;simp only[go_sem,ip,iC,nH]
  (refine E.bB [some 0,some 1,some 2,some 3,some 4,some 5,some 6,some 7] ?_;simp only[go_sem])
  refine i ⟨⟨k+1,true,true,by omega,by omega,rfl,rfl⟩,?_⟩;simp only[go_sem];omega
 ·rw[show dm (.int .i64 0) (Fg true)=some (.int .i64 0) from rfl];simp only[go_sem,ip,iC];refine dN (λD r=>D=[(2,.bH),(4,.bd 0 1 0 0),(9,.bd 1 1 0 0),(10,.bE 4),(11,.bE 5),(13,.bd 6 1 0 0),(14,.bd 7 1 0 0),(15,.int .i64 k),(20,.int .i64 0),(27,.pure 4 (ai aa)),(28,.int .i64 aa.length),(29,.int .i64 c),(81,.int .i64 0),(82,.int .i64 0)]/\r=vl true true iZ++[.ag 221 4 [[.int .i64 20454,.int .i64 p.R,.int .i64 p.ab,.str p.ep]],.ag 227 16 [[.int .i64 0,.int .i64 0,.int .i64 0,.int .i64 0,.int .i64 0,.int .i64 0,.int .i64 0,.int .i64 0,.int .i64 0,.int .i64 0,.int .i64 0,.int .i64 0,.int .i64 0,.int .i64 0,.int .i64 0,.int .i64 0]],.ag 316 3 [[.int .i64 (k-29453760),.int .i64 3,.bool false]]])
   (λD _=>0) ?_ ?_
  ·exact i ⟨rfl,rfl⟩
  rintro D r ⟨rfl,rfl⟩;unfold vl;simp only[go_sem,ip,iC,nH]
  (refine E.bB [some 0,some 1,some 2,some 3,some 4,some 5,some 6,some 7] ?_;simp only[go_sem])
  refine i ⟨⟨k+1,true,true,by omega,by omega,rfl,rfl⟩,?_⟩;simp only[go_sem];omega
theorem aO.ayw {P:Program}{f:FuncId}{args:List F}{r:List Z}{K:F->List Z->Prop}(h:uH P f args r K):aO P f args r K:=by
 intro C dA N aA hG dv;subst N;exact GC aA hG dv h
theorem ayx (aW:TypeId)(aa:List wI)(hl:aa.length<=1000000)(ak:∀p∈aa,MI p):aO prog 115 [.agg [.int .i64 0,.bH],.bH,.bH,.own 0 aa.length 0 aa.length] [.ag aW 4 (ai aa)]
 (λv rs=>v= .bE 1/\rs=[.ag aW 4 (ai aa),.be (.map false [.int .i64] (Av (decide (0<aa.length))))]):=by
 refine aO.ayw ⟨[],[0],[],by simp,rfl,?_⟩;have af:dT [.ag aW 4 (ai aa)] (([]:List Nat).map some) [0] [.agg [.int .i64 0,.bH],.bH,.bH,.own 0 aa.length 0 aa.length]=[.agg [.int .i64 0,.bH],.bH,.bH,.pure 4 (ai aa)]:=by
  have:bW [.ag aW 4 (ai aa)] [] [0] (.own 0 aa.length 0 aa.length)= .pure 4 (ai aa):=qx rfl rfl rfl bT.symm ck;simp only[aLC,dT,this];rfl
 rw[af];refine (ayv aa hl ak).mono ?_;rintro v rs ⟨rfl,rfl⟩;refine⟨.inr ⟨rfl,by cases decide (0<aa.length)<;>rfl⟩,rfl,?_⟩;cases decide (0<aa.length)<;>rfl
def ML:List (List F)->Option (List wI)
 | []=>some []
 | [.int .i64 B,.int .i64 f,.int .i64 t,.str b]::l=>match ML l with|some aa=>some (⟨B,f,t,b⟩::aa)|none=>none
 |_::_=>none
theorem abS:∀{l:List (List F)} {aa:List wI},ML l=some aa->l=ai aa
 | [],aa,h=>by cases h;rfl
 |x::l,aa,h=>by
  unfold ML at h;split at h
  ·cases ‹_::_=[]›
  ·rename_i nx;cases nx;split at h
   ·rename_i aJ7 aV;cases h;rw[abS aV];rfl
   ·cases h
  ·cases h
instance (p:wI):Decidable (MI p):=inferInstanceAs (Decidable (p.ah=20454/\29453760<=p.R/\p.R<=p.ab/\p.ab<=29455200))
def SL (args:List F)(r:List Z):Option (F×List Z):=
 match args,r with
 | [.agg [.int .i64 0,.bH],.bH,.bH,.own 0 n 0 m],[.ag aW 4 am]=>
  match ML am with
  |some aa=>if n=aa.length/\m=aa.length/\aa.length<=1000/\aa.all (λp=>decide (MI p))=true then some (.bE 1,[.ag aW 4 am,.be (.map false [.int .i64] (Av (decide (0<aa.length))))]) else none
  |none=>none
 |_,_=>none
theorem ayy (args:List F)(r:List Z)(v:F)(rs:List Z)(h:SL args r=some (v,rs)):aO prog 115 args r λgA hs=>gA=v/\hs=rs:=by
 unfold SL at h;split at h
 ·split at h
  ·rename_i aa kk;split at h
   ·rename_i ad;simp only[aLj,aLH] at h;obtain⟨rfl,rfl⟩:=h;obtain⟨rfl,rfl,au,bv⟩:=ad;rw[abS kk];exact ayx _ aa (by omega) (λp ak=>aNc (aLW.1 bv p ak))
   ·cases h
  ·cases h
 ·cases h
def aTv:List (uU prog):=⟨115,SL,ayy⟩::MH
open Go.Maps
open Go.RowKit (Below)
def aS2:Go.Shelf.Ren:=
 {f:=λx=>match x with|125=>158|128=>241|129=>242|190=>188|258=>251|302=>303|303=>304|304=>305|305=>306|306=>307|307=>308|308=>309|309=>310|310=>311|329=>290|330=>291|333=>346|334=>347|335=>348|336=>208|344=>364|n=>n,
  t:=λx=>match x with|0=>0|3=>3|4=>4|5=>5|9=>9|31=>166|46=>284|51=>347|53=>349|131=>206|182=>340|183=>341|218=>376|222=>380|228=>412|229=>308|n=>n,
  g:=λn=>n}
set_option maxRecDepth 100000 in
theorem aRC:Lays.n190 prog aS2 where
 mixed:=by kernel_rfl
 f125:=aKL func158 (aKI some (by kernel_rfl))
 f128:=aKL func241 (aKI some (by kernel_rfl))
 f129:=aKL func242 (aKI some (by kernel_rfl))
 f190:=aKL func188 (aKI some (by kernel_rfl))
 f258:=aKL func251 (aKI some (by kernel_rfl))
 f302:=aKL func303 (aKI some (by kernel_rfl))
 f303:=aKL func304 (aKI some (by kernel_rfl))
 f304:=aKL func305 (aKI some (by kernel_rfl))
 f305:=aKL func306 (aKI some (by kernel_rfl))
 f306:=aKL func307 (aKI some (by kernel_rfl))
 f307:=aKL func308 (aKI some (by kernel_rfl))
 f308:=aKL func309 (aKI some (by kernel_rfl))
 f309:=aKL func310 (aKI some (by kernel_rfl))
 f310:=aKL func311 (aKI some (by kernel_rfl))
 f329:=aKL func290 (aKI some (by kernel_rfl))
 f330:=aKL func291 (aKI some (by kernel_rfl))
 f333:=aKL func346 (aKI some (by kernel_rfl))
 f334:=aKL func347 (aKI some (by kernel_rfl))
 f335:=aKL func348 (aKI some (by kernel_rfl))
 f336:=aKL func208 (aKI some (by kernel_rfl))
 f344:=aKL func364 (aKI some (by kernel_rfl))
 t0:=underlying0
 a0:=isAgg0
 z0:=sizeOf0
 v0:=zeroValue0
 t3:=underlying3
 a3:=isAgg3
 z3:=sizeOf3
 v3:=zeroValue3
 t4:=underlying4
 a4:=isAgg4
 z4:=sizeOf4
 v4:=zeroValue4
 t5:=underlying5
 a5:=isAgg5
 z5:=sizeOf5
 v5:=zeroValue5
 t9:=underlying9
 a9:=isAgg9
 z9:=sizeOf9
 v9:=zeroValue9
 t31:=underlying166
 a31:=isAgg166
 z31:=sizeOf166
 v31:=zeroValue166
 t46:=underlying284
 a46:=isAgg284
 z46:=sizeOf284
 v46:=zeroValue284
 t51:=underlying347
 a51:=isAgg347
 z51:=sizeOf347
 v51:=zeroValue347
 t53:=underlying349
 a53:=isAgg349
 z53:=sizeOf349
 v53:=zeroValue349
 t131:=underlying206
 a131:=isAgg206
 z131:=sizeOf206
 v131:=zeroValue206
 t182:=underlying340
 a182:=isAgg340
 z182:=sizeOf340
 v182:=zeroValue340
 t183:=underlying341
 a183:=isAgg341
 z183:=sizeOf341
 v183:=zeroValue341
 t218:=underlying376
 a218:=isAgg376
 z218:=sizeOf376
 v218:=zeroValue376
 t222:=underlying380
 a222:=isAgg380
 z222:=sizeOf380
 v222:=zeroValue380
 t228:=underlying412
 a228:=isAgg412
 z228:=sizeOf412
 v228:=zeroValue412
 t229:=underlying308
 a229:=isAgg308
 z229:=sizeOf308
 v229:=zeroValue308
def aRD:Go.Shelf.Ren:=
 {f:=λx=>match x with|6=>104|8=>187|9=>188|11=>250|n=>n,
  t:=λx=>match x with|26=>9|28=>204|24=>166|0=>0|3=>3|4=>4|33=>208|n=>n,
  g:=λn=>n}
set_option maxRecDepth 100000 in
theorem aS3:SlLaysZ.n6 prog aRD where
 mixed:=by kernel_rfl
 f6:=⟨"slices.Sorted[string]",by decide,aKL func104 (aKI some (by kernel_rfl))⟩
 f8:=⟨"slices.Collect[string]",by decide,aKL func187 (aKI some (by kernel_rfl))⟩
 f11:=⟨"slices.AppendSeq[[]string,string]",by decide,aKL func250 (aKI some (by kernel_rfl))⟩
 t0:=underlying0
 a0:=isAgg0
 z0:=sizeOf0
 v0:=zeroValue0
 t24:=underlying166
 a24:=isAgg166
 z24:=sizeOf166
 v24:=zeroValue166
 t26:=underlying9
 a26:=isAgg9
 z26:=sizeOf9
 v26:=zeroValue9
 t28:=underlying204
 a28:=isAgg204
 z28:=sizeOf204
 v28:=zeroValue204
 i26:=by kernel_rfl
def aRE:Go.Shelf.Ren:=
 {f:=λx=>match x with|7=>105|10=>189|n=>n,
  t:=λx=>match x with|23=>201|26=>9|3=>3|28=>204|0=>0|27=>203|33=>208|4=>4|n=>n,
  g:=λn=>n}
set_option maxRecDepth 100000 in
theorem aS4:SlLaysZ.n7 prog aRE where
 mixed:=by kernel_rfl
 f7:=⟨"maps.Keys[map[string]int,string,int]",by decide,aKL func105 (aKI some (by kernel_rfl))⟩
 f10:=⟨"maps.Keys[map[string]int,string,int]$1",by decide,aKL func189 (aKI some (by kernel_rfl))⟩
 t0:=underlying0
 a0:=isAgg0
 z0:=sizeOf0
 v0:=zeroValue0
 t4:=underlying4
 a4:=isAgg4
 z4:=sizeOf4
 v4:=zeroValue4
 t23:=underlying201
 a23:=isAgg201
 z23:=sizeOf201
 v23:=zeroValue201
 t26:=underlying9
 a26:=isAgg9
 z26:=sizeOf9
 v26:=zeroValue9
 t27:=underlying203
 a27:=isAgg203
 z27:=sizeOf203
 v27:=zeroValue203
 t28:=underlying204
 a28:=isAgg204
 z28:=sizeOf204
 v28:=zeroValue204
 t33:=underlying208
 a33:=isAgg208
 z33:=sizeOf208
 v33:=zeroValue208
theorem aS5 (m:Nat):AnyZ.SortsIn prog aRD Fence.wide m:=
 ⟨λoq off cap bV W uQ vL dJ=>callsIn_wide.2 (Any.slices_Sort_string aRC oq off cap bV W uQ vL dJ),
  λp cap W=>callsIn_wide.2 (calls_of_every_depth λaD=>AnyS.slices_Sort_string_none_in aRC aD p cap W)⟩
def aOe (x:List UInt8):ByteArray:=⟨x.toArray⟩
def aNj (l:List ByteArray):List (List F):=l.map λI=> [.str I]
theorem aS6 (l:List ByteArray): (aNj l).length=l.length:=by simp[aNj]
def aPB (Y:List ByteArray):List ByteArray:=((Y.map λI=>I.data.toList).mergeSort leB).map aOe
theorem aRF {C:bD}{b:Nat}:∀(ce:List (List UInt8)) (V:Nat),(∀c (h:c<ce.length),C.w.cell? ⟨b,V+c,none⟩=some (encStr ce[c]))->dh C b V 1 (aNj (ce.map aOe))
 | [],V,_=>by simp[aNj,dh]
 |M::ce,V,h=>by
  rw[aKP,aNj,aKP,dh];refine⟨rfl,?_,aRF ce (V+1) λc av=> ?_⟩
  ·rw[dC];refine⟨⟨encStr M,h 0 (Nat.zero_lt_succ _),rfl,by rw[Rep];rfl⟩,by rw[dC];trivial⟩
  ·have:=h (c+1) (by simpa using av);rw[show V+1+c=V+(c+1) by omega];simpa using this
theorem aRG {C:bD}:∀{ce:List ByteArray} {vs:List Value},aE C (ce.map (F.str ·)) vs->vs=ce.map (Value.string ·)
 | [],vs,h=>by simpa[aE] using h
 |M::ce,vs,h=>by
  rw[aKP,aE] at h;obtain⟨v,bS,rfl,an,N⟩:=h;rw[Rep] at an;rw[aKP,<-aRG N,an]
def aS7:Value->List UInt8
 | .string I=>I.data.toList
 |_=> []
theorem aS8 {r:List Z}{a b:Nat}{aW:TypeId}{ents:List (F×F)}{Y:List ByteArray}(aC:r[a]? =some (.be (.map false [.str] ents)))(af:r[b]? =some (.ag aW 1 [[.bE a]]))(O:ents.map (·.1)=Y.map (F.str ·))(ss:Y.Nodup)(ki:∀x∈Y,x.size<=maxLen)(cK:Y.length<=1000000):
 aO prog 104 [.fn 189 [.bd b 1 0 0]] r
  (λv rs=>v= .pure 1 (aNj (aPB Y))/\rs=r):=by
 refine aO.P5 (λh=>h) ?_;intro C dA N aA hG dv;have iV:C.r[a]? =some (.be (.map false [.str] ents)):=by rw[N];exact aC
 have jS:C.r[b]? =some (.ag aW 1 [[.bE a]]):=by rw[N];exact af
 rw[aE] at dv;obtain⟨v0,bS,rfl,an,aH⟩:=dv;rw[aE] at aH;subst aH;rw[Rep] at an;obtain⟨vs,rfl,kU⟩:=an;rw[aE] at kU;obtain⟨RX,bS,Cz,ak,aH⟩:=kU;rw[aE] at aH;subst aH;rw[Rep] at ak;obtain⟨hC,_,_,hall⟩:=ak;obtain⟨_,G⟩:=hall _ _ _ jS;obtain⟨_,Bm,J,rl,rfl⟩:=G rfl;obtain rfl:vs= #[.pointer (some ⟨Bm,0,none⟩)]:=by
  apply aM7.1;rw[Cz]
 rcases aA.ag jS with ⟨_,qo⟩|⟨aKU,cap,ap,iK,zG,nE,eK,vK,eA,dp⟩
 ·cases qo
 rw[rl] at iK;simp only[aLj,aLH] at iK;obtain⟨rfl,rfl⟩:=iK;rw[dh,dC] at dp;obtain⟨⟨RY,nw,_,kD⟩,_⟩:=dp.2.1;rw[Rep] at kD;obtain⟨_,_,_,kD⟩:=kD;obtain⟨b0,c0,CA,rfl⟩:=kD _ iV;have mr:=aA.r _ _ iV;rw[dQ] at mr;obtain⟨RZ,R0,ar,qK,R1,lZ,sb,xq,Gh,Gi⟩:=mr;rw[CA] at qK;simp only[aLj,aLH] at qK;obtain⟨rfl,rfl⟩:=qK;have gO:ar.toList.map (·.key)=Y.map (Value.string ·):=aRG (by rw[<-O];exact xq);have dJ:ar.size=Y.length:=by
  have:=aKI List.length gO;simpa using this
 let aF:Value->Option (DataW Unit×List MemPlace):=λ_=>some (.nil,[])
 have Io:prog.underlying 9=some .string:=underlying9;have tP:∀x∈ar.toList,∃M:ByteArray,x.key= .string M/\M∈Y/\Go.WideElems.rd prog 9 aF x=some (.string M.data.toList,.nil):=by
  intro x aj;have:x.key∈Y.map (Value.string ·):=by rw[<-gO];exact aM2 aj
  obtain⟨M,ba,sD⟩:=aKZ.1 this;refine⟨M,sD.symm,ba,?_⟩;unfold Go.WideElems.rd;have ao:=ki M ba;have Rr:keyOf prog 9 (.string M)=some (.string M.data.toList):=by
   have xC:M.data.size<=maxLen:=ao;simp[keyOf,Io,mapKey,ao,xC]
  rw[<-sD,Rr];rfl
 have uA:Go.WideElems.Fit prog 9 aF ar ar.size:=by
  refine⟨by rw[dJ];unfold maxLen;omega,⟨λx aj=> ?_,?_,?_⟩,λx aj=> ?_⟩
  ·obtain⟨c,av,rfl⟩:=aL9 aj;have:=sb c _ (by rw[<-aLJ,aKS av]);rw[this];simpa using av
  ·have:ar.toList.map (·.born)=List.range ar.size:=by
    refine aLT λc=> ?_
    by_cases av:c<ar.size
    ·rw[aLG,aLJ,aLN av,aMU av];simp[sb c _ (aLN av)]
    ·rw[aLB (by simp;omega),aLB (by simp;omega)]
   rw[this];exact aM8
  ·rw[gO];exact aMB.2 (ss.imp λh e=>h (by simpa using e))
  ·obtain⟨M,_,_,h⟩:=tP x aj;exact⟨_,h⟩
 let el:=ar.toList.map (Go.WideElems.rg prog 9 aF)
 let aD:DataW Unit:= .map (el.foldr DataW.insert [])
 have pK:C.w.ownsMap prog 9 aF b0 ar.size aD:=⟨ar,ar.size,lZ,uA,aKM _,rfl⟩;have wF:el.map (λp=>strOf p.1)=Y.map λI=>I.data.toList:=by
  have:∀x∈ar.toList,((λp:Lit×DataW Unit=>strOf p.1)∘Go.WideElems.rg prog 9 aF) x=(aS7∘λx:MapEntry=>x.key) x:=by
   intro x aj;obtain⟨M,d,_,G⟩:=tP x aj;simp only[aMZ];rw[Go.WideElems.rg_of G,d];rfl
  show List.map _ (List.map _ ar.toList)=_;rw[aLr,aMy this,<-aLr,gO,aLr];rfl
 have kV: (strKeys aD).Perm (Y.map λI=>I.data.toList):=by
  rw[<-wF];exact (Go.WideShapes.sorted_perm el).map _
 have fS:Maps.size aD=Y.length:=by
  show (el.foldr DataW.insert []).length=_;rw[length_sorted,aLe,aLE,dJ]
 have vf:SeqGives Fence.wide 2 prog 189 #[.pointer (some ⟨Bm,0,none⟩)] encStr (λbV=>bV.Perm (strKeys aD)) (Maps.size aD) C.w:=
  AnyZ.keys_gives (ρ:=aRE) {aS4 with} Fence.wide _ trivial rfl (by omega) Bm b0 ar.size aD C.w (aLp.1 nE).1 nw pK
 have CB:=AnyZ.sorted_in aS3 Fence.wide 5 trivial trivial trivial trivial rfl (by omega) (aS5 _) (enters_of func188 (by kernel_rfl) rfl) 189 #[.pointer (some ⟨Bm,0,none⟩)] trivial (enters_of func189 (by kernel_rfl) rfl) _ (Maps.size aD) (by rw[fS];unfold maxLen;omega) (by rw[fS];omega) C.w vf;refine (callsIn_wide.1 CB).mono ?_;rintro e w' ⟨v,bV,rfl,du,hrow,iW,af⟩;obtain⟨aY,hL⟩:∃aY,aY=(Y.map λI=>I.data.toList).mergeSort leB:=⟨_,rfl⟩;have CC: (bV.mergeSort leB)=aY:=by rw[hL];exact mergeSort_of_perm (du.trans kV)
 have fF:bV.length=aY.length:=by rw[<-CC,List.length_mergeSort]
 refine⟨v,.pure 1 (aNj (aY.map aOe)),rfl,af,λDp=> ?_,by unfold aPB;rw[hL],by rw[<-N]⟩;have aOO: (aNj (aY.map aOe)).length=bV.length:=by rw[aS6,aLe,fF]
 rw[Rep];rcases hrow.2 with ⟨rfl,ba⟩|⟨g,cap,oZ,rfl,Mz,ve,aKO,cY,fY,fc⟩
 ·exact⟨none,0,by rw[aOO,ba],by rw[aOO,ba];exact aKM _,.inl (by rw[aOO,ba])⟩
 ·refine⟨_,cap,by rw[aOO],by rw[aOO];exact aKO,.inr ⟨g,0,rfl,⟨(aLp.1 ve).1,λbp=> ?_,λz J h=> ?_⟩,?_⟩⟩
  ·have:=aA.bY _ bp;omega
  ·have:=aA.lt h;omega
  ·refine aRF (C:=bD.p _) _ _ λc av=> ?_;have d: (oZ.toList.take (bV.length*1))[c]? =((bV.mergeSort leB).map encStr)[c]? :=by rw[fc]
   rw[aOD (by rw[aNn,fF];exact av),aLG,CC,aKS av,aLJ] at d;show World.cell? w' _=_;simp only[World.cell?,ve,aL5];simpa using d
def aPG:List (F×F)->Option (List ByteArray)
 | []=>some []
 | (.str n,_)::l=>match aPG l with|some jJ=>some (n::jJ)|none=>none
 |_::_=>none
theorem aRU:∀{l:List (F×F)} {jJ:List ByteArray},aPG l=some jJ->l.map (·.1)=jJ.map (F.str ·)
 | [],jJ,h=>by cases h;rfl
 |p::l,jJ,h=>by
  unfold aPG at h;split at h
  ·cases ‹_::_=[]›
  ·rename_i n v cb nx;cases nx;split at h
   ·rename_i lk zo;cases h;rw[aKP,aRU zo];rfl
   ·cases h
  ·cases h
def aNk:List UInt8->List UInt8->Bool
 | [],_=>true
 |_::_,[]=>false
 |x::aq,y::ys=>if x.toNat<y.toNat then true else if y.toNat<x.toNat then false else aNk aq ys
theorem aQC:∀(x y:List UInt8),aNk x y=true->x<=y
 | [],y,_=>List.nil_le y
 |_::_,[],h=>by simp[aNk] at h
 |x::aq,y::ys,h=>by
  rw[aNk] at h;split at h
  ·rename_i hl;exact List.le_of_lt (List.cons_lt_cons_iff.2 (.inl hl))
  ·split at h
   ·cases h
   ·rename_i d G;obtain rfl:x=y:=UInt8.toNat_inj.1 (by omega);exact List.cons_le_cons_iff.2 (.inr ⟨rfl,aQC aq ys h⟩)
theorem aRV:∀(x y:List UInt8),aNk x y=false->aNk y x=true
 | [],y,h=>by simp[aNk] at h
 |_::_,[],_=>rfl
 |x::aq,y::ys,h=>by
  rw[aNk] at h ⊢;split at h
  ·cases h
  ·split at h
   ·rename_i d G;rw[Rc G]
   ·rename_i d G;rw[S G,S d];exact aRV aq ys h
def aNW (x:List UInt8):List (List UInt8)->List (List UInt8)
 | []=> [x]
 |y::ys=>if aNk x y then x::y::ys else y::aNW x ys
def aOS:List (List UInt8)->List (List UInt8)
 | []=> []
 |x::aq=>aNW x (aOS aq)
theorem aQD (x:List UInt8):∀l:List (List UInt8),(aNW x l).Perm (x::l)
 | []=>aNK _
 |y::ys=>by
  rw[aNW];split
  ·exact aNK _
  ·exact ((aQD x ys).cons y).trans (List.Perm.swap x y ys)
theorem aRW:∀l:List (List UInt8),(aOS l).Perm l
 | []=>aNK _
 |x::aq=>(aQD x _).trans ((aRW aq).cons x)
theorem aRX (x:List UInt8):∀{l:List (List UInt8)},l.Pairwise (·<= ·)->(aNW x l).Pairwise (·<= ·)
 | [],_=>by simp[aNW]
 |y::ys,h=>by
  rw[aLD] at h;rw[aNW];split
  ·rename_i ad;have d:=aQC _ _ ad;exact aLD.2 ⟨λM ba=>by
    rcases aKV.1 ba with rfl|ba
    ·exact d
    ·exact List.le_trans d (h.1 M ba),aLD.2 h⟩
  ·rename_i ad;have d:=aQC _ _ (aRV _ _ (by simpa using ad));exact aLD.2 ⟨λM ba=>by
    rcases aKV.1 ((aQD x ys).mem_iff.1 ba) with rfl|ba
    ·exact d
    ·exact h.1 M ba,aRX x h.2⟩
theorem aRY:∀l:List (List UInt8),(aOS l).Pairwise (·<= ·)
 | []=>List.Pairwise.nil
 |x::aq=>aRX x (aRY aq)
theorem aTr (Y:List ByteArray):aPB Y=(aOS (Y.map λI=>I.data.toList)).map aOe:=by
 unfold aPB;congr 1;have ll:∀a b J:List UInt8,leB a b=true->leB b J=true->leB a J=true:=λa b J d G=>by simp only[leB,aKN] at *;exact List.le_trans d G
 have ab:∀a b:List UInt8,(leB a b||leB b a)=true:=λa b=>by simp only[leB,aLP,aKN];exact List.le_total a b
 refine List.Perm.eq_of_pairwise (le:=λa b=>leB a b=true) (λa b _ _ d G=> ?_) (aOz ll ab _) ((aRY _).imp λh=>aLf h) ((aN7 _ leB).trans (aRW _).symm);simp only[leB,aKN] at d G;exact aQg d G
def aPH:List (List UInt8)->Bool
 | []=>true
 |x::aq=> !aq.contains x&&aPH aq
theorem aRZ:∀{l:List ByteArray},aPH (l.map λI=>I.data.toList)=true->l.Nodup
 | [],_=>aMQ
 |x::aq,h=>by
  simp only[aKP,aPH,aKJ,aMH,aOq,aLX] at h;exact aNv.2 ⟨λhm=>h.1 (aM2 hm),aRZ h.2⟩
def aQE (args:List F)(r:List Z):Option (F×List Z):=
 match args with
 | [.fn 189 [.bd b 1 0 0]]=>
  match r[b]? with
  |some (.ag _ 1 [[.bE a]])=>
   match r[a]? with
   |some (.be (.map false [.str] ents))=>
    match aPG ents with
    |some Y=>if aPH (Y.map λI=>I.data.toList)=true/\Y.all (λI=>decide (I.size<=1000))=true/\Y.length<=1000000 then some (.pure 1 (aNj ((aOS (Y.map λI=>I.data.toList)).map aOe)),r) else none
    |none=>none
   |_=>none
  |_=>none
 |_=>none
theorem aTs (args:List F)(r:List Z)(v:F)(rs:List Z)(h:aQE args r=some (v,rs)):aO prog 104 args r λgA hs=>gA=v/\hs=rs:=by
 unfold aQE at h;split at h
 ·split at h
  ·rename_i af;split at h
   ·rename_i aC;split at h
    ·rename_i Y mg;split at h
     ·rename_i ad;simp only[aLj,aLH] at h;obtain⟨rfl,rfl⟩:=h;rw[<-aTr];exact aS8 aC af (aRU mg) (aRZ ad.1) (λx aj=>aLk (aNc (aLW.1 ad.2.1 x aj)) (by decide)) ad.2.2
     ·cases h
    ·cases h
   ·cases h
  ·cases h
 ·cases h
theorem aTt {r:List Z}{a:Nat}:aO prog 105 [.bE a] r
 (λv rs=>v= .fn 189 [.bd r.length 1 0 0]/\rs=r++[.ag 201 1 [[.bE a]]]):=by
 refine aO.rZ λoy w=> ?_
 go_enter func105,ntmps105
 go_wp2
 go_ret
 exact⟨rfl,rfl⟩
def aTu:List (uU prog):=⟨104,aQE,aTs⟩::⟨105,Iv 189 201,SC λ_ _=>aTt⟩::aTv
set_option maxRecDepth 1000000
theorem aTq:aO prog 15 [] [] (λv rs=>v= .bool true/\rs=[]):=
 zN (aW:=As) (aY:=aTu) 60 [(.bool true,[]),(.bool true,[])] (by kernel_rfl) (by intro V h;simp only[aKV,aNf,aNt,or_self] at h;subst h;exact⟨rfl,rfl⟩)
set_option maxHeartbeats 8000000 in
theorem aS9 (hN:aO prog 15 [] [] (λv rs=>v= .bool true/\rs=[]))(l:List Int)(hl:mW l):aO prog 6 [.pure 1 (cJ .i64 l)] [] (λv rs=>v= .bool true/\rs=[]):=by
 refine hJ func6 azo (by simp[MV,UQ]) ?_;simp only[go_sem,MV,UQ]
 (repeat (first| (refine i ?_;simp only[go_sem])|simp only[go_sem]))
 (refine rv (atG l) ?_;rintro _ _ ⟨rfl,rfl⟩;simp only[go_sem])
 (repeat (first| (refine i ?_;simp only[go_sem])|simp only[go_sem]))
 (refine fy [0] (axB l hl 0 (by omega) (by omega)) ?_;rintro _ _ ⟨abz,z,ap,rfl,eK,rfl,h0,d,aJW,aJX,pV⟩;simp only[go_sem])
 simp only[go_sem,gp]
 (refine fy [0] (aud l hl 4 (by omega) (by omega) abz h0 d) ?_;rintro _ _ ⟨axC,ae,rfl,rfl,G,au,gy,Cv,aJZ,EO⟩;simp only[go_sem])
 simp only[go_sem,gp,Ib.gp];have aTa:=Fc ap z.J eK z.fX;have axD:∀f,jm f ap=ap:=λf=>Dw f ap aTa
 (refine fy [0] (Ib.aCC l hl 4 (by omega) (by omega) axC G au) ?_;rintro _ _ ⟨aJY,bh,rfl,rfl,bv,cx,MA,Sv⟩;simp only[go_sem])
 simp only[go_sem,gp,Ib.gp,axD];obtain⟨gN,vk⟩:=abp ap z.J eK z.on;obtain⟨cH,Au,uW,qN,acl,acm,rfl,⟨bO,IP,aiM,aPC,aRH,aPD⟩,⟨lh,aQx,aT4,aT5,aT6,aT7⟩,aRI,wB,HG⟩:=aSH eK;refine⟨rfl,vk,?_⟩;have axE:bh.length<=20:=by omega
 simp only[go_sem];refine E.jN [some 3] [1,2] rfl rfl (by simp only[go_sem,bU,bJ,bO,IP,aiM,aPC,aRH,aPD]<;>rfl) ?_;simp only[go_sem,bU,bJ,bO,IP,aiM,aPC,aRH,aPD]
 (refine i ?_;simp only[go_sem])
 have aRJ:bU (aNh z cH Au uW qN acm)=true:=Fc _ _ wB (aLL z).fX;have aTb:bU (aPt z cH Au uW qN acm)=true:=Fc _ _ HG (aLq (aLL z)).fX;have aPE:=aRe wB (show z.ao.length<=1000000 by omega) (by simp[aLL]) ae (by omega) bh (by omega) 1;have aOP:=aSK wB (show z.ao.length<=1000000 by omega) (by simp[aLL]) ae (by omega) bh (by omega);have aRK:bU [.agg (aNh z cH Au uW qN acm),.pure 3 (ai ae),.pure 7 (ai bh),.int .i64 1]=true:=by simp only[bU,bJ,aRJ,ck,aK4]
 have aRL:bU [.agg (aNh z cH Au uW qN acm),.pure 3 (ai ae),.pure 7 (ai bh),.bH,.int .i64 1,.int .i64 0,.int .i64 84005]=true:=by simp only[bU,bJ,aRJ,ck,aK4]
 by_cases FD:rE (aLL z) ae bh 1=0
 rotate_left
 ·have aw:rG (aLL z) ae bh 1=rE (aLL z) ae bh 1:=by unfold rG;rw[Rc FD]
  rw[aw] at aOP;simp only[S FD] at aPE aOP;generalize rE (aLL z) ae bh 1=el at *;have aKY: (el != 0)=true:=by simpa using FD
  repeat (refine i ?_;simp only[go_sem])
  refine bM aPE aRK rfl ?_;simp only[go_sem]
  repeat (refine i ?_;simp only[go_sem])
  refine bM aOP aRL rfl ?_;simp only[go_sem]
  repeat (refine i ?_;simp only[go_sem])
  simp only[go_sem,aKY]
  repeat (refine i ?_;simp only[go_sem])
  try simp only[go_sem,aNF]
  refine bM hN rfl rfl ?_;simp only[go_sem]
  repeat (refine i ?_;simp only[go_sem])
  exact aKG rfl ⟨rfl,rfl⟩
 have aQy:∀e∈bh,29453760<=e.time/\e.time<=29470000:=λe he=>(Sv e he).2;have aRM:∀I∈ae,0<=I.ah/\I.ah<=84005:=λI ao=>by have:=EO I ao;unfold EL at this;omega
 have cU:=aRk FD axE aQy aRM;have iI:=aSS (z:=aLL z) rfl FD cU;have gI:=aSX FD aQy;have aPF:=aRk gI axE aQy aRM;have aRN:=aSY gI aPF;have aRO:=aRe HG (show z.ao.length<=1000000 by omega) (by simp[aLL,aLq]) ae (by omega) bh (by omega) 1;simp only[Rc FD] at aPE;simp only[Rc iI] at aOP;simp only[Rc gI] at aRO;have aQz:= @axo (aLL z) ae bh [] 1 0 84005 iI (by simp) (by omega) (by omega);have nL:=(Mr (aaH FD).1).2.2.2.1;have hF:aSJ (nc (aLL z) ae (tX (aLL z) ae bh 1)).1 (jp (aLL z) ae bh [] 1 0 84005):=
  ⟨aRa cU,cU.Ga,aQz.1,λx aj=>aSI rfl (aQw nL cU).1 aj,λx aj=>aSV rfl FD cU aj,λx aj=>(aQz.2 x aj).1⟩
 have MB:=aRa aPF;have lp:=aPF.Ga;clear cU aPF aQz iI nL;generalize (nc (aLL z) ae (tX (aLL z) ae bh 1)).1=W at *;generalize jp (aLL z) ae bh [] 1 0 84005=X at *;generalize (nc (aLq (aLL z)) ae (tX (aLq (aLL z)) ae bh 1)).1=gg at *;generalize Pr.tY (kZ bh 1) (aLL z).fz=aT8 at *;generalize Pr.tY (kZ bh 1) (aLq (aLL z)).fz=aT9 at *;obtain⟨aQA,Mt,Cu,aTc,aTd,aTe⟩:=hF
 repeat (refine i ?_;simp only[go_sem])
 refine bM aPE aRK rfl ?_;simp only[go_sem,ck]
 repeat (refine i ?_;simp only[go_sem])
 refine bM aOP aRL rfl ?_;simp only[go_sem,ck]
 repeat (refine i ?_;simp only[go_sem])
 try simp only[go_sem,aMm]
 repeat (refine i ?_;simp only[go_sem])
 refine hv (λD r=> ∃(c:Nat) (I:Int),c<=X.length/\0<=I/\I<=1000000*(c:Int)/\D=[(4,.bd 0 1 0 0),(5,.pure 3 (ai ae)),(6,.pure 7 (ai bh)),(7,.pure 2 (ai W)),(10,.pure 3 (ai X)),(12,.int .i64 I),(13,.int .i64 c)]/\r=[.ag 42 14 [aNh z cH Au uW qN acm]])
  (λD _=>match bs D 13 with| .int _ j=>(X.length-j).toNat|_=>0) ?_ ?_
 ·exact i ⟨0,0,by omega,by omega,by omega,rfl,rfl⟩
 rintro D r ⟨c,I,av,oK,lo,rfl,rfl⟩;have dn:=dB (c:=c) (by omega)
 by_cases aI:c<X.length
 ·have aKY:decide ((c:Int)<X.length)=true:=aLv;have z0: (0:Int)<=c:=by omega
  have mn: (c:Int)<X.length:=by omega
  have aOQ: (ai X).getD c []=[.int .i64 X[c].ah,.pure 2 (ai X[c].eg),.pure 2 (ai X[c].jR)]:=cT aI;have aKw:=aTc X[c] (aLc aI);have ts:=aTd X[c] (aLc aI);have aUa:=aTe X[c] (aLc aI);generalize X[c]=x at *;simp only[go_sem,MV,UQ,bT,aKY]
  repeat (refine i ?_;simp only[go_sem])
  have aTf:=aRd aQA Mt (j:=W.length) (aKM _) x.ah;rw[aLb] at aTf;refine hv (λD r=> ∃j:Nat,j<=x.eg.length/\D=[(4,.bd 0 1 0 0),(5,.pure 3 (ai ae)),(6,.pure 7 (ai bh)),(7,.pure 2 (ai W)),(10,.pure 3 (ai X)),(12,.int .i64 I),(13,.int .i64 c),(14,.int .i64 (aNz (x.eg.take j))),(15,.int .i64 j)]/\r=[.ag 42 14 [aNh z cH Au uW qN acm]])
   (λD _=>match bs D 15 with| .int _ j=>(x.eg.length-j).toNat|_=>0) ?_ ?_
  ·exact i ⟨0,by omega,rfl,rfl⟩
  rintro D r ⟨j,hj,rfl,rfl⟩;have aRP:=aPv (f:=nb.m) aKw j;have aOR:IntKind.i64.wrap ((j:Int)+1)=((j+1:Nat):Int):=by rw[bl];omega
  by_cases nC:j<x.eg.length
  ·have eQ:decide ((j:Int)<x.eg.length)=true:=aLv;have BS: (0:Int)<=j:=by omega
   have MT: (j:Int)<x.eg.length:=by omega
   have aTg: (ai x.eg).getD j []=[.str x.eg[j].n,.int .i64 x.eg[j].m]:=cT nC;have cn:=aPu (f:=nb.m) nC;have aQB:=aPv (f:=nb.m) aKw (j+1);have E8:IntKind.i64.wrap (aNz (x.eg.take j)+x.eg[j].m)=aNz (x.eg.take (j+1)):=by
    unfold aNz at *;rw[cn] at aQB ⊢;exact bl
   simp only[go_sem,MV,UQ,bT,z0,mn,aOQ,eQ]
   repeat (refine i ?_;simp only[go_sem])
   try simp only[go_sem,z0,mn,aOQ,bT,BS,MT,aTg,E8,eQ]
   repeat (refine i ?_;simp only[go_sem])
   rw[aOR];exact⟨⟨j+1,by omega,rfl⟩,by omega⟩
  obtain rfl:j=x.eg.length:=by omega
  have eQ:decide ((x.eg.length:Int)<x.eg.length)=false:=aK7;rw[aLb] at *;rw[ts] at *;clear aRP aOR nC hj;simp only[go_sem,MV,UQ,bT,z0,mn,aOQ,eQ]
  repeat (refine i ?_;simp only[go_sem])
  try simp only[go_sem,eQ]
  repeat (refine i ?_;simp only[go_sem])
  refine hv (λD r=> ∃j:Nat,j<=W.length/\D=[(4,.bd 0 1 0 0),(5,.pure 3 (ai ae)),(6,.pure 7 (ai bh)),(7,.pure 2 (ai W)),(10,.pure 3 (ai X)),(12,.int .i64 (I+aL2 (W.take j) x.ah)),(13,.int .i64 c),(14,.int .i64 (aL2 W x.ah-aL2 (W.take j) x.ah)),(16,.int .i64 j)]/\r=[.ag 42 14 [aNh z cH Au uW qN acm]])
   (λD _=>match bs D 16 with| .int _ j=>(W.length-j).toNat|_=>0) ?_ ?_
  ·exact i ⟨0,by omega,by simp[aL2],rfl⟩
  rintro D r ⟨j,hj,rfl,rfl⟩;have aOR:IntKind.i64.wrap ((j:Int)+1)=((j+1:Nat):Int):=by rw[bl];omega
  have aUb:=aRd aQA Mt hj x.ah
  by_cases nC:j<W.length
  ·have eF:decide ((j:Int)<W.length)=true:=aLv;have BS: (0:Int)<=j:=by omega
   have MT: (j:Int)<W.length:=by omega
   have fL: (ai W).getD j []=[.int .i64 W[j].ah,.pure 2 (ai W[j].gM)]:=cT nC;obtain⟨GA,axN,OR,aRQ⟩:=aQA W[j] (aLc nC);have un:=Pr.aRR W[j].gM (by omega);rw[GA] at un;have cn:aL2 (W.take (j+1)) x.ah=aL2 (W.take j) x.ah+if W[j].ah=x.ah then Pr.da W[j].gM else 0:=aPu nC
   simp only[go_sem,MV,UQ,bT,eF]
   repeat (refine i ?_;simp only[go_sem])
   by_cases ay:W[j].ah=x.ah
   ·have iR: (W[j].ah==x.ah)=true:=aLu.2 ay;rw[Rc ay] at cn;have aGA:IntKind.i64.wrap (aL2 W x.ah-aL2 (W.take j) x.ah-Pr.da W[j].gM)=aL2 W x.ah-aL2 (W.take (j+1)) x.ah:=by rw[cn,bl];omega
    have Is:IntKind.i64.wrap (I+aL2 (W.take j) x.ah+Pr.da W[j].gM)=I+aL2 (W.take (j+1)) x.ah:=by rw[cn,bl];omega
    try simp only[go_sem,z0,mn,aOQ,bT,BS,MT,fL,iR]
    repeat (refine i ?_;simp only[go_sem])
    simp only[go_sem,BS,MT,fL];refine bM un (by simp only[bU,bJ,ck,aK4]) rfl ?_;simp only[go_sem,aGA]
    repeat (refine i ?_;simp only[go_sem])
    try simp only[go_sem,BS,MT,fL]
    refine bM un (by simp only[bU,bJ,ck,aK4]) rfl ?_;simp only[go_sem,Is]
    repeat (refine i ?_;simp only[go_sem])
    rw[aOR];exact⟨⟨j+1,by omega,rfl⟩,by omega⟩
   ·have iR: (W[j].ah==x.ah)=false:=aLO.2 ay;rw[S ay,aN8] at cn
    try simp only[go_sem,z0,mn,aOQ,bT,BS,MT,fL,iR]
    repeat (refine i ?_;simp only[go_sem])
    rw[aOR];exact⟨⟨j+1,by omega,by rw[cn]⟩,by omega⟩
  obtain rfl:j=W.length:=by omega
  have eF:decide ((W.length:Int)<W.length)=false:=aK7;rw[aLb] at *;have pW:aL2 W x.ah-aL2 W x.ah=0:=by omega
  rw[pW];simp only[go_sem,MV,UQ,bT,eF]
  repeat (refine i ?_;simp only[go_sem])
  try simp only[go_sem,eF,aMm]
  repeat (refine i ?_;simp only[go_sem])
  rw[dn];exact⟨⟨c+1,I+aL2 W x.ah,by omega,by omega,by omega,rfl⟩,by omega⟩
 obtain rfl:c=X.length:=by omega
 have aKY:decide ((X.length:Int)<X.length)=false:=aK7;have aTh:bU [.agg (aPt z cH Au uW qN acm),.pure 3 (ai ae),.pure 7 (ai bh),.int .i64 1]=true:=by simp only[bU,bJ,aTb,ck,aK4]
 simp only[go_sem,MV,UQ,bT,aKY,aNh,IP,aQx]
 repeat (refine i ?_;simp only[go_sem])
 rw[aRI];simp only[go_sem,IP,aQx]
 repeat (refine i ?_;simp only[go_sem])
 refine⟨by rw[aRI];simp[aQx],?_⟩
 repeat (refine i ?_;simp only[go_sem])
 refine bM aRO aTh rfl ?_;simp only[go_sem,ck];have aTi:=Ib.aTj bh (by omega) 1;have mb:Ib.cL bh=0:=by
  have Iq:Ib.oz bh 20:=⟨λe he=>Ib.axF (Sv e he).1,axE⟩;exact Iq.ij (by omega)
 (refine i ?_;simp only[go_sem])
 refine rv aTi ?_;rintro _ _ (⟨h,_⟩|⟨_,Rd,ak,fF,rfl,rfl⟩)
 ·exact absurd mb h
 simp only[go_sem];have agx:ai Rd=ai (kZ bh 1):=by
  rw[aBZ ak fF];unfold kZ;rw[aB1]
 have Ag:Rd.length=(kZ bh 1).length:=by
  rw[aBZ ak fF];unfold kZ;rw[aLe]
 have lj:=(aQs bh 1).1;have pM:Pr.lb (kZ bh 1) z.fz=0:=by
  have h:=FD;unfold rE at h;split at h
  ·omega
  split at h
  ·omega
  split at h
  ·omega
  split at h
  ·omega
  rename_i d G au bv;have bv:¬Pr.lb (kZ bh 1) z.fz≠0:=bv;omega
 have UL:=(aPw pM).2.1;have aTk:=Pr.aTl (kZ bh 1) z.fz (by omega);rw[agx,Ag];generalize kZ bh 1=aY at *;refine E.jN [some 0] [1] rfl rfl (by simp only[go_sem,bU,bJ,bO,IP,aiM,aPC,aPD]<;>rfl) ?_;simp only[go_sem,bU,bJ,bO,IP,aiM,aPC,aPD]
 (refine i ?_;simp only[go_sem])
 refine bM aTk rfl rfl ?_;generalize Pr.tY aY z.fz=aUc;rw[pM];have aRN: (gg.map λw=>Pr.da w.gM).sum<=Pr.aLo (Pr.nQ aY z.fz):=aRN;generalize Pr.nQ aY z.fz=P at *;simp only[go_sem,ck];refine aMd [] [] rfl rfl rfl ?_;simp only[go_sem,ck]
 repeat (refine i ?_;simp only[go_sem])
 refine hv (λD r=> ∃j:Nat,j<=P.length/\D=[(7,.pure 2 (ai gg)),(9,.int .i64 0),(12,.int .i64 I),(19,.pure 3 (ai P)),(22,.int .i64 (Pr.aLo (P.take j))),(23,.int .i64 j)]/\r=[])
  (λD _=>match bs D 23 with| .int _ j=>(P.length-j).toNat|_=>0) ?_ ?_
 ·exact i ⟨0,by omega,rfl,rfl⟩
 rintro D r ⟨j,hj,rfl,rfl⟩;have aUd:P.length<=20:=by omega
 have RH:∀k≤P.length,0<=Pr.aLo (P.take k)/\Pr.aLo (P.take k)<=120968640*k:=λk O=>by
  have e:Pr.aLo (P.take k)=((P.take k).map Pr.aMv).sum:=by
   generalize P.take k=A
   induction A with
   |nil=>rfl
   |cons p A ih=>rw[Pr.aLo,aKP,aMf,ih]
  rw[e];exact aQr (f:=Pr.aMv) (λp _=>Pr.aTm) O
 have ik:=dB (c:=j) (by omega)
 by_cases nC:j<P.length
 ·have eF:decide ((j:Int)<P.length)=true:=aLv;have BS: (0:Int)<=j:=by omega
  have MT: (j:Int)<P.length:=by omega
  have aTn: (ai P).getD j []=aJ.J P[j]:=cT nC;have aTo:=Pr.aTp P[j];have cn:Pr.aLo (P.take (j+1))=Pr.aLo (P.take j)+Pr.aMv P[j]:=by rw[aLz nC,Pr.aRS]
  have aKU:=RH j hj;have eJ:=RH (j+1) (by omega);have nd:IntKind.i64.wrap (Pr.aLo (P.take j)+Pr.aMv P[j])=Pr.aLo (P.take (j+1)):=by rw[<-cn,bl]
  simp only[go_sem,MV,UQ,bT,eF]
  repeat (refine i ?_;simp only[go_sem])
  simp only[go_sem,BS,MT,aTn];refine bM aTo (by simp only[bU,bJ,aJ.fX];rfl) rfl ?_;simp only[go_sem,nd]
  repeat (refine i ?_;simp only[go_sem])
  rw[ik];exact⟨⟨j+1,by omega,rfl⟩,by omega⟩
 obtain rfl:j=P.length:=by omega
 have eF:decide ((P.length:Int)<P.length)=false:=aK7;have aUe:=RH P.length (aKM _);rw[aLb] at *;have aRT:∀w∈gg,0<=Pr.da w.gM:=λw aP=>(MB w aP).2.1;simp only[go_sem,MV,UQ,bT,eF]
 repeat (refine i ?_;simp only[go_sem])
 try simp only[go_sem,eF]
 repeat (refine i ?_;simp only[go_sem])
 refine hv (λD r=> ∃j:Nat,j<=gg.length/\D=[(7,.pure 2 (ai gg)),(9,.int .i64 0),(12,.int .i64 I),(22,.int .i64 (Pr.aLo P-aNi (gg.take j))),(24,.int .i64 j)]/\r=[])
  (λD _=>match bs D 24 with| .int _ j=>(gg.length-j).toNat|_=>0) ?_ ?_
 ·exact i ⟨0,by omega,by simp[aNi],rfl⟩
 rintro D r ⟨j,hj,rfl,rfl⟩;have aRP:=aPv (f:=λw:wE=>Pr.da w.gM) aRT j;have ik:=dB (c:=j) (by omega)
 by_cases nC:j<gg.length
 ·have eF:decide ((j:Int)<gg.length)=true:=aLv;have BS: (0:Int)<=j:=by omega
  have MT: (j:Int)<gg.length:=by omega
  have fL: (ai gg).getD j []=[.int .i64 gg[j].ah,.pure 2 (ai gg[j].gM)]:=cT nC;obtain⟨GA,axN,OR,aRQ⟩:=MB gg[j] (aLc nC);have un:=Pr.aRR gg[j].gM (by omega);rw[GA] at un;have cn:aNi (gg.take (j+1))=aNi (gg.take j)+Pr.da gg[j].gM:=aPu nC;have aQB:=aPv (f:=λw:wE=>Pr.da w.gM) aRT (j+1);have nd:IntKind.i64.wrap (Pr.aLo P-aNi (gg.take j)-Pr.da gg[j].gM)=Pr.aLo P-aNi (gg.take (j+1)):=by
   unfold aNi at *;rw[cn] at aQB ⊢;rw[bl];omega
  simp only[go_sem,MV,UQ,bT,eF]
  repeat (refine i ?_;simp only[go_sem])
  simp only[go_sem,BS,MT,fL];refine bM un (by simp only[bU,bJ,ck,aK4]) rfl ?_;simp only[go_sem,nd]
  repeat (refine i ?_;simp only[go_sem])
  rw[ik];exact⟨⟨j+1,by omega,rfl⟩,by omega⟩
 obtain rfl:j=gg.length:=by omega
 have eF:decide ((gg.length:Int)<gg.length)=false:=aK7;rw[aLb] at *;have iR:decide (0<=Pr.aLo P-aNi gg)=true:=aLf (by unfold aNi;omega);have pW:decide (0<=I)=true:=aLf oK;simp only[go_sem,MV,UQ,bT,eF]
 repeat (refine i ?_;simp only[go_sem])
 try simp only[go_sem,eF,iR,pW]
 repeat (refine i ?_;simp only[go_sem])
 refine bM hN rfl rfl ?_;simp only[go_sem]
 repeat (refine i ?_;simp only[go_sem])
 exact aKG rfl ⟨rfl,rfl⟩
theorem timesheetConserves (l:List Int)(hl:mW l):aO prog 6 [.pure 1 (cJ .i64 l)] [] (λv rs=>v= .bool true/\rs=[]):=aS9 aTq l hl
end Go.Proofs.YtpincjkjoeopkaaGreatDoor
