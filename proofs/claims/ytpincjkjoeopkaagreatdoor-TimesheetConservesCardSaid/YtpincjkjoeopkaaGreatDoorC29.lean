/- Presences and working time. -/
import Derived.Test.YtpincjkjoeopkaaGreatDoorC28
set_option linter.all false
namespace Go.Proofs.YtpincjkjoeopkaaGreatDoor.Pr
open Go Go.Abs Go.Proofs.Tryz
def Db:Int->List lR->Int
 |a,[]=>a
 |_,b::z=>Db b.after z
def Dc:Int->List lR->Int
 |m,[]=>m
 |_,b::z=>Dc b.iP z
theorem aiU:∀{l:List lR} {a:Int} {b:lR},Db a (l++[b])=b.after
 | [],_,_=>rfl
 |x::z,_,b=>by rw[aLx,Db,aiU]
theorem aiV:∀{l:List lR} {a:Int} {b:lR},Dc a (l++[b])=b.iP
 | [],_,_=>rfl
 |x::z,_,b=>by rw[aLx,Dc,aiV]
theorem aiW:∀{l:List lR} {a m:Int} {b:lR},lz a m l=true->Db a l<b.after->b.after<=1440->Dc m l<b.iP->b.iP<=1440->lz a m (l++[b])=true
 | [],a,m,b,_,d,G,au,bv=>by
  simp only[Db,Dc] at d au;simp only[aLV,lz,aK0,aKN];omega
 |x::z,a,m,b,h,d,G,au,bv=>by
  simp only[lz,aKJ] at h;simp only[aLx,lz,aKJ];exact⟨h.1,aiW h.2 d G au bv⟩
theorem ayI (l:List Int)(hl:mW l)(az:Int)(h0:0<=az)(d:az<=l.length):aO prog 60 [.bd 0 1 0 0,.bool false] [gp l az]
 (λv rs=> ∃(a:Int) (z:gK),v= .agg (aJ.J z)/\rs=[gp l a]/\0<=a/\a<=l.length/\mq z=0):=by
 refine hJ func60 acM (by simp[yA,A9]) ?_;simp only[go_sem,yA,A9,gp]
 (refine i ?_;simp only[go_sem])
 (refine lN (hi l hl 4 (by omega)) ?_;rintro _ az _ _ ⟨F2,rfl,_,_⟩;simp only[go_sem])
 (refine ja [0,5,15,120] (aLs l hl _ (by simp) (by simp)) ?_;rintro _ az _ _ ⟨F3,cg,rfl⟩;simp only[fR] at cg;simp only[go_sem])
 have qC:0<=F3/\F3<=120:=by omega
 clear cg
 (refine i ?_;simp only[go_sem])
 (refine i ?_;simp only[go_sem])
 refine arL (E 1 λD r=> ∃(a g:Int),bs D 0= .bd 0 1 0 0/\bs D 1= .bool false/\bs D 4= .bd 1 1 0 0/\bs D 5= .bd 2 1 0 0/\r=[dX 143 l a,.ag 35 4 [[.int .i64 0,.int .i64 0,.int .i64 0,.bH]],.ag 35 4 [[.int .i64 g,.int .i64 F2,.int .i64 F3,.bH]]]/\0<=a/\a<=l.length/\(F2=0/\g=0\/F2≠0/\1<=g/\g<=60)) ?_ ?_ ?_
 ·intro ct;simp only[bC] at ct;simp only[go_sem,yA,A9]
  (refine ja [15,5,1,60,7] (aLs l hl _ (by simp) (by simp)) ?_;rintro _ az _ _ ⟨g,cg,rfl⟩;simp only[fR] at cg;simp only[go_sem])
  have aw:1<=g/\g<=60:=by omega
  clear cg
  (refine E.bB [some 0,some 1,some 3] ?_;simp only[go_sem])
  exact i ⟨az,g,rfl,rfl,rfl,rfl,rfl,by omega,by omega,.inr ⟨ct,aw⟩⟩
 ·intro ct;simp only[bC] at ct;simp only[go_sem,yA,A9]
  (refine E.bB [some 0,some 1,some 3] ?_;simp only[go_sem])
  exact i ⟨az,0,rfl,rfl,rfl,rfl,rfl,by omega,by omega,.inl ⟨by omega,rfl⟩⟩
 ·intro e z h;refine E.mono ?_ h;rintro D r ⟨az,g,Us,xu,xb,Dd,rfl,_,_,aw⟩;simp only[go_sem,yA,A9,Us,xu,xb,Dd];have yn:gK.qh ⟨g,F2,F3,[]⟩:=by unfold gK.qh;simp only;omega
  (refine ja [0,120,360] (aLs l hl _ (by simp) (by simp)) ?_;rintro _ az _ _ ⟨aG,cg,rfl⟩;simp only[fR] at cg;simp only[go_sem])
  have aKq:0<=aG/\aG<=360:=by omega
  clear cg;simp only[Us,xu,xb,Dd]
  (refine ja [15,30,1] (aLs l hl _ (by simp) (by simp)) ?_;rintro _ az _ _ ⟨vA,cg,rfl⟩;simp only[fR] at cg;simp only[go_sem])
  have aKr:1<=vA/\vA<=30:=by omega
  clear cg;refine i ?_;simp only[go_sem,Us,xu,xb,Dd]
  (refine lN (hi l hl 4 (by omega)) ?_;rintro _ az _ _ ⟨J,rfl,_,_⟩;simp only[go_sem])
  (refine i ?_;simp only[go_sem])
  refine hv (λD r=> ∃(a:Int) (dl:List lR) (c aG vA:Int),D=[(0,.bd 0 1 0 0),(1,.bool false),(4,.bd 1 1 0 0),(5,.bd 2 1 0 0),(6,.int .i64 aG),(7,.int .i64 vA),(8,.int .i64 c)]/\
   r=[dX 143 l a,.ag 35 4 [[.int .i64 0,.int .i64 0,.int .i64 0,.bH]],.ag 35 4 [[.int .i64 g,.int .i64 F2,.int .i64 F3,.own 3 dl.length 0 dl.length]],.ag 261 2 (ai dl)]/\0<=a/\a<=l.length/\0<=c/\dl.length+c<=3/\lz (-1) 0 dl=true/\Db (-1) dl<aG/\Dc 0 dl<vA/\aG+180*c<=900/\vA+15*c<=75/\0<=aG/\0<=vA)
   (λD _=>match bs D 8 with| .int _ j=>j.toNat|_=>0) ?_ ?_
  ·(refine E.bB [some 0,some 1,some 2] ?_;simp only[go_sem])
   (refine E.oc (.vQ 2 0 3 261 2 rfl (by simp) (by decide) rfl) ?_;simp only[go_sem,fb])
   exact i ⟨az,[],J,aG,vA,rfl,rfl,by omega,by omega,by omega,by simp;omega,rfl,by simp[Db];omega,by simp[Dc];omega,by omega,by omega,by omega,by omega⟩
  ·rintro D r ⟨az,dl,c,aG,vA,rfl,rfl,_,_,_,_,Lq,abW,Ut,_,_,_,_⟩;simp only[go_sem,yA,A9]
   (refine i ?_;simp only[go_sem])
   refine dj ?_ ?_<;>intro fH<;>simp only[bC] at fH<;>simp only[go_sem,yA,A9]
   ·(refine i ?_;simp only[go_sem])
    refine⟨by omega,?_⟩
    (refine i ?_;simp only[go_sem])
    (refine ja [60,180,1] (aLs l hl _ (by simp) (by simp)) ?_;rintro _ az _ _ ⟨x,cg,rfl⟩;simp only[fR] at cg;simp only[go_sem])
    have aj:1<=x/\x<=180:=by omega
    clear cg;rw[bl]
    (refine ja [15,1] (aLs l hl _ (by simp) (by simp)) ?_;rintro _ az _ _ ⟨y,cg,rfl⟩;simp only[fR] at cg;simp only[go_sem])
    have bt:1<=y/\y<=15:=by omega
    clear cg;rw[bl]
    (refine i ?_;simp only[go_sem])
    rw[bl]
    (refine E.bB [some 0,some 1,some 2,some 3] ?_;simp only[go_sem])
    refine i ⟨⟨az,dl++[⟨aG,vA⟩],c-1,aG+x,vA+y,by simp,(by first| (simp;done)| (rw[<-kT,aKK];rfl)),by omega,by omega,by omega,by simp;omega,aiW Lq abW (by simp only;omega) Ut (by simp only;omega),by rw[aiU];simp only;omega,by rw[aiV];simp only;omega,by omega,by omega,by omega,by omega⟩,?_⟩;simp only[go_sem];omega
   ·(refine aL1 [some 0,some 1,some 2] [3] ?_;simp only[go_sem])
    repeat (refine i ?_;simp only[go_sem])
    (refine E.bB [some 0] ?_;simp only[go_sem])
    refine i ⟨az,⟨g,F2,F3,dl⟩,rfl,rfl,by omega,by omega,?_⟩;rw[mq,S (by simp only;omega),Rc];exact⟨yn,Lq⟩
end Go.Proofs.YtpincjkjoeopkaaGreatDoor.Pr
namespace Go.Proofs.YtpincjkjoeopkaaGreatDoor.Ib
open Go Go.Abs Go.Proofs.Tryz
def Nl:ByteArray:=⟨#[110,111,114,109,97,108]⟩
theorem S0 {x:kr}(aH:vo x.name)(G:x.after<=10080):∀{b:Int} {l:List kr},jT b l=true->b<x.after->(∀y∈l,y.after<x.after)->jT b (l++[x])=true
 |b,[],_,d,_=>by simp[jT,aH,d,G]
 |b,y::l,h,d,au=>by
  simp only[jT,aKJ,aKN] at h;have:=S0 aH G h.2.2.2 (au y aLa) λM ba=>au M (aK1 _ ba);simp[jT,h.1,h.2.1,h.2.2.1,this]
def agB (aF:ib):Prop:=aF.ef=Nl/\aF.eN.length<=2/\aF.gL.length<=2/\jT (-1) aF.eN=true/\jT (-1) aF.gL=true
theorem ayM {aF:ib}(h:agB aF):lA aF=0:=by
 obtain⟨d,G,au,bv,cx⟩:=h;have aH:vo aF.ef:=by rw[d];decide
 unfold lA;rw[S (by omega),Rc ⟨aH,bv,cx⟩]
theorem ayJ (l:List Int)(hl:mW l)(az:Int)(h0:0<=az)(d:az<=l.length):aO prog 61 [.bd 0 1 0 0,.bool false] [gp l az]
 (λv rs=> ∃(a:Int) (aF:ib),v=aF.v/\rs=[gp l a]/\0<=a/\a<=l.length/\agB aF):=by
 refine hJ func61 acN (by simp[AB,CV]) ?_;simp only[go_sem,AB,CV,gp]
 repeat (refine i ?_;simp only[go_sem])
 (refine ja [0,60,480,120] (aLs l hl _ (by simp) (by simp)) ?_;rintro _ az _ _ ⟨x,cg,rfl⟩;simp only[fR] at cg;simp only[go_sem])
 have aj:0<=x/\x<=480:=by omega
 clear cg
 repeat (refine i ?_;simp only[go_sem])
 (refine lN (hi l hl 3 (by omega)) ?_;rintro _ az _ _ ⟨k,rfl,_,_⟩;simp only[go_sem])
 (refine i ?_;simp only[go_sem])
 refine hv (λD r=> ∃(a:Int) (eN:List kr) (j t:Int),D=[(0,.bd 0 1 0 0),(1,.bool false),(4,.bd 1 1 0 0),(5,.bd 2 1 0 0),(6,.int .i64 t),(7,.int .i64 j)]/\
  r=[dX 143 l a,.ag 38 3 [[.str ⟨#[]⟩,.bH,.bH]],.ag 38 3 [[.str Nl,.own 3 eN.length 0 eN.length,.bH]],.ag 128 2 (ai eN)]/\0<=a/\a<=l.length/\0<=j/\eN.length+j<=2/\jT (-1) eN=true/\(∀y∈eN,y.after<t)/\0<=t/\t+120*j<=720)
  (λD _=>match bs D 7 with| .int _ j=>j.toNat|_=>0) ?_ ?_
 ·(refine E.bB [some 0,some 1,some 2] ?_;simp only[go_sem])
  (refine E.oc (.vQ 2 0 1 128 2 rfl (by simp) (by decide) rfl) ?_;simp only[go_sem,fb])
  exact i ⟨az,[],k,x,rfl,rfl,by omega,by omega,by omega,by simp;omega,rfl,by simp,by omega,by omega⟩
 ·rintro D r ⟨az,eN,j,t,rfl,rfl,_,_,_,_,af,aI,zR,Lz⟩;simp only[go_sem,AB,CV]
  repeat (refine i ?_;simp only[go_sem])
  refine dj ?_ ?_<;>intro aw<;>simp only[bC] at aw<;>simp only[go_sem,AB,CV]
  ·(refine i ?_;simp only[go_sem])
   (refine xW (hi l hl 3 (by omega)) ?_;rintro _ az _ _ ⟨M,rfl,_,_⟩;simp only[go_sem])
   rcases (show M=0\/M=1\/M=2 by omega) with rfl|rfl|rfl
   all_goals
    simp only[go_sem,agC];refine⟨by omega,?_⟩
    repeat (refine i ?_;simp only[go_sem])
    (refine ja [60,1,120] (aLs l hl _ (by simp) (by simp)) ?_;rintro _ az _ _ ⟨y,cg,rfl⟩;simp only[fR] at cg;simp only[go_sem])
    have bt:1<=y/\y<=120:=by omega
    clear cg;rw[bl (x:=t+y)]
    (refine i ?_;simp only[go_sem])
    rw[bl (x:=j-1)]
    (refine E.bB [some 0,some 1,some 2,some 3] ?_;simp only[go_sem])
    refine i ⟨⟨az,eN++[⟨_,t⟩],j-1,t+y,rfl,(by rw[aKK];rfl),by omega,by omega,by omega,(by rw[aKK,aL6];omega),S0 ?_ (by simp only;omega) af (by simp only;omega) aI,?_,by omega,by omega⟩,?_⟩
    ·(dsimp only;decide)
    ·intro b af;rcases aK3.1 af with af|af
     ·have:=aI b af;omega
     ·rw[aK2] at af;subst af;simp only;omega
    ·simp only[go_sem];omega
  clear aI
  (refine i ?_;simp only[go_sem])
  (refine ja [100,480,0,2400] (aLs l hl _ (by simp) (by simp)) ?_;rintro _ az _ _ ⟨S1,cg,rfl⟩;simp only[fR] at cg;simp only[go_sem])
  have Rx:0<=S1/\S1<=2400:=by omega
  clear cg
  repeat (refine i ?_;simp only[go_sem])
  (refine lN (hi l hl 3 (by omega)) ?_;rintro _ az _ _ ⟨cd,rfl,_,_⟩;simp only[go_sem])
  (refine i ?_;simp only[go_sem])
  have MA:eN.length<=2:=by omega
  clear zR Lz;refine hv (λD r=> ∃(a:Int) (gL:List kr) (j t:Int),D=[(0,.bd 0 1 0 0),(1,.bool false),(4,.bd 1 1 0 0),(5,.bd 2 1 0 0),(6,.int .i64 t),(8,.int .i64 j)]/\
   r=[dX 143 l a,.ag 38 3 [[.str ⟨#[]⟩,.bH,.bH]],.ag 38 3 [[.str Nl,.own 3 eN.length 0 eN.length,.own 4 gL.length 0 gL.length]],.ag 128 2 (ai eN),.ag 128 2 (ai gL)]/\0<=a/\a<=l.length/\0<=j/\gL.length+j<=2/\jT (-1) gL=true/\(∀y∈gL,y.after<t)/\0<=t/\t+600*j<=3600)
   (λD _=>match bs D 8 with| .int _ j=>j.toNat|_=>0) ?_ ?_
  ·(refine E.bB [some 0,some 1,some 2,some 3] ?_;simp only[go_sem])
   (refine E.oc (.vQ 2 0 2 128 2 rfl (by simp) (by decide) rfl) ?_;simp only[go_sem,fb])
   exact i ⟨az,[],cd,S1,rfl,rfl,by omega,by omega,by omega,by simp;omega,rfl,by simp,by omega,by omega⟩
  rintro D r ⟨az,gL,j,t,rfl,rfl,_,_,_,_,mT,aI,zR,Lz⟩;simp only[go_sem,AB,CV]
  repeat (refine i ?_;simp only[go_sem])
  refine dj ?_ ?_<;>intro aw<;>simp only[bC] at aw<;>simp only[go_sem,AB,CV]
  ·(refine i ?_;simp only[go_sem])
   (refine xW (hi l hl 3 (by omega)) ?_;rintro _ az _ _ ⟨M,rfl,_,_⟩;simp only[go_sem])
   rcases (show M=0\/M=1\/M=2 by omega) with rfl|rfl|rfl
   all_goals
    simp only[go_sem,agC];refine⟨by omega,?_⟩
    repeat (refine i ?_;simp only[go_sem])
    (refine ja [60,1,600] (aLs l hl _ (by simp) (by simp)) ?_;rintro _ az _ _ ⟨y,cg,rfl⟩;simp only[fR] at cg;simp only[go_sem])
    have bt:1<=y/\y<=600:=by omega
    clear cg;rw[bl (x:=t+y)]
    (refine i ?_;simp only[go_sem])
    rw[bl (x:=j-1)]
    (refine E.bB [some 0,some 1,some 2,some 3,some 4] ?_;simp only[go_sem])
    refine i ⟨⟨az,gL++[⟨_,t⟩],j-1,t+y,rfl,(by rw[aKK];rfl),by omega,by omega,by omega,(by rw[aKK,aL6];omega),S0 ?_ (by simp only;omega) mT (by simp only;omega) aI,?_,by omega,by omega⟩,?_⟩
    ·(dsimp only;decide)
    ·intro b af;rcases aK3.1 af with af|af
     ·have:=aI b af;omega
     ·rw[aK2] at af;subst af;simp only;omega
    ·simp only[go_sem];omega
  repeat (refine i ?_;simp only[go_sem])
  (refine aL1 [some 0] [3,4] ?_;simp only[go_sem])
  exact i ⟨az,⟨Nl,eN,gL⟩,rfl,rfl,by omega,by omega,rfl,MA,by simp only;omega,af,mT⟩
end Go.Proofs.YtpincjkjoeopkaaGreatDoor.Ib
namespace Go.Proofs.YtpincjkjoeopkaaGreatDoor.Pm
open Go Go.Abs Go.Proofs.Tryz
def FV:List cX:=[⟨0,1,1,0,0,false⟩,⟨0,12,25,0,0,true⟩,⟨0,2,29,0,0,false⟩,⟨1,0,0,0,1,false⟩,⟨1,0,0,0,-2,false⟩,⟨1,0,0,0,-100,false⟩,⟨2,11,4,3,0,false⟩,⟨2,1,-1,0,0,false⟩,⟨2,1,1,5,0,true⟩,⟨2,12,5,3,7,false⟩,⟨2,1,1,4,-7,false⟩]
theorem aE9:oD FV=true:=by decide
theorem aFa {l:List cX}{h:cX}(hl:oD l=true)(hh:AW h=true):oD (l++[h])=true:=by
 unfold oD at *;rw[aP4,hl];simp[hh]
theorem aii:ai FV=[[.int .i64 0,.int .i64 1,.int .i64 1,.int .i64 0,.int .i64 0,.bool false],[.int .i64 0,.int .i64 12,.int .i64 25,.int .i64 0,.int .i64 0,.bool true],[.int .i64 0,.int .i64 2,.int .i64 29,.int .i64 0,.int .i64 0,.bool false],
 [.int .i64 1,.int .i64 0,.int .i64 0,.int .i64 0,.int .i64 1,.bool false],[.int .i64 1,.int .i64 0,.int .i64 0,.int .i64 0,.int .i64 (-2),.bool false],[.int .i64 1,.int .i64 0,.int .i64 0,.int .i64 0,.int .i64 (-100),.bool false],
 [.int .i64 2,.int .i64 11,.int .i64 4,.int .i64 3,.int .i64 0,.bool false],[.int .i64 2,.int .i64 1,.int .i64 (-1),.int .i64 0,.int .i64 0,.bool false],[.int .i64 2,.int .i64 1,.int .i64 1,.int .i64 5,.int .i64 0,.bool true],
 [.int .i64 2,.int .i64 12,.int .i64 5,.int .i64 3,.int .i64 7,.bool false],[.int .i64 2,.int .i64 1,.int .i64 1,.int .i64 4,.int .i64 (-7),.bool false]]:=rfl
def T6 (rL:Bool)(z:List cX):Prop:=rL=false->oD z=true
theorem ayL (l:List Int)(hl:mW l)(rL:Bool)(az:Int)(h0:0<=az)(d:az<=l.length):aO prog 63 [.bd 0 1 0 0,.bool rL] [dX 143 l az]
 (λv rs=> ∃(a:Int) (z:List cX),0<=a/\a<=l.length/\z.length<=4/\T6 rL z/\v= .own 1 z.length 0 z.length/\rs=[dX 143 l a,.ag 263 6 (ai z)]):=by
 refine cu func63 acP (by simp[CP,FW]) ?_;simp only[go_sem,CP,FW]
 first
 |rw[<-aii]
 | (simp only[show Int.negSucc 0= -1 from rfl,show Int.negSucc 1= -2 from rfl,show Int.negSucc 99= -100 from rfl,show Int.negSucc 6= -7 from rfl];rw[<-aii])
 (refine lN (hi l hl 4 (by omega)) ?_;rintro _ az _ _ ⟨x,rfl,_,_⟩;simp only[go_sem])
 refine dN (λD r=> ∃(a:Int) (j:Nat) (z:List cX),0<=a/\a<=l.length/\z.length+j<=3/\oD z=true/\D=[(0,.bd 0 1 0 0),(1,.bool rL),(5,.own 1 11 0 11),(6,.own 2 z.length 0 z.length),(7,.int .i64 j)]/\r=[dX 143 l a,.ag 263 6 (ai FV),.ag 263 6 (ai z)])
  (λD _=>match bs D 7 with| .int _ j=>j.toNat|_=>0) ?_ ?_
 ·(refine E.iv 6 263 6 rfl (E.eW [0,1,5,6,7] ?_);simp only[go_sem])
  refine i ⟨az,x.toNat,[],by omega,by omega,by simp;omega,rfl,?_,rfl⟩;rw[show ((x.toNat:Nat):Int)=x from by omega];rfl
 ·rintro D r ⟨az,j,z,h0,d,N,an,rfl,rfl⟩;simp only[go_sem,CP,FW];refine cf ?_ ?_<;>intro dI<;>simp only[bC] at dI<;>simp only[go_sem,CP,FW]
  ·(refine lN (hi l hl 11 (by omega)) ?_;rintro _ az _ _ ⟨q,rfl,_,_⟩;simp only[go_sem])
   have aV:q.toNat<FV.length:=by show q.toNat<11;omega
   rw[cT aV];have aij:=ahM aE9 aV;generalize FV[q.toNat]=hh at aij ⊢;have nf:IntKind.i64.wrap ((j:Int)-1)=((j-1:Nat):Int):=by rw[bl];omega
   refine⟨rfl,by omega,by omega,rfl,?_⟩;simp only[go_sem,TQ,TR,ahN];refine⟨by omega,?_⟩;simp only[go_sem,nf]
   (refine E.bB [some 0,some 1,some 2] ?_;simp only[go_sem])
   refine i ⟨⟨az,j-1,z++[hh],by omega,by omega,by simp;omega,aFa an aij,?_,rfl⟩,?_⟩
   ·simp
   ·simp only[go_sem];omega
  ·have ww:∀(az:Int) (z:List cX) (r:List Z),0<=az->az<=l.length->z.length<=4->T6 rL z->
    E 1 (xP λv rs=> ∃(a:Int) (z:List cX),0<=a/\a<=l.length/\z.length<=4/\T6 rL z/\v= .own 1 z.length 0 z.length/\rs=[dX 143 l a,.ag 263 6 (ai z)]) [(0,.own 2 z.length 0 z.length)] (dX 143 l az:: .ag 263 6 (ai FV):: .ag 263 6 (ai z)::r):=by
    intro az z r h0 d N an
    (refine E.bB [some 0,some 2] ?_;simp only[go_sem])
    exact i ⟨az,z,h0,d,N,an,rfl,rfl⟩
   cases rL
   ·simp only[go_sem];exact ww az z [] (by omega) (by omega) (by omega) (λ_=>an)
   ·simp only[go_sem]
    (refine lN (hi l hl 6 (by omega)) ?_;rintro _ az _ _ ⟨q,rfl,_,_⟩;simp only[go_sem])
    refine cf ?_ ?_<;>intro ct<;>simp only[bC] at ct<;>simp only[go_sem,CP,FW]
    ·(refine lN (hi l hl 4 (by omega)) ?_;rintro _ az _ _ ⟨bO,rfl,_,_⟩;simp only[go_sem])
     (refine lN (hi l hl 14 (by omega)) ?_;rintro _ az _ _ ⟨cd,rfl,_,_⟩;simp only[go_sem])
     (refine ja [0,6,31,-1] (aLs l hl _ (by simp) (by simp)) ?_;rintro _ az _ _ ⟨fk,cg,rfl⟩;simp only[fR] at cg;simp only[go_sem])
     (refine lN (hi l hl 8 (by omega)) ?_;rintro _ az _ _ ⟨hB,rfl,_,_⟩;simp only[go_sem])
     (refine ja [0,8,101] (aLs l hl _ (by simp) (by simp)) ?_;rintro _ az _ _ ⟨jE,cg,rfl⟩;simp only[fR] at cg;simp only[go_sem])
     refine⟨by omega,?_⟩;have he:=ww az (z++[⟨bO,cd,fk,hB,jE,false⟩]) [.ag 3 1 [[.int .i64 0],[.int .i64 6],[.int .i64 31],[.int .i64 (-1)]],.ag 3 1 [[.int .i64 0],[.int .i64 8],[.int .i64 101]],.ag 263 6 [[.int .i64 bO,.int .i64 cd,.int .i64 fk,.int .i64 hB,.int .i64 jE,.bool false]]] (by omega) (by omega) (by simp;omega) (λh=>by cases h);rw[<-kT,aKK] at he;exact he
    ·exact ww az z [] (by omega) (by omega) (by omega) (λh=>by cases h)
theorem Ul {l:List dP}{n g:ByteArray}{z f t w B:Int}:ai l++[[.str n,.str g,.int .i64 z,.int .i64 f,.int .i64 t,.int .i64 w,.int .i64 B]]=ai (l++[⟨n,g,z,f,t,w,B⟩]):=kT (x:=dP.mk n g z f t w B)
theorem ayK (l:List Int)(hl:mW l)(rL:Bool)(az:Int)(h0:0<=az)(d:az<=l.length):aO prog 62 [.bd 0 1 0 0,.bool rL] [gp l az]
 (λv rs=> ∃(a:Int) (al:List dP),v= .own 1 al.length 0 al.length/\rs=[gp l a,.ag 229 7 (ai al)]/\0<=a/\a<=l.length/\al.length<=3/\(rL=false->qW al=true)):=by
 refine hJ func62 acO (by simp[AC,C8]) ?_;simp only[go_sem,AC,C8,gp]
 (refine i ?_;simp only[go_sem])
 (refine i ?_;simp only[go_sem])
 (refine lN (hi l hl 4 (by omega)) ?_;rintro _ az _ _ ⟨k,rfl,_,_⟩;simp only[go_sem])
 (refine i ?_;simp only[go_sem])
 refine hv (λD r=> ∃(a:Int) (al:List dP) (j:Int),D=[(0,.bd 0 1 0 0),(1,.bool rL),(5,.own 1 al.length 0 al.length),(6,.int .i64 j)]/\r=[dX 143 l a,.ag 229 7 (ai al)]/\0<=a/\a<=l.length/\0<=j/\al.length+j<=3/\(rL=false->qW al=true))
  (λD _=>match bs D 6 with| .int _ j=>j.toNat|_=>0) ?_ ?_
 ·(refine E.iv 5 229 7 rfl (E.eW [0,1,5,6] ?_);simp only[go_sem])
  (refine E.bB [some 0,some 1] ?_;simp only[go_sem])
  exact i ⟨az,[],k,rfl,rfl,by omega,by omega,by omega,by simp;omega,λ_=>rfl⟩
 ·rintro D r ⟨az,al,j,rfl,rfl,_,_,_,jK,pV⟩;simp only[go_sem,AC,C8]
  (refine i ?_;simp only[go_sem])
  refine dj ?_ ?_<;>intro aw<;>simp only[bC] at aw<;>simp only[go_sem,AC,C8]
  ·(refine i ?_;simp only[go_sem])
   have GH:∀a:Int,0<=a->a<4-> ∃I,([[F.str ⟨#[110,105,103,104,116]⟩],[.str ⟨#[108,97,116,101]⟩],[.str ⟨#[115,117,110,100,97,121]⟩],[.str ⟨#[104,111,108,105,100,97,121]⟩]]:List (List F)).getD a.toNat []=[.str I]/\rO I=true:=by
    intro a YR BT;rcases (show a=0\/a=1\/a=2\/a=3 by omega) with rfl|rfl|rfl|rfl
    ·exact⟨_,rfl,by decide⟩
    ·exact⟨_,rfl,by decide⟩
    ·exact⟨_,rfl,by decide⟩
    ·exact⟨_,rfl,by decide⟩
   have aFU:∀a:Int,0<=a->a<4-> ∃I,([[F.str ⟨#[]⟩],[.str ⟨#[97]⟩],[.str ⟨#[97]⟩],[.str ⟨#[98]⟩]]:List (List F)).getD a.toNat []=[.str I]/\(ez I ⟨#[]⟩||rO I)=true:=by
    intro a YR BT;rcases (show a=0\/a=1\/a=2\/a=3 by omega) with rfl|rfl|rfl|rfl
    ·exact⟨_,rfl,by rw[FI];rfl⟩
    ·exact⟨_,rfl,by rw[show rO ⟨#[97]⟩=true by decide];simp⟩
    ·exact⟨_,rfl,by rw[show rO ⟨#[97]⟩=true by decide];simp⟩
    ·exact⟨_,rfl,by rw[show rO ⟨#[98]⟩=true by decide];simp⟩
   (refine xW (hi l hl 4 (by omega)) ?_;rintro _ az _ _ ⟨cH,rfl,_,_⟩;simp only[go_sem])
   obtain⟨n,aH,aFV⟩:=GH cH (by omega) (by omega);refine⟨by omega,by omega,?_⟩
   first|rw[aH]|erw [aH]
   simp only[go_sem]
   (refine xW (hi l hl 4 (by omega)) ?_;rintro _ az _ _ ⟨ff,rfl,_,_⟩;simp only[go_sem])
   obtain⟨g,aiL,FG⟩:=aFU ff (by omega) (by omega);refine⟨by omega,by omega,?_⟩
   first|rw[aiL]|erw [aiL]
   simp only[go_sem]
   (refine xW (hi l hl 3 (by omega)) ?_;rintro _ az _ _ ⟨z,rfl,_,_⟩;simp only[go_sem])
   (refine G4 [1320,0,1080,360] (aLs l hl _ (by simp) (by simp)) ?_;rintro _ az _ _ ⟨f,cg,rfl⟩;simp only[fR] at cg;simp only[go_sem])
   have hf:0<=f/\f<1440:=by omega
   clear cg
   (refine G4 [360,1440,0,1380,1080] (aLs l hl _ (by simp) (by simp)) ?_;rintro _ az _ _ ⟨t,cg,rfl⟩;simp only[fR] at cg;simp only[go_sem])
   have ht:0<=t/\t<=1440:=by omega
   clear cg
   (refine G4 [127,64,31,8,0] (aLs l hl _ (by simp) (by simp)) ?_;rintro _ az _ _ ⟨w,cg,rfl⟩;simp only[fR] at cg;simp only[go_sem])
   have aP:0<=w/\w<=127:=by omega
   clear cg
   (refine xW (hi l hl 3 (by omega)) ?_;rintro _ az _ _ ⟨B,rfl,_,_⟩;simp only[go_sem])
   have aFW:qW (al++[⟨n,g,z,f,t,w,B⟩])=qW al:=by
    have G: (0<=z/\z<=1000/\0<=f/\f<1440/\0<=t/\t<=1440/\0<=w/\w<=127/\0<=B/\B<=2):=by omega
    have au:A6 ⟨n,g,z,f,t,w,B⟩=true:=by
     unfold A6 lW;simp only[aFV,FG,aLw];exact aLf G
    simp[qW,au]
   have nf:IntKind.i64.wrap (j-1)=j-1:=bl;have cK:al.length<3:=by omega
   (refine E.bB [some 0,some 1,some 7] ?_;simp only[go_sem])
   (refine i ?_;simp only[go_sem])
   cases rL with
   |false=>
    simp only[go_sem,AC,C8]
    (refine i ?_;simp only[go_sem])
    (refine i ?_;simp only[go_sem])
    refine⟨by omega,?_⟩;rw[Ul]
    (refine i ?_;simp only[go_sem])
    rw[nf]
    (refine E.bB [some 0,some 1] ?_;simp only[go_sem])
    refine i ⟨⟨az,al++[⟨n,g,z,f,t,w,B⟩],j-1,by simp,by simp,by omega,by omega,by omega,by simp;omega,λ_=>by rw[aFW];exact pV rfl⟩,?_⟩;simp only[go_sem];omega
   |true=>
    simp only[go_sem,AC,C8]
    (refine lN (hi l hl 12 (by omega)) ?_;rintro _ az _ _ ⟨q,rfl,_,_⟩;simp only[go_sem])
    (refine i ?_;simp only[go_sem])
    by_cases aV:q=11
    ·have BL: (q==11)=true:=aLu.2 aV;simp only[go_sem,BL,aV]
     (refine ja [1440,-1,5] (aLs l hl _ (by simp) (by simp)) ?_;rintro _ az _ _ ⟨ig,cg,rfl⟩;simp only[fR] at cg;simp only[go_sem])
     clear cg
     (refine ja [128,127] (aLs l hl _ (by simp) (by simp)) ?_;rintro _ az _ _ ⟨jH,cg,rfl⟩;simp only[fR] at cg;simp only[go_sem])
     clear cg
     (refine i ?_;simp only[go_sem])
     refine⟨by omega,?_⟩;rw[Ul]
     (refine i ?_;simp only[go_sem])
     rw[nf]
     (refine E.bB [some 0,some 1] ?_;simp only[go_sem])
     refine i ⟨⟨az,al++[⟨n,g,z,ig,t,jH,B⟩],j-1,by simp,by simp,by omega,by omega,by omega,by simp;omega,λe=>by cases e⟩,?_⟩;simp only[go_sem];omega
    ·have BL: (q==11)=false:=aLO.2 aV;simp only[go_sem,BL,aV]
     (refine i ?_;simp only[go_sem])
     refine⟨by omega,?_⟩;rw[Ul]
     (refine i ?_;simp only[go_sem])
     rw[nf]
     (refine E.bB [some 0,some 1] ?_;simp only[go_sem])
     refine i ⟨⟨az,al++[⟨n,g,z,f,t,w,B⟩],j-1,by simp,by simp,by omega,by omega,by omega,by simp;omega,λe=>by cases e⟩,?_⟩;simp only[go_sem];omega
  ·(refine i ?_;simp only[go_sem])
   (refine i ?_;simp only[go_sem])
   (refine E.bB [some 0,some 1] ?_;simp only[go_sem])
   exact i ⟨az,al,rfl,rfl,by omega,by omega,by omega,pV⟩
end Go.Proofs.YtpincjkjoeopkaaGreatDoor.Pm
namespace Go.Proofs.YtpincjkjoeopkaaGreatDoor
open Go Go.Abs Go.Proofs.Tryz
set_option maxHeartbeats 4000000 in
theorem axB (l:List Int)(hl:mW l)(az:Int)(h0:0<=az)(d:az<=l.length):aO prog 17 [.bd 0 1 0 0,.bool false] [gp l az]
 (λv rs=> ∃(a:Int) (z:eD) (ap:List F),v= .agg ap/\hK ap z.J/\rs=[gp l a]/\0<=a/\a<=l.length/\qL z=0/\z.ao.length<=4/\z.al.length<=3):=by
 refine hJ func17 abV (by simp[IA,MN]) ?_;simp only[go_sem,IA,MN,gp]
 (refine i ?_;simp only[go_sem])
 (refine fy [0] (atO l hl az h0 d) ?_;rintro _ _ ⟨abz,M,rfl,rfl,h0,d,ba,axb⟩;simp only[go_sem])
 simp only[go_sem,gp,cc.v]
 (refine ja [900,700,10080] (aLs l hl _ (by simp) (by simp)) ?_;rintro _ az _ _ ⟨fz,cg,rfl⟩;simp only[fR] at cg;simp only[go_sem])
 have SM:1<=fz/\fz<=10080:=by omega
 clear cg
 (refine ja [60,0,180] (aLs l hl _ (by simp) (by simp)) ?_;rintro _ az _ _ ⟨er,cg,rfl⟩;simp only[fR] at cg;simp only[go_sem])
 have abW:0<=er/\er<=1440:=by omega
 clear cg
 (refine ja [120,0] (aLs l hl _ (by simp) (by simp)) ?_;rintro _ az _ _ ⟨ex,cg,rfl⟩;simp only[fR] at cg;simp only[go_sem])
 have MO:0<=ex/\ex<=1440:=by omega
 clear cg
 (refine fy [0] (Pr.ayI l hl az (by omega) (by omega)) ?_;rintro _ _ ⟨ff,dK,rfl,rfl,_,_,DO⟩;simp only[go_sem])
 simp only[go_sem,Pr.gp,gp,Pr.Ab]
 (refine fy [0] (Ib.ayJ l hl ff (by omega) (by omega)) ?_;rintro _ _ ⟨a3,ia,rfl,rfl,_,_,so⟩;simp only[go_sem])
 simp only[go_sem,Ib.gp,gp,Ib.ib.v]
 (refine fy [0] (Pm.ayK l hl false a3 (by omega) (by omega)) ?_;rintro _ _ ⟨a4,al,rfl,rfl,_,_,sF,pV⟩;simp only[go_sem])
 simp only[go_sem,gp]
 (refine fy [0] (Pm.ayL l hl false a4 (by omega) (by omega)) ?_;rintro _ _ ⟨a5,ao,_,_,aJ8,SN,rfl,rfl⟩;simp only[go_sem])
 have pV:=pV rfl;have SN:=SN rfl;have mT:∀r0 aKO cY fY fc Hh ws:Z,bW [r0,aKO,cY,fY,fc,.ag 229 7 (ai al),Hh,ws] [some 0,some 1,some 7] [5,6] (.own 5 al.length 0 al.length)= .pure 7 (ai al):=λ_ _ _ _ _ _ _=>qx rfl rfl rfl (by rw[bT]) ck;have abX:∀r0 aKO cY fY fc sd ws:Z,bW [r0,aKO,cY,fY,fc,sd,.ag 263 6 (ai ao),ws] [some 0,some 1,some 7] [5,6] (.own 6 ao.length 0 ao.length)= .pure 6 (ai ao):=λ_ _ _ _ _ _ _=>qx rfl rfl rfl (by rw[bT]) ck;have an:∀M:cc,fe M=0->qL ⟨M,fz,er,ex,dK,ia,al,ao⟩=0:=λM ba=>by
  unfold qL;rw[S (by simp only;omega),S (by unfold rF;simp only;omega),S (by simp only;omega),S (by have:=Ib.ayM so;simp only;omega)];unfold Pm.vm;simp only;have ayN:Pm.ng ao=0:=by unfold Pm.ng;rw[S (by omega),Rc SN]
  rw[Rc ba,Rc ayN,S (by omega),Rc pV]
 refine E.jN [some 0,some 1,some 7] [5,6] rfl rfl (by simp only[go_sem,mT,abX,ck]<;>rfl) ?_;simp only[go_sem,mT,abX]
 (refine i ?_;simp only[go_sem])
 (refine lN (hi l hl 2 (by omega)) ?_;rintro _ az _ _ ⟨q,rfl,_,_⟩;simp only[go_sem])
 (refine i ?_;simp only[go_sem])
 refine dj ?_ ?_<;>intro aw<;>simp only[bC] at aw<;>simp only[go_sem,IA,MN]
 ·(refine ja [0,60] (aLs l hl _ (by simp) (by simp)) ?_;rintro _ az _ _ ⟨V,cg,rfl⟩;simp only[fR] at cg;simp only[go_sem])
  have bp:V=0\/V=60:=cg;clear cg;have th:fe ⟨V,[]⟩=0:=by rcases bp with rfl|rfl<;>decide
  (repeat (first| (refine i ?_;simp only[go_sem])|simp only[go_sem]))
  (refine E.bB [some 0] ?_;simp only[go_sem])
  refine i ⟨az,⟨⟨V,[]⟩,fz,er,ex,dK,ia,al,ao⟩,_,rfl,?_,rfl,by omega,by omega,an _ th,by simp only;omega,by simp only;omega⟩;simp[eD.J,hK,le,ai]
 ·(repeat (first| (refine i ?_;simp only[go_sem])|simp only[go_sem]))
  (refine E.bB [some 0] ?_;simp only[go_sem])
  refine i ⟨az,⟨M,fz,er,ex,dK,ia,al,ao⟩,_,rfl,?_,rfl,by omega,by omega,an _ ba,by simp only;omega,by simp only;omega⟩;simp[eD.J,hK,le,ai]
theorem abn {ae:List cw}{bk ah:Int}:∀{l:List eH} {c:Nat},c<=l.length->(nP ae bk ah (l.take c)).length<=c
 |l,0,_=>by simp[nP]
 |l,c+1,h=>by
  have ih:=abn (ae:=ae) (bk:=bk) (ah:=ah) (l:=l) (c:=c) (by omega);rw[aap (by omega)];split
  ·have:=abo l[c].name (su ae l[c]) (nP ae bk ah (l.take c));omega
  ·omega
theorem axo {z:eD}{ae:List cw}{l:List Ib.Ev}{aq:List eH}{n R ab:Int}(h:rG z ae l n=0)(aj:aq.length<=100000)(ht:ab<=84005)(hf:0<=R):
 (jp z ae l aq n R ab).length<=84006/\ ∀x∈jp z ae l aq n R ab,x.eg.length<=1000000/\x.jR.length<=1000000:=by
 refine⟨?_,λx aj=> ?_⟩
 ·unfold jp;refine aLk (aPc _ _) ?_;rw[aLe,List.length_range];omega
 ·unfold jp at aj;obtain⟨B,_,ay⟩:=aN2.1 aj;unfold pl at ay;split at ay
  ·cases ay
  ·cases ay;have cR:=h;unfold rG at cR;split at cR
   ·omega
   split at cR
   ·omega
   rename_i d G;have d:rE z ae l n=0:=by omega
   have G:Ib.ew (pf z ae l n)=0:=by omega
   obtain⟨nD,_,_,_,LW⟩:=aaH d;obtain⟨_,_,_,_,kD⟩:=Mr nD;have awV: (fT z ae l n).length<=4096/\(lB z ae l n).length<=65536:=by
    have bv:=cR;unfold Pm.vh at bv;rw[Rc kD] at bv;have cx: ((fT z ae l n).map tV).length<=4096:=by
     unfold Pm.vi at bv;split at bv
     ·cases bv
     ·omega
    obtain⟨_,_,Sk,_⟩:=Pm.Sl kD;have dx:=aaE (M:=z.M) (h:=z.ao) (aa:=(fT z ae l n).map tV) Sk;have Mu:Pm.tW z.M z.ao z.al ((fT z ae l n).map tV)=lB z ae l n:=rfl;rw[Mu] at dx;rw[aLe] at cx dx;omega
   have Gb:=aax (fT z ae l n) B;have JH:=aNw (pS B) (fT z ae l n);have t3:=aNw (λp:Pm.Pm=>decide (p.ah=B)) (lB z ae l n);have t4:=abn (ae:=ae) (bk:=n) (ah:=B) (l:=aq) (c:=aq.length) (aKM _);rw[aLb] at t4;have t5: (An (nP ae n B aq)).length<=(nP ae n B aq).length:=aNw _ _;have aJV: (sG z l n B).length<=1024:=by
    unfold sG;rw[aLe];exact aLk (aNw _ _) LW
   refine⟨?_,by simp only;omega⟩;unfold ne;simp only[aKK,aLe];split
   ·rw[aLe];omega
   ·simp only[aLQ];omega
mutual
theorem axq:∀(a b:F),le a b->bJ b=true->bJ a=true
 | .bH,_,_,_=>rfl
 | .agg aq,.agg ys,h,k=>by
  simp only[bJ] at k ⊢;simp only[le] at h;exact Fc aq ys h k
 | .bo aq,.bo ys,h,k=>by
  simp only[bJ] at k ⊢;simp only[le] at h;exact Fc aq ys h k
 |a,b,h,k=>by
  unfold le at h;split at h
  ·rfl
  ·rename_i aq ys;simp only[bJ] at k ⊢;exact Fc aq ys h k
  ·rename_i aq ys;simp only[bJ] at k ⊢;exact Fc aq ys h k
  ·rw[h];exact k
theorem Fc:∀(aq ys:List F),hK aq ys->bU ys=true->bU aq=true
 | [],_,_,_=>rfl
 |a::aq,b::ys,h,k=>by
  simp only[bU,aKJ] at k ⊢;simp only[hK] at h;exact⟨axq a b h.1 k.1,Fc aq ys h.2 k.2⟩
 |_::_,[],h,_=>by simp only[hK] at h
end
theorem axr:∀(a b:F),le a b->Abs.cV b=true->Abs.cV a=true:=by
 intro a b h k;unfold le at h;split at h
 ·rfl
 ·simp[Abs.cV] at k
 ·simp[Abs.cV] at k
 ·rw[h];exact k
theorem abp:∀(aq ys:List F),hK aq ys->ys.all Abs.cV=true->aq.length=ys.length/\aq.all Abs.cV=true
 | [],[],_,_=>⟨rfl,rfl⟩
 |a::aq,b::ys,h,k=>by
  simp only[hK] at h;simp only[aMN,aKJ,aK8] at k ⊢;obtain⟨d,G⟩:=abp aq ys h.2 k.2;exact⟨by omega,axr a b h.1 k.1,G⟩
 | [],_::_,h,_=>by simp only[hK] at h
 |_::_,[],h,_=>by simp only[hK] at h
end Go.Proofs.YtpincjkjoeopkaaGreatDoor
