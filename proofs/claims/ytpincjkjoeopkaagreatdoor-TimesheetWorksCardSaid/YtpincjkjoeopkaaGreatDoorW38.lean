/- Presences and working time. -/
import Derived.Test.YtpincjkjoeopkaaGreatDoorW26
import Derived.Test.YtpincjkjoeopkaaGreatDoorW27
set_option linter.all false
namespace Go.Proofs.YtpincjkjoeopkaaGreatDoor.Pr
open Go Go.Abs
def Db:Int→List lR→Int
 |a,[]=>a
 |_,b::z=>Db b.after z
def Dc:Int→List lR→Int
 |m,[]=>m
 |_,b::z=>Dc b.iP z
theorem aiU: ∀ {l:List lR} {a:Int} {b:lR},Db a (l++ [b])=b.after
 | [],_,_=>rfl
 |x::z,_,b=>by rw[List.cons_append,Db,aiU]
theorem aiV: ∀ {l:List lR} {a:Int} {b:lR},Dc a (l++ [b])=b.iP
 | [],_,_=>rfl
 |x::z,_,b=>by rw[List.cons_append,Dc,aiV]
theorem aiW: ∀ {l:List lR} {a m:Int} {b:lR},lz a m l=true→Db a l < b.after→b.after≤1440→Dc m l < b.iP→b.iP≤1440→lz a m (l++ [b])=true
 | [],a,m,b,_,h1,G,au,bv=>by
  simp only[Db,Dc] at h1 au;simp only[List.nil_append,lz,Bool.and_true,decide_eq_true_eq];omega
 |x::z,a,m,b,h,h1,G,au,bv=>by
  simp only[lz,Bool.and_eq_true] at h;simp only[List.cons_append,lz,Bool.and_eq_true];exact⟨h.1,aiW h.2 h1 G au bv⟩
open Go.Proofs.Tryz
theorem aPm (l:List Int)(hl:mW l)(az:Int)(h0:0≤az)(h1:az≤l.length):aO prog 60 [.bd 0 1 0 0,.bool true] [gp l az]
 (fun v rs=> ∃ (a:Int) (z:gK),v= .agg (aJ.J z)∧rs= [gp l a]∧0≤a∧a≤l.length∧z.iA.length≤4):=by
 refine hJ func60 acM (by simp[yA,A9]) ?_;simp only[go_sem,yA,A9,gp]
 (refine E.ac ?_;simp only[go_sem])
 (refine lN (hi l hl 4 (by omega)) ?_;rintro _ az _ _ ⟨F2,rfl,_,_⟩;simp only[go_sem])
 (refine ja [0,5,15,120] (ys l hl _ (by simp) (by simp)) ?_;rintro _ az _ _ ⟨F3,cg,rfl⟩;simp only[fR] at cg;simp only[go_sem])
 have qC:0≤F3∧F3≤120:=by omega
 clear cg
 (refine E.ac ?_;simp only[go_sem])
 (refine E.ac ?_;simp only[go_sem])
 refine arL (E 1 fun D r=> ∃ (a g:Int),bs D 0= .bd 0 1 0 0∧bs D 1= .bool true∧bs D 4= .bd 1 1 0 0∧bs D 5= .bd 2 1 0 0∧r= [dX 143 l a,.ag 35 4 [[.int .i64 0,.int .i64 0,.int .i64 0,.bH]],.ag 35 4 [[.int .i64 g,.int .i64 F2,.int .i64 F3,.bH]]]∧0≤a∧a≤l.length∧(F2=0∧g=0∨F2≠0∧1≤g∧g≤60)) ?_ ?_ ?_
 ·intro ct;simp only[bC] at ct;simp only[go_sem,yA,A9]
  (refine ja [15,5,1,60,7] (ys l hl _ (by simp) (by simp)) ?_;rintro _ az _ _ ⟨g,cg,rfl⟩;simp only[fR] at cg;simp only[go_sem])
  have aw:1≤g∧g≤60:=by omega
  clear cg
  (refine E.bB [some 0,some 1,some 3] ?_;simp only[go_sem])
  exact E.ac ⟨az,g,rfl,rfl,rfl,rfl,rfl,by omega,by omega,.inr ⟨ct,aw⟩⟩
 ·intro ct;simp only[bC] at ct;simp only[go_sem,yA,A9]
  (refine E.bB [some 0,some 1,some 3] ?_;simp only[go_sem])
  exact E.ac ⟨az,0,rfl,rfl,rfl,rfl,rfl,by omega,by omega,.inl ⟨by omega,rfl⟩⟩
 ·intro e z h;refine E.mono ?_ h;rintro D r ⟨az,g,Us,xu,xb,Dd,rfl,_,_,aw⟩;simp only[go_sem,yA,A9,Us,xu,xb,Dd];have yn:gK.qh ⟨g,F2,F3,[]⟩:=by unfold gK.qh;simp only;omega
  (refine ja [0,120,360] (ys l hl _ (by simp) (by simp)) ?_;rintro _ az _ _ ⟨aG,cg,rfl⟩;simp only[fR] at cg;simp only[go_sem])
  have aKq:0≤aG∧aG≤360:=by omega
  clear cg;simp only[Us,xu,xb,Dd]
  (refine ja [15,30,1] (ys l hl _ (by simp) (by simp)) ?_;rintro _ az _ _ ⟨vA,cg,rfl⟩;simp only[fR] at cg;simp only[go_sem])
  have aKr:1≤vA∧vA≤30:=by omega
  clear cg;refine E.ac ?_;simp only[go_sem,Us,xu,xb,Dd]
  (refine lN (hi l hl 4 (by omega)) ?_;rintro _ az _ _ ⟨J,rfl,_,_⟩;simp only[go_sem])
  (refine E.ac ?_;simp only[go_sem])
  refine hv (fun D r=> ∃ (a:Int) (dl:List lR) (c aG vA:Int),D= [(0,.bd 0 1 0 0),(1,.bool true),(4,.bd 1 1 0 0),(5,.bd 2 1 0 0),(6,.int .i64 aG),(7,.int .i64 vA),(8,.int .i64 c)]∧
   r= [dX 143 l a,.ag 35 4 [[.int .i64 0,.int .i64 0,.int .i64 0,.bH]],.ag 35 4 [[.int .i64 g,.int .i64 F2,.int .i64 F3,.own 3 dl.length 0 dl.length]],.ag 261 2 (ai dl)]∧0≤a∧a≤l.length∧0≤c∧dl.length+c≤3∧lz (-1) 0 dl=true∧Db (-1) dl < aG∧Dc 0 dl < vA∧aG+180*c≤900∧vA+15*c≤75∧0≤aG∧0≤vA)
   (fun D _=>match bs D 8 with| .int _ j=>j.toNat|_=>0) ?_ ?_
  ·(refine E.bB [some 0,some 1,some 2] ?_;simp only[go_sem])
   (refine E.oc (.vQ 2 0 3 261 2 rfl (by simp) (by decide) rfl) ?_;simp only[go_sem,fb])
   exact E.ac ⟨az,[],J,aG,vA,rfl,rfl,by omega,by omega,by omega,by simp;omega,rfl,by simp[Db];omega,by simp[Dc];omega,by omega,by omega,by omega,by omega⟩
  ·rintro D r ⟨az,dl,c,aG,vA,rfl,rfl,_,_,_,_,Lq,abW,Ut,_,_,_,_⟩;simp only[go_sem,yA,A9]
   (refine E.ac ?_;simp only[go_sem])
   refine dj ?_ ?_<;>intro fH<;>simp only[bC] at fH<;>simp only[go_sem,yA,A9]
   ·(refine E.ac ?_;simp only[go_sem])
    refine⟨by omega,?_⟩
    (refine E.ac ?_;simp only[go_sem])
    (refine ja [60,180,1] (ys l hl _ (by simp) (by simp)) ?_;rintro _ az _ _ ⟨x,cg,rfl⟩;simp only[fR] at cg;simp only[go_sem])
    have aj:1≤x∧x≤180:=by omega
    clear cg;rw[bl (by omega) (by omega)]
    (refine ja [15,1] (ys l hl _ (by simp) (by simp)) ?_;rintro _ az _ _ ⟨d,cg,rfl⟩;simp only[fR] at cg;simp only[go_sem])
    have bt:1≤d∧d≤15:=by omega
    clear cg;rw[bl (by omega) (by omega)]
    (refine E.ac ?_;simp only[go_sem])
    rw[bl (by omega) (by omega)]
    (refine E.bB [some 0,some 1,some 2,some 3] ?_;simp only[go_sem])
    refine E.ac ⟨⟨az,dl++ [⟨aG,vA⟩],c-1,aG+x,vA+d,by simp,(by first| (simp;done)| (rw[←kT,List.length_append];rfl)),by omega,by omega,by omega,by simp;omega,aiW Lq abW (by simp only;omega) Ut (by simp only;omega),by rw[aiU];simp only;omega,by rw[aiV];simp only;omega,by omega,by omega,by omega,by omega⟩,?_⟩;simp only[go_sem];omega
   ·have nK:dl.length≤3:=by omega
    (refine E.ac ?_;simp only[go_sem])
    (refine lN (hi l hl 6 (by omega)) ?_;rintro _ az _ _ ⟨w,rfl,_,_⟩;simp only[go_sem])
    (refine E.ac ?_;simp only[go_sem])
    refine arL (E 1 fun D r=> ∃ (a g F2 F3:Int) (dl:List lR),bs D 4= .bd 1 1 0 0∧bs D 5= .bd 2 1 0 0∧r= [dX 143 l a,.ag 35 4 [[.int .i64 0,.int .i64 0,.int .i64 0,.bH]],.ag 35 4 [[.int .i64 g,.int .i64 F2,.int .i64 F3,.own 3 dl.length 0 dl.length]],.ag 261 2 (ai dl)]∧0≤a∧a≤l.length∧dl.length≤4) ?_ ?_ ?_
    ·intro pd;simp only[go_sem,yA,A9]
     (refine lN (hi l hl 4 (by omega)) ?_;rintro _ az _ _ ⟨J,rfl,_,_⟩;simp only[go_sem])
     (refine E.ac ?_;simp only[go_sem])
     (refine E.ac ?_;simp only[go_sem])
     refine dj ?_ ?_<;>intro nW<;>simp only[bC] at nW<;>simp only[go_sem,yA,A9]
     ·(refine ja [0,61,-1] (ys l hl _ (by simp) (by simp)) ?_;rintro _ az _ _ ⟨x,cg,rfl⟩;simp only[fR] at cg;simp only[go_sem])
      clear cg
      (refine E.bB [some 0,some 1,some 2,some 3] ?_;simp only[go_sem])
      exact E.ac ⟨az,x,F2,F3,dl,rfl,rfl,rfl,by omega,by omega,by omega⟩
     ·(refine E.ac ?_;simp only[go_sem])
      refine dj ?_ ?_<;>intro aMn<;>simp only[bC] at aMn<;>simp only[go_sem,yA,A9]
      ·(refine ja [121,-1] (ys l hl _ (by simp) (by simp)) ?_;rintro _ az _ _ ⟨x,cg,rfl⟩;simp only[fR] at cg;simp only[go_sem])
       clear cg
       (refine E.bB [some 0,some 1,some 2,some 3] ?_;simp only[go_sem])
       exact E.ac ⟨az,g,F2,x,dl,rfl,rfl,rfl,by omega,by omega,by omega⟩
      ·(refine E.ac ?_;simp only[go_sem])
       refine dj ?_ ?_<;>intro aPT<;>simp only[bC] at aPT<;>simp only[go_sem,yA,A9]
       ·(refine ja [4,-1] (ys l hl _ (by simp) (by simp)) ?_;rintro _ az _ _ ⟨x,cg,rfl⟩;simp only[fR] at cg;simp only[go_sem])
        clear cg
        (refine E.bB [some 0,some 1,some 2,some 3] ?_;simp only[go_sem])
        exact E.ac ⟨az,g,x,F3,dl,rfl,rfl,rfl,by omega,by omega,by omega⟩
       ·(refine xW (hi l hl 100 (by omega)) ?_;rintro _ az _ _ ⟨x,rfl,_,_⟩;simp only[go_sem])
        (refine xW (hi l hl 20 (by omega)) ?_;rintro _ az _ _ ⟨d,rfl,_,_⟩;simp only[go_sem])
        refine⟨by omega,?_⟩
        (refine E.bB [some 0,some 1,some 2,some 3] ?_;simp only[go_sem])
        exact E.ac ⟨az,g,F2,F3,dl++ [⟨x,d⟩],rfl,rfl,(by first| (simp;done)| (rw[←kT,List.length_append];rfl)),by omega,by omega,by simp;omega⟩
    ·intro pd;simp only[go_sem,yA,A9];exact E.ac ⟨az,g,F2,F3,dl,rfl,rfl,rfl,by omega,by omega,by omega⟩
    ·intro e z h;refine E.mono ?_ h;rintro D r ⟨az,g,F2,F3,dl,xb,Dd,rfl,_,_,ZG⟩;simp only[go_sem,xb,Dd]
     (refine E.kK [some 0,some 1,some 2] [3] ?_;simp only[go_sem])
     repeat (refine E.ac ?_;simp only[go_sem])
     (refine E.bB [some 0] ?_;simp only[go_sem])
     exact E.ac ⟨az,⟨g,F2,F3,dl⟩,rfl,rfl,by omega,by omega,ZG⟩
end Go.Proofs.YtpincjkjoeopkaaGreatDoor.Pr
namespace Go.Proofs.YtpincjkjoeopkaaGreatDoor.Ib
open Go Go.Abs
def Nl:ByteArray:=⟨#[110,111,114,109,97,108]⟩
open Go.Proofs.Tryz
theorem aPn (l:List Int)(hl:mW l)(az:Int)(h0:0≤az)(h1:az≤l.length):aO prog 61 [.bd 0 1 0 0,.bool true] [gp l az]
 (fun v rs=> ∃ (a:Int) (aF:ib),v=aF.v∧rs= [gp l a]∧0≤a∧a≤l.length∧aF.eN.length≤3∧aF.gL.length≤3):=by
 refine hJ func61 acN (by simp[AB,CV]) ?_;simp only[go_sem,AB,CV,gp]
 repeat (refine E.ac ?_;simp only[go_sem])
 (refine ja [0,60,480,120] (ys l hl _ (by simp) (by simp)) ?_;rintro _ az _ _ ⟨x,cg,rfl⟩;simp only[fR] at cg;simp only[go_sem])
 have aj:0≤x∧x≤480:=by omega
 clear cg
 repeat (refine E.ac ?_;simp only[go_sem])
 (refine lN (hi l hl 3 (by omega)) ?_;rintro _ az _ _ ⟨k,rfl,_,_⟩;simp only[go_sem])
 (refine E.ac ?_;simp only[go_sem])
 refine hv (fun D r=> ∃ (a:Int) (eN:List kr) (j t:Int),D= [(0,.bd 0 1 0 0),(1,.bool true),(4,.bd 1 1 0 0),(5,.bd 2 1 0 0),(6,.int .i64 t),(7,.int .i64 j)]∧
  r= [dX 143 l a,.ag 38 3 [[.str ⟨#[]⟩,.bH,.bH]],.ag 38 3 [[.str Nl,.own 3 eN.length 0 eN.length,.bH]],.ag 128 2 (ai eN)]∧0≤a∧a≤l.length∧0≤j∧eN.length+j≤2∧0≤t∧t+120*j≤720)
  (fun D _=>match bs D 7 with| .int _ j=>j.toNat|_=>0) ?_ ?_
 ·(refine E.bB [some 0,some 1,some 2] ?_;simp only[go_sem])
  (refine E.oc (.vQ 2 0 1 128 2 rfl (by simp) (by decide) rfl) ?_;simp only[go_sem,fb])
  exact E.ac ⟨az,[],k,x,rfl,rfl,by omega,by omega,by omega,by simp;omega,by omega,by omega⟩
 ·rintro D r ⟨az,eN,j,t,rfl,rfl,_,_,_,_,zR,Lz⟩;simp only[go_sem,AB,CV]
  repeat (refine E.ac ?_;simp only[go_sem])
  refine dj ?_ ?_<;>intro aw<;>simp only[bC] at aw<;>simp only[go_sem,AB,CV]
  ·(refine E.ac ?_;simp only[go_sem])
   (refine xW (hi l hl 3 (by omega)) ?_;rintro _ az _ _ ⟨M,rfl,_,_⟩;simp only[go_sem])
   rcases (show M=0∨M=1∨M=2 by omega) with rfl|rfl|rfl
   all_goals
    simp only[go_sem,agC];refine⟨by omega,?_⟩
    repeat (refine E.ac ?_;simp only[go_sem])
    (refine ja [60,1,120] (ys l hl _ (by simp) (by simp)) ?_;rintro _ az _ _ ⟨d,cg,rfl⟩;simp only[fR] at cg;simp only[go_sem])
    have bt:1≤d∧d≤120:=by omega
    clear cg;rw[bl (x:=t+d) (by omega) (by omega)]
    (refine E.ac ?_;simp only[go_sem])
    rw[bl (x:=j-1) (by omega) (by omega)]
    (refine E.bB [some 0,some 1,some 2,some 3] ?_;simp only[go_sem])
    refine E.ac ⟨⟨az,eN++ [⟨_,t⟩],j-1,t+d,rfl,(by rw[List.length_append];rfl),by omega,by omega,by omega,(by rw[List.length_append,List.length_singleton];omega),by omega,by omega⟩,?_⟩;simp only[go_sem];omega
  (refine E.ac ?_;simp only[go_sem])
  (refine ja [100,480,0,2400] (ys l hl _ (by simp) (by simp)) ?_;rintro _ az _ _ ⟨S1,cg,rfl⟩;simp only[fR] at cg;simp only[go_sem])
  have Rx:0≤S1∧S1≤2400:=by omega
  clear cg
  repeat (refine E.ac ?_;simp only[go_sem])
  (refine lN (hi l hl 3 (by omega)) ?_;rintro _ az _ _ ⟨cd,rfl,_,_⟩;simp only[go_sem])
  (refine E.ac ?_;simp only[go_sem])
  have MA:eN.length≤2:=by omega
  clear zR Lz;refine hv (fun D r=> ∃ (a:Int) (gL:List kr) (j t:Int),D= [(0,.bd 0 1 0 0),(1,.bool true),(4,.bd 1 1 0 0),(5,.bd 2 1 0 0),(6,.int .i64 t),(8,.int .i64 j)]∧
   r= [dX 143 l a,.ag 38 3 [[.str ⟨#[]⟩,.bH,.bH]],.ag 38 3 [[.str Nl,.own 3 eN.length 0 eN.length,.own 4 gL.length 0 gL.length]],.ag 128 2 (ai eN),.ag 128 2 (ai gL)]∧0≤a∧a≤l.length∧0≤j∧gL.length+j≤2∧0≤t∧t+600*j≤3600)
   (fun D _=>match bs D 8 with| .int _ j=>j.toNat|_=>0) ?_ ?_
  ·(refine E.bB [some 0,some 1,some 2,some 3] ?_;simp only[go_sem])
   (refine E.oc (.vQ 2 0 2 128 2 rfl (by simp) (by decide) rfl) ?_;simp only[go_sem,fb])
   exact E.ac ⟨az,[],cd,S1,rfl,rfl,by omega,by omega,by omega,by simp;omega,by omega,by omega⟩
  rintro D r ⟨az,gL,j,t,rfl,rfl,_,_,_,_,zR,Lz⟩;simp only[go_sem,AB,CV]
  repeat (refine E.ac ?_;simp only[go_sem])
  refine dj ?_ ?_<;>intro aw<;>simp only[bC] at aw<;>simp only[go_sem,AB,CV]
  ·(refine E.ac ?_;simp only[go_sem])
   (refine xW (hi l hl 3 (by omega)) ?_;rintro _ az _ _ ⟨M,rfl,_,_⟩;simp only[go_sem])
   rcases (show M=0∨M=1∨M=2 by omega) with rfl|rfl|rfl
   all_goals
    simp only[go_sem,agC];refine⟨by omega,?_⟩
    repeat (refine E.ac ?_;simp only[go_sem])
    (refine ja [60,1,600] (ys l hl _ (by simp) (by simp)) ?_;rintro _ az _ _ ⟨d,cg,rfl⟩;simp only[fR] at cg;simp only[go_sem])
    have bt:1≤d∧d≤600:=by omega
    clear cg;rw[bl (x:=t+d) (by omega) (by omega)]
    (refine E.ac ?_;simp only[go_sem])
    rw[bl (x:=j-1) (by omega) (by omega)]
    (refine E.bB [some 0,some 1,some 2,some 3,some 4] ?_;simp only[go_sem])
    refine E.ac ⟨⟨az,gL++ [⟨_,t⟩],j-1,t+d,rfl,(by rw[List.length_append];rfl),by omega,by omega,by omega,(by rw[List.length_append,List.length_singleton];omega),by omega,by omega⟩,?_⟩;simp only[go_sem];omega
  (refine E.ac ?_;simp only[go_sem])
  have sF:gL.length≤2:=by omega
  clear zR Lz
  (refine lN (hi l hl 6 (by omega)) ?_;rintro _ az _ _ ⟨w,rfl,_,_⟩;simp only[go_sem])
  (refine E.ac ?_;simp only[go_sem])
  refine arL (E 1 fun D r=> ∃ (a:Int) (ef:ByteArray) (eN gL:List kr),bs D 4= .bd 1 1 0 0∧bs D 5= .bd 2 1 0 0∧r= [dX 143 l a,.ag 38 3 [[.str ⟨#[]⟩,.bH,.bH]],.ag 38 3 [[.str ef,.own 3 eN.length 0 eN.length,.own 4 gL.length 0 gL.length]],.ag 128 2 (ai eN),.ag 128 2 (ai gL)]∧0≤a∧a≤l.length∧eN.length≤3∧gL.length≤3) ?_ ?_ ?_
  ·intro pd;simp only[go_sem,AB,CV]
   (refine lN (hi l hl 3 (by omega)) ?_;rintro _ az _ _ ⟨J,rfl,_,_⟩;simp only[go_sem])
   (refine E.ac ?_;simp only[go_sem])
   (refine E.ac ?_;simp only[go_sem])
   refine dj ?_ ?_<;>intro nW<;>simp only[bC] at nW<;>simp only[go_sem,AB,CV]
   ·(refine lN (hi l hl 4 (by omega)) ?_;rintro _ az _ _ ⟨M,rfl,_,_⟩;simp only[go_sem])
    rcases (show M=0∨M=1∨M=2∨M=3 by omega) with rfl|rfl|rfl|rfl
    all_goals
     simp only[go_sem]
     (refine E.bB [some 0,some 1,some 2,some 3,some 4] ?_;simp only[go_sem])
     exact E.ac ⟨az,_,eN,gL,rfl,rfl,rfl,by omega,by omega,by omega,by omega⟩
   ·(refine E.ac ?_;simp only[go_sem])
    refine dj ?_ ?_<;>intro aMn<;>simp only[bC] at aMn<;>simp only[go_sem,AB,CV]
    ·(refine G4 [-1,0,10081] (ys l hl _ (by simp) (by simp)) ?_;rintro _ az _ _ ⟨x,cg,rfl⟩;simp only[fR] at cg;simp only[go_sem])
     clear cg;rw[agC];refine⟨by omega,?_⟩
     (refine E.bB [some 0,some 1,some 2,some 3,some 4] ?_;simp only[go_sem])
     exact E.ac ⟨az,_,eN++ [⟨_,x⟩],gL,rfl,rfl,by rw[List.length_append];rfl,by omega,by omega,by simp;omega,by omega⟩
    ·rw[agC];refine⟨by omega,?_⟩
     (refine E.bB [some 0,some 1,some 2,some 3,some 4] ?_;simp only[go_sem])
     exact E.ac ⟨az,_,eN,gL++ [⟨_,10000⟩],rfl,rfl,by rw[List.length_append];rfl,by omega,by omega,by omega,by simp;omega⟩
  ·intro pd;simp only[go_sem,AB,CV];exact E.ac ⟨az,Nl,eN,gL,rfl,rfl,rfl,by omega,by omega,by omega,by omega⟩
  ·intro e z h;refine E.mono ?_ h;rintro D r ⟨az,ef,eN,gL,xb,Dd,rfl,_,_,_,_⟩;simp only[go_sem,xb,Dd]
   (refine E.kK [some 0,some 1,some 2] [3,4] ?_;simp only[go_sem])
   repeat (refine E.ac ?_;simp only[go_sem])
   (refine E.bB [some 0] ?_;simp only[go_sem])
   exact E.ac ⟨az,⟨ef,eN,gL⟩,rfl,rfl,by omega,by omega,by assumption,by assumption⟩
end Go.Proofs.YtpincjkjoeopkaaGreatDoor.Ib
