/- Events and bands. -/
import Derived.Test.YtpincjkjoeopkaaGreatDoorW15
import Derived.Test.YtpincjkjoeopkaaGreatDoorW17
import Derived.Test.YtpincjkjoeopkaaGreatDoorW5
import Derived.Test.YtpincjkjoeopkaaGreatDoorW8
set_option linter.all false
namespace Go.Proofs.YtpincjkjoeopkaaGreatDoor.Ib
open Go Go.Abs Go.Proofs.Tryz
def gp (l:List Int)(a:Int):Z:=dX 143 l a
theorem ED (v n:Int)(aH:0 < n)(GS:n≤9223372036854775807):aO prog 10 [.int .i64 v,.int .i64 n] [] (fun z r=>z= .int .i64 (mod v n)∧r= []):=by
 refine cu func10 Ls (by simp[uW,sn]) ?_;simp only[go_sem,uW,sn];refine⟨by omega,?_⟩;have h1:=Int.tmod_lt_of_pos v aH;refine cf ?_ ?_<;>intro aw<;>simp only[go_sem,uW,sn]<;>refine E.bg rfl ⟨?_,rfl⟩<;>simp only[decide_eq_true_eq,decide_eq_false_iff_not] at aw
 ·have G: -n < v.tmod n:=by
   have:=Int.lt_tmod_of_pos v aH;omega
  rw[bl (by omega) (by omega),mod,if_pos aw]
 ·rw[mod,if_neg aw]
theorem hi (l:List Int)(hl:mW l)(n:Int)(aH:n≤9223372036854775807):BU prog 143 64 [.int .i64 n] l (PR n):=by
 intro az h0 h1;refine cu func64 Lu (by simp[uX,wu]) ?_;simp only[go_sem,uX,wu,dX];have cK:=hl.len
 repeat' ((first|refine gv ?_ ?_|refine gw ?_ ?_|refine cf ?_ ?_|refine dj ?_ ?_)<;>intro aw<;>(have ak:=aw;try simp only[bC] at ak)<;>(first|omega| (simp only[go_sem,aw,uX,wu];clear aw)))
 ·exact E.tape rfl h0 h1 ⟨0,rfl,by omega,by omega⟩
 ·exact E.tape rfl h0 h1 ⟨0,rfl,by omega,by omega⟩
 ·simp (disch:=omega) only[bl,tw,Int.add_sub_cancel];refine⟨by omega,by omega,by simp,?_⟩;simp only[go_sem];refine gG (ED _ _ (by omega) aH) rfl rfl ?_;simp only[go_sem];have af:=PS (v:=l.getD az.toNat 0) (n:=n) (by omega);exact E.tape rfl (by omega) (by omega) ⟨_,rfl,by omega,by omega⟩
theorem ys (l:List Int)(hl:mW l)(aq:List Int)(aj:0 < aq.length)(rY:aq.length≤1000):BV prog 143 3 59 l aq (fun v=> ∃ x,x∈aq∧v= .int .i64 x):=by
 intro az h0 h1;refine cu func59 Lv (by simp[zP,Cg]) ?_;simp only[go_sem,zP,Cg];refine KP (hi l hl _ (by omega)) rfl (by simp) h0 h1 ?_;rintro v a G au ⟨x,rfl,bv,cx⟩;simp only[go_sem];refine⟨by omega,by omega,?_⟩;rw[tw (by omega)];simp only[go_sem];refine E.ac ⟨a,rfl,G,au,rfl,_,?_,rfl⟩;rw[List.getD_eq_getElem?_getD,List.getElem?_eq_getElem (by omega)];simp
theorem aNA (l:List Int)(hl:mW l):BU prog 143 175 [] l (fun v=> ∃ t I:Int,v= .agg [.int .i64 t,.int .i64 I]∧0≤t∧t≤1∧0≤I∧I≤8):=by
 intro az h0 h1;refine cu func175 aA2 (by simp[aew,aHf]) ?_;simp only[go_sem,aew,aHf]
 (refine lN (hi l hl 2 (by omega)) ?_;rintro _ az _ _ ⟨x,rfl,_,_⟩;simp only[go_sem])
 (refine lN (hi l hl 9 (by omega)) ?_;rintro _ az _ _ ⟨d,rfl,_,_⟩;simp only[go_sem])
 exact E.tape rfl (by omega) (by omega) ⟨x,d,rfl,by omega,by omega,by omega,by omega⟩
theorem aji (l:List Int)(hl:mW l):BU prog 143 176 [] l (fun v=> ∃ t:Int,v= .int .i64 t∧29453760≤t∧t≤29470000):=by
 intro az h0 h1;refine cu func176 aA3 (by simp[aex,aHF]) ?_;simp only[go_sem,aex,aHF]
 (refine lN (hi l hl 10 (by omega)) ?_;rintro _ az _ _ ⟨x,rfl,_,_⟩;simp only[go_sem])
 (refine lN (hi l hl 97 (by omega)) ?_;rintro _ az _ _ ⟨d,rfl,_,_⟩;simp only[go_sem])
 (refine lN (hi l hl 8 (by omega)) ?_;rintro _ az _ _ ⟨M,rfl,_,_⟩;simp only[go_sem])
 have ba:M.tdiv 6=0∨M.tdiv 6=1:=by
  rw[Int.tdiv_eq_ediv_of_nonneg (by omega)];omega
 have Yw:IntKind.i64.wrap (M.tdiv 6)=M.tdiv 6:=bl (by omega) (by omega);refine⟨by decide,?_⟩;rw[Yw,bl (x:=x*1440) (by omega) (by omega),bl (x:=29453760+x*1440) (by omega) (by omega),bl (x:=d*15) (by omega) (by omega),bl (x:=29453760+x*1440+d*15) (by omega) (by omega),bl (by omega) (by omega)];exact E.tape rfl (by omega) (by omega) ⟨_,rfl,by omega,by omega⟩
structure Stamp where
 time:Int
 cB:Int
 cZ:Int
 Y:Int
def Stamp.cells (e:Stamp):List F:= [.int .i64 e.time,.int .i64 e.cB,.int .i64 e.cZ,.int .i64 e.Y]
instance:aJ Stamp:=⟨Stamp.cells,4,fun _=>rfl,fun _=>rfl,fun _=>rfl⟩
theorem Nn (e:Stamp):aJ.J e= [.int .i64 e.time,.int .i64 e.cB,.int .i64 e.cZ,.int .i64 e.Y]:=rfl
theorem Tm:aJ.U Stamp=4:=rfl
theorem Tn (e:Stamp):List.take 4 (aJ.J e)=aJ.J e:=rfl
attribute [go_sem] Tm Tn
structure Ev where
 cZ:Int
 Y:Int
 bk:Int
 time:Int
 cB:Int
 iq:Int
 eg:Int
def Ev.cells (e:Ev):List F:= [.int .i64 e.cZ,.int .i64 e.Y,.int .i64 e.bk,.int .i64 e.time,.int .i64 e.cB,.int .i64 e.iq,.int .i64 e.eg]
instance:aJ Ev:=⟨Ev.cells,7,fun _=>rfl,fun _=>rfl,fun _=>rfl⟩
theorem rJ (e:Ev):aJ.J e= [.int .i64 e.cZ,.int .i64 e.Y,.int .i64 e.bk,.int .i64 e.time,.int .i64 e.cB,.int .i64 e.iq,.int .i64 e.eg]:=rfl
theorem To:aJ.U Ev=7:=rfl
theorem Tp (e:Ev):List.take 7 (aJ.J e)=aJ.J e:=rfl
attribute [go_sem] To Tp
theorem Ev.ext' {a b:Ev}(h0:a.cZ=b.cZ)(h1:a.Y=b.Y)(G:a.bk=b.bk)(au:a.time=b.time)(bv:a.cB=b.cB)(cx:a.iq=b.iq)(dx:a.eg=b.eg):a=b:=by
 cases a;cases b;simp_all
structure Ky where
 t:Int
 I:Int
def Ky.cells (e:Ky):List F:= [.int .i64 e.t,.int .i64 e.I]
instance:aJ Ky:=⟨Ky.cells,2,fun _=>rfl,fun _=>rfl,fun _=>rfl⟩
theorem aCy (e:Ky):aJ.J e= [.int .i64 e.t,.int .i64 e.I]:=rfl
theorem aCZ:aJ.U Ky=2:=rfl
theorem aC0 (e:Ky):List.take 2 (aJ.J e)=aJ.J e:=rfl
attribute [go_sem] aCZ aC0
theorem Ky.ext' {a b:Ky}(h0:a.t=b.t)(h1:a.I=b.I):a=b:=by
 cases a;cases b;simp_all
theorem agV {l:List Stamp}{a b J B:Int}:ai l++ [[.int .i64 a,.int .i64 b,.int .i64 J,.int .i64 B]]=ai (l++ [⟨a,b,J,B⟩]):=kT (x:=Stamp.mk a b J B)
theorem Tc {l:List Ev}{a b J B e f g:Int}:ai l++ [[.int .i64 a,.int .i64 b,.int .i64 J,.int .i64 B,.int .i64 e,.int .i64 f,.int .i64 g]]=ai (l++ [⟨a,b,J,B,e,f,g⟩]):=kT (x:=Ev.mk a b J B e f g)
structure kr where
 name:ByteArray
 after:Int
def kr.cells (w:kr):List F:= [.str w.name,.int .i64 w.after]
instance:aJ kr:=⟨kr.cells,2,fun _=>rfl,fun _=>rfl,fun _=>rfl⟩
theorem Nu (w:kr):aJ.J w= [.str w.name,.int .i64 w.after]:=rfl
theorem aC8:aJ.U kr=2:=rfl
theorem aC9 (w:kr):List.take 2 (aJ.J w)=aJ.J w:=rfl
attribute [go_sem] aC8 aC9
theorem agC {l:List kr}{a:ByteArray}{b:Int}:ai l++ [[.str a,.int .i64 b]]=ai (l++ [⟨a,b⟩]):=kT (x:=kr.mk a b)
def aDe:Go.Shelf.Ren:=
 {f:=fun x=>match x with|6=>146|15=>158|14=>221|28=>241|29=>242|20=>276|21=>277|22=>278|23=>279|24=>280|25=>281|26=>282|27=>283|46=>339|47=>290|48=>291|49=>340|50=>341|57=>362|n=>n,
  t:=fun x=>match x with|22=>80|24=>177|25=>271|3=>3|39=>284|0=>0|53=>347|55=>349|4=>4|46=>341|45=>340|50=>206|5=>5|9=>9|66=>376|70=>380|76=>412|77=>308|n=>n,
  g:=fun n=>n}
set_option maxRecDepth 100000 in
theorem aCm:SlLaysF0.n6 prog aDe where
 mixed:=by kernel_rfl
 f6:=⟨"slices.SortFunc[[]payroll/api.Stamp,payroll/api.Stamp]",by decide,Eq.trans func146 (congrArg some (by kernel_rfl))⟩
 f14:=⟨"slices.pdqsortCmpFunc[payroll/api.Stamp]",by decide,Eq.trans func221 (congrArg some (by kernel_rfl))⟩
 f15:=Eq.trans func158 (congrArg some (by kernel_rfl))
 f20:=⟨"slices.insertionSortCmpFunc[payroll/api.Stamp]",by decide,Eq.trans func276 (congrArg some (by kernel_rfl))⟩
 f21:=⟨"slices.heapSortCmpFunc[payroll/api.Stamp]",by decide,Eq.trans func277 (congrArg some (by kernel_rfl))⟩
 f22:=⟨"slices.breakPatternsCmpFunc[payroll/api.Stamp]",by decide,Eq.trans func278 (congrArg some (by kernel_rfl))⟩
 f23:=⟨"slices.choosePivotCmpFunc[payroll/api.Stamp]",by decide,Eq.trans func279 (congrArg some (by kernel_rfl))⟩
 f24:=⟨"slices.reverseRangeCmpFunc[payroll/api.Stamp]",by decide,Eq.trans func280 (congrArg some (by kernel_rfl))⟩
 f25:=⟨"slices.partialInsertionSortCmpFunc[payroll/api.Stamp]",by decide,Eq.trans func281 (congrArg some (by kernel_rfl))⟩
 f26:=⟨"slices.partitionEqualCmpFunc[payroll/api.Stamp]",by decide,Eq.trans func282 (congrArg some (by kernel_rfl))⟩
 f27:=⟨"slices.partitionCmpFunc[payroll/api.Stamp]",by decide,Eq.trans func283 (congrArg some (by kernel_rfl))⟩
 f28:=Eq.trans func241 (congrArg some (by kernel_rfl))
 f29:=Eq.trans func242 (congrArg some (by kernel_rfl))
 f46:=⟨"slices.siftDownCmpFunc[payroll/api.Stamp]",by decide,Eq.trans func339 (congrArg some (by kernel_rfl))⟩
 f47:=Eq.trans func290 (congrArg some (by kernel_rfl))
 f48:=Eq.trans func291 (congrArg some (by kernel_rfl))
 f49:=⟨"slices.medianAdjacentCmpFunc[payroll/api.Stamp]",by decide,Eq.trans func340 (congrArg some (by kernel_rfl))⟩
 f50:=⟨"slices.medianCmpFunc[payroll/api.Stamp]",by decide,Eq.trans func341 (congrArg some (by kernel_rfl))⟩
 f57:=⟨"slices.order2CmpFunc[payroll/api.Stamp]",by decide,Eq.trans func362 (congrArg some (by kernel_rfl))⟩
 t0:=underlying0
 a0:=isAgg0
 z0:=sizeOf0
 v0:=zeroValue0
 t3:=underlying3
 a3:=isAgg3
 z3:=sizeOf3
 v3:=zeroValue3
 t4:=underlying4
 a4:=isAgg4
 z4:=sizeOf4
 v4:=zeroValue4
 t5:=underlying5
 a5:=isAgg5
 z5:=sizeOf5
 v5:=zeroValue5
 t9:=underlying9
 a9:=isAgg9
 z9:=sizeOf9
 v9:=zeroValue9
 t22:=underlying80
 a22:=isAgg80
 z22:=sizeOf80
 v22:=zeroValue80
 t25:=underlying271
 a25:=isAgg271
 z25:=sizeOf271
 v25:=zeroValue271
 t39:=underlying284
 a39:=isAgg284
 z39:=sizeOf284
 v39:=zeroValue284
 t45:=underlying340
 a45:=isAgg340
 z45:=sizeOf340
 v45:=zeroValue340
 t46:=underlying341
 a46:=isAgg341
 z46:=sizeOf341
 v46:=zeroValue341
 t50:=underlying206
 a50:=isAgg206
 z50:=sizeOf206
 v50:=zeroValue206
 t53:=underlying347
 a53:=isAgg347
 z53:=sizeOf347
 v53:=zeroValue347
 t55:=underlying349
 a55:=isAgg349
 z55:=sizeOf349
 v55:=zeroValue349
 t66:=underlying376
 a66:=isAgg376
 z66:=sizeOf376
 v66:=zeroValue376
 t70:=underlying380
 a70:=isAgg380
 z70:=sizeOf380
 v70:=zeroValue380
 t76:=underlying412
 a76:=isAgg412
 z76:=sizeOf412
 v76:=zeroValue412
 t77:=underlying308
 a77:=isAgg308
 z77:=sizeOf308
 v77:=zeroValue308
def aDg:Go.Shelf.Ren:=
 {f:=fun x=>match x with|6=>178|15=>158|14=>248|28=>241|29=>242|20=>295|21=>296|22=>297|23=>298|24=>299|25=>300|26=>301|27=>302|46=>343|47=>290|48=>291|49=>344|50=>345|57=>363|n=>n,
  t:=fun x=>match x with|22=>53|24=>71|25=>294|3=>3|39=>284|0=>0|53=>347|55=>349|4=>4|46=>341|45=>340|50=>206|5=>5|9=>9|66=>376|70=>380|76=>412|77=>308|n=>n,
  g:=fun n=>n}
set_option maxRecDepth 100000 in
theorem aCk:SlLaysF0.n6 prog aDg where
 mixed:=by kernel_rfl
 f6:=⟨"slices.SortFunc[[]payroll/api.Event,payroll/api.Event]",by decide,Eq.trans func178 (congrArg some (by kernel_rfl))⟩
 f14:=⟨"slices.pdqsortCmpFunc[payroll/api.Event]",by decide,Eq.trans func248 (congrArg some (by kernel_rfl))⟩
 f15:=Eq.trans func158 (congrArg some (by kernel_rfl))
 f20:=⟨"slices.insertionSortCmpFunc[payroll/api.Event]",by decide,Eq.trans func295 (congrArg some (by kernel_rfl))⟩
 f21:=⟨"slices.heapSortCmpFunc[payroll/api.Event]",by decide,Eq.trans func296 (congrArg some (by kernel_rfl))⟩
 f22:=⟨"slices.breakPatternsCmpFunc[payroll/api.Event]",by decide,Eq.trans func297 (congrArg some (by kernel_rfl))⟩
 f23:=⟨"slices.choosePivotCmpFunc[payroll/api.Event]",by decide,Eq.trans func298 (congrArg some (by kernel_rfl))⟩
 f24:=⟨"slices.reverseRangeCmpFunc[payroll/api.Event]",by decide,Eq.trans func299 (congrArg some (by kernel_rfl))⟩
 f25:=⟨"slices.partialInsertionSortCmpFunc[payroll/api.Event]",by decide,Eq.trans func300 (congrArg some (by kernel_rfl))⟩
 f26:=⟨"slices.partitionEqualCmpFunc[payroll/api.Event]",by decide,Eq.trans func301 (congrArg some (by kernel_rfl))⟩
 f27:=⟨"slices.partitionCmpFunc[payroll/api.Event]",by decide,Eq.trans func302 (congrArg some (by kernel_rfl))⟩
 f28:=Eq.trans func241 (congrArg some (by kernel_rfl))
 f29:=Eq.trans func242 (congrArg some (by kernel_rfl))
 f46:=⟨"slices.siftDownCmpFunc[payroll/api.Event]",by decide,Eq.trans func343 (congrArg some (by kernel_rfl))⟩
 f47:=Eq.trans func290 (congrArg some (by kernel_rfl))
 f48:=Eq.trans func291 (congrArg some (by kernel_rfl))
 f49:=⟨"slices.medianAdjacentCmpFunc[payroll/api.Event]",by decide,Eq.trans func344 (congrArg some (by kernel_rfl))⟩
 f50:=⟨"slices.medianCmpFunc[payroll/api.Event]",by decide,Eq.trans func345 (congrArg some (by kernel_rfl))⟩
 f57:=⟨"slices.order2CmpFunc[payroll/api.Event]",by decide,Eq.trans func363 (congrArg some (by kernel_rfl))⟩
 t0:=underlying0
 a0:=isAgg0
 z0:=sizeOf0
 v0:=zeroValue0
 t3:=underlying3
 a3:=isAgg3
 z3:=sizeOf3
 v3:=zeroValue3
 t4:=underlying4
 a4:=isAgg4
 z4:=sizeOf4
 v4:=zeroValue4
 t5:=underlying5
 a5:=isAgg5
 z5:=sizeOf5
 v5:=zeroValue5
 t9:=underlying9
 a9:=isAgg9
 z9:=sizeOf9
 v9:=zeroValue9
 t22:=underlying53
 a22:=isAgg53
 z22:=sizeOf53
 v22:=zeroValue53
 t25:=underlying294
 a25:=isAgg294
 z25:=sizeOf294
 v25:=zeroValue294
 t39:=underlying284
 a39:=isAgg284
 z39:=sizeOf284
 v39:=zeroValue284
 t45:=underlying340
 a45:=isAgg340
 z45:=sizeOf340
 v45:=zeroValue340
 t46:=underlying341
 a46:=isAgg341
 z46:=sizeOf341
 v46:=zeroValue341
 t50:=underlying206
 a50:=isAgg206
 z50:=sizeOf206
 v50:=zeroValue206
 t53:=underlying347
 a53:=isAgg347
 z53:=sizeOf347
 v53:=zeroValue347
 t55:=underlying349
 a55:=isAgg349
 z55:=sizeOf349
 v55:=zeroValue349
 t66:=underlying376
 a66:=isAgg376
 z66:=sizeOf376
 v66:=zeroValue376
 t70:=underlying380
 a70:=isAgg380
 z70:=sizeOf380
 v70:=zeroValue380
 t76:=underlying412
 a76:=isAgg412
 z76:=sizeOf412
 v76:=zeroValue412
 t77:=underlying308
 a77:=isAgg308
 z77:=sizeOf308
 v77:=zeroValue308
end Go.Proofs.YtpincjkjoeopkaaGreatDoor.Ib
namespace Go.Proofs.YtpincjkjoeopkaaGreatDoor.Ib
open Go Go.Abs Go.Proofs.Tryz
open Go.Sort (SWO)
section
variable [iZ:dE]
def vp (a b:Ky):Int:=ow [gT a.t b.t,gT a.I b.I]
def IQ (a b:Ev):Int:=ow [vp ⟨a.cZ,a.Y⟩ ⟨b.cZ,b.Y⟩,gT a.bk b.bk,gT a.time b.time,gT a.cB b.cB,vp ⟨a.iq,a.eg⟩ ⟨b.iq,b.eg⟩]
def IR (a b:Stamp):Int:=ow [gT a.time b.time,vp ⟨a.cZ,a.Y⟩ ⟨b.cZ,b.Y⟩]
theorem S2 (a b:Ky):aO prog 148 [.agg [.int .i64 a.t,.int .i64 a.I],.agg [.int .i64 b.t,.int .i64 b.I]] [] (fun v rs=>v= .int .i64 (vp a b)∧rs= []):=by
 refine cu func148 aeb (by simp[M4,S3]) ?_;simp only[go_sem,M4,S3];refine gG (yw _ _) rfl rfl ?_;simp only[go_sem];refine gG (yw _ _) rfl rfl ?_;simp only[go_sem]
 (refine D4 [2] (Mm [gT a.t b.t,gT a.I b.I] (by simp)) ?_;rintro _ _ ⟨rfl,rfl⟩;simp only[go_sem])
 exact E.bg rfl ⟨rfl,rfl⟩
theorem aCd (a b:Ev):aO prog 179 [.agg (aJ.J a),.agg (aJ.J b)] [] (fun v rs=>v= .int .i64 (IQ a b)∧rs= []):=by
 refine cu func179 aeA (by simp[M7,S4]) ?_;simp only[go_sem,M7,S4,rJ];refine gG (S2 ⟨a.cZ,a.Y⟩ ⟨b.cZ,b.Y⟩) rfl rfl ?_;simp only[go_sem];refine gG (yw _ _) rfl rfl ?_;simp only[go_sem];refine gG (yw _ _) rfl rfl ?_;simp only[go_sem];refine gG (yw _ _) rfl rfl ?_;simp only[go_sem];refine gG (S2 ⟨a.iq,a.eg⟩ ⟨b.iq,b.eg⟩) rfl rfl ?_;simp only[go_sem]
 (refine D4 [2] (Mm [vp ⟨a.cZ,a.Y⟩ ⟨b.cZ,b.Y⟩,gT a.bk b.bk,gT a.time b.time,gT a.cB b.cB,vp ⟨a.iq,a.eg⟩ ⟨b.iq,b.eg⟩] (by simp)) ?_;rintro _ _ ⟨rfl,rfl⟩;simp only[go_sem])
 exact E.bg rfl ⟨rfl,rfl⟩
theorem aCe (a b:Stamp):aO prog 147 [.agg (aJ.J a),.agg (aJ.J b)] [] (fun v rs=>v= .int .i64 (IR a b)∧rs= []):=by
 refine cu func147 aea (by simp[M3,S5]) ?_;simp only[go_sem,M3,S5,Nn];refine gG (yw _ _) rfl rfl ?_;simp only[go_sem];refine gG (S2 ⟨a.cZ,a.Y⟩ ⟨b.cZ,b.Y⟩) rfl rfl ?_;simp only[go_sem]
 (refine D4 [2] (Mm [gT a.time b.time,vp ⟨a.cZ,a.Y⟩ ⟨b.cZ,b.Y⟩] (by simp)) ?_;rintro _ _ ⟨rfl,rfl⟩;simp only[go_sem])
 exact E.bg rfl ⟨rfl,rfl⟩
end
theorem Am {a b:Int}:gT a b < 0↔a < b:=by
 unfold gT;split
 ·simp_all
 ·split<;>simp_all
theorem tQ {a b:Int}:gT a b=0↔a=b:=by
 unfold gT;split
 ·simp;omega
 ·split
  ·simp;omega
  ·simp;omega
theorem agD {a b:Ky}:vp a b < 0↔a.t < b.t∨(a.t=b.t∧a.I < b.I):=by
 unfold vp;simp only[ow]
 by_cases h:gT a.t b.t=0
 ·rw[if_pos h];have:=tQ.1 h
  by_cases G:gT a.I b.I=0
  ·rw[if_pos G];have:=tQ.1 G;omega
  ·rw[if_neg G,Am];omega
 ·rw[if_neg h,Am];have: ¬a.t=b.t:=fun e=>h (tQ.2 e);omega
theorem agE {a b:Ky}:vp a b=0↔a.t=b.t∧a.I=b.I:=by
 unfold vp;simp only[ow]
 by_cases h:gT a.t b.t=0
 ·rw[if_pos h];have:=tQ.1 h
  by_cases G:gT a.I b.I=0
  ·rw[if_pos G];have:=tQ.1 G;simp;omega
  ·rw[if_neg G];have: ¬a.I=b.I:=fun e=>G (tQ.2 e);simp only[G,false_iff];omega
 ·rw[if_neg h];have: ¬a.t=b.t:=fun e=>h (tQ.2 e);simp only[h,false_iff];omega
def pZ (a b:Ky):Prop:=a.t < b.t∨(a.t=b.t∧a.I < b.I)
def jy (a b:Ev):Prop:=a.cZ < b.cZ∨(a.cZ=b.cZ∧(a.Y < b.Y∨(a.Y=b.Y∧(a.bk < b.bk∨(a.bk=b.bk∧(a.time < b.time∨(a.time=b.time∧(a.cB < b.cB∨(a.cB=b.cB∧(a.iq < b.iq∨(a.iq=b.iq∧a.eg < b.eg)))))))))))
def ni (a b:Stamp):Prop:=a.time < b.time∨(a.time=b.time∧(a.cZ < b.cZ∨(a.cZ=b.cZ∧a.Y < b.Y)))
theorem agF:ow []=0:=rfl
theorem agG {x:Int}{aq:List Int}:ow (x::aq) < 0↔x < 0∨(x=0∧ow aq < 0):=by
 rw[ow];split<;>omega
theorem agH {a b:Ev}:IQ a b < 0↔jy a b:=by
 unfold IQ;simp only[agG,agD,agE,Am,tQ,agF,jy];omega
theorem agI {a b:Stamp}:IR a b < 0↔ni a b:=by
 unfold IR;simp only[agG,agD,agE,Am,tQ,agF,ni];omega
theorem ID {bj:Type}{tx:bj→bj→Int}{aF:bj→bj→Prop}(h: ∀ a b,tx a b < 0↔aF a b)(h1: ∀ a,¬aF a a)(G: ∀ a b J,aF a b→aF b J→aF a J)(au: ∀ a b J,¬aF a b→ ¬aF b J→ ¬aF a J):SWO (ltOf tx):=by
 refine⟨fun a=> ?_,fun a b J=> ?_,fun a b J=> ?_⟩
 ·simp only[ltOf,decide_eq_false_iff_not,h];exact h1 a
 ·simp only[ltOf,decide_eq_true_eq,h];exact G a b J
 ·simp only[ltOf,decide_eq_false_iff_not,h];exact au a b J
theorem aCg:SWO (ltOf IQ):=ID (fun a b=>agH) (fun a=>by unfold jy;omega) (fun a b J=>by unfold jy;omega) (fun a b J=>by unfold jy;omega)
theorem aCh:SWO (ltOf IR):=ID (fun a b=>agI) (fun a=>by unfold ni;omega) (fun a b J=>by unfold ni;omega) (fun a b J=>by unfold ni;omega)
instance:uR Ev:=⟨fun _=>rfl⟩
instance:uR Stamp:=⟨fun _=>rfl⟩
instance:Inhabited Ev:=⟨⟨0,0,0,0,0,0,0⟩⟩
instance:Inhabited Stamp:=⟨⟨0,0,0,0⟩⟩
theorem aCj (l:List Ev)(hl:l.length < 4611686018427387904):aO prog 178 [.own 0 l.length 0 l.length,.fn 179 []] [.ag 71 7 (ai l)]
 (fun v rs=>v= .bo []∧ ∃ cb:List Ev,cb.Perm l∧cb.Pairwise (fun x d=> ¬jy d x)∧rs= [.ag 71 7 (ai cb)]):=by
 refine aO.Hg inferInstance ?_;refine @aO.mono (dE.aD inferInstance) _ _ _ _ _ _ (@aO.G5 (dE.aD inferInstance) trivial Ev _ _ _ _ _ _ _ 71 aCk rfl isAgg71 sizeOf71 IQ aCg (@aCd (dE.aD inferInstance)) (enters_of func179 (by kernel_rfl) rfl) l hl) ?_;rintro v rs ⟨rfl,cb,h1,G,rfl⟩;exact⟨rfl,cb,h1,G.imp fun {x d} h e=>h (agH.2 e),rfl⟩
theorem aCl (l:List Stamp)(hl:l.length < 4611686018427387904):aO prog 146 [.own 0 l.length 0 l.length,.fn 147 []] [.ag 177 4 (ai l)]
 (fun v rs=>v= .bo []∧ ∃ cb:List Stamp,cb.Perm l∧cb.Pairwise (fun x d=> ¬ni d x)∧rs= [.ag 177 4 (ai cb)]):=by
 refine aO.Hg inferInstance ?_;refine @aO.mono (dE.aD inferInstance) _ _ _ _ _ _ (@aO.G5 (dE.aD inferInstance) trivial Stamp _ _ _ _ _ _ _ 177 aCm rfl isAgg177 sizeOf177 IR aCh (@aCe (dE.aD inferInstance)) (enters_of func147 (by kernel_rfl) rfl) l hl) ?_;rintro v rs ⟨rfl,cb,h1,G,rfl⟩;exact⟨rfl,cb,h1,G.imp fun {x d} h e=>h (agI.2 e),rfl⟩
end Go.Proofs.YtpincjkjoeopkaaGreatDoor.Ib
namespace Go.Proofs.YtpincjkjoeopkaaGreatDoor.Ib
open Go Go.Abs Go.Proofs.Tryz
def AR (I:ByteArray)(c:Nat):Nat:=(I.data.getD c 0).toNat
def AS (J c:Nat):Prop:=(97≤J∧J≤122)∨(c≠0∧((48≤J∧J≤57)∨J=95))
instance (J c:Nat):Decidable (AS J c):=inferInstanceAs (Decidable ((97≤J∧J≤122)∨(c≠0∧((48≤J∧J≤57)∨J=95))))
def vo (I:ByteArray):Prop:=(1≤I.size∧I.size≤24)∧ ∀ j,j < I.size→AS (AR I j) j
instance (I:ByteArray):Decidable (vo I):=inferInstanceAs (Decidable ((1≤I.size∧I.size≤24)∧ ∀ j,j < I.size→AS (AR I j) j))
theorem CZ (I:ByteArray):aO prog 192 [.str I] [] (fun v rs=>v= .bool (decide (vo I))∧rs= []):=by
 refine cu func192 aeK (by simp[AG,C0]) ?_;simp only[go_sem,AG,C0]
 by_cases ao:1≤I.size∧I.size≤24
 rotate_left
 ·have aH:decide (vo I)=false:=decide_eq_false fun h=>ao h.1;rw[aH]
  repeat' ((first|refine gv ?_ ?_|refine gw ?_ ?_|refine cf ?_ ?_|refine dj ?_ ?_)<;>intro aw<;>(have ak:=aw;try simp only[bC] at ak)<;>(first|omega| (simp only[go_sem,aw,AG,C0];clear aw)))
  all_goals exact E.bg rfl ⟨rfl,rfl⟩
 have h1: ¬(I.size:Int) < 1:=by omega
 have G: ¬(I.size:Int)>24:=by omega
 simp only[go_sem,h1,G];refine dN (fun D r=> ∃ c:Nat,c≤I.size∧(∀ j,j < c→AS (AR I j) j)∧D= [(0,.str I),(16,.int .i64 I.size),(17,.int .i64 c)]∧r= [])
  (fun D _=>match bs D 17 with| .int _ j=>(I.size-j).toNat|_=>0) ?_ ?_
 ·exact E.ac ⟨0,by omega,fun j hj=>by omega,rfl,rfl⟩
 ·rintro D r ⟨c,av,hall,rfl,rfl⟩;have aP:=dB (c:=c) (by omega);simp only[go_sem,AG,C0];refine cf ?_ ?_<;>intro ct<;>simp only[bC] at ct<;>simp only[go_sem,AG,C0]
  ·refine⟨by omega,by omega,?_⟩
   try simp only[Int.toNat_natCast]
   have af:AR I c=(I.data.getD c 0).toNat:=rfl;rw[←af];clear af h1 G;have qR: ¬AS (AR I c) c→decide (vo I)=false:=fun h=>decide_eq_false fun cR=>h (cR.2 c (by omega));have mD:AS (AR I c) c→ ∀ j,j < c+1→AS (AR I j) j:=fun h j hj=>by
    by_cases lL:j=c
    ·subst lL;exact h
    ·exact hall j (by omega)
   clear hall;generalize AR I c=J at qR mD ⊢;simp only[AS] at qR mD
   repeat' ((first|refine gv ?_ ?_|refine gw ?_ ?_|refine cf ?_ ?_|refine dj ?_ ?_)<;>intro aw<;>(have ak:=aw;try simp only[bC] at ak)<;>(first|omega| (simp only[go_sem,aw,AG,C0,aP];clear aw)))
   all_goals first
    | (refine E.bg rfl ⟨?_,rfl⟩;rw[qR (by omega)];done)
    | (refine E.ac ⟨⟨c+1,by omega,mD (by omega),rfl,rfl⟩,?_⟩;simp only[go_sem];omega)
  ·refine E.bg rfl ⟨?_,rfl⟩;rw[decide_eq_true];exact⟨ao,fun j hj=>hall j (by omega)⟩
def jT:Int→List kr→Bool
 |_,[]=>true
 |b,x::aq=>decide (vo x.name)&&(decide (b < x.after)&&(decide (x.after≤10080)&&jT x.after aq))
theorem aDi {b:Int}{l:List kr}{c:Nat}(h:c < l.length):jT b (l.drop c)=(decide (vo l[c].name)&&(decide (b < l[c].after)&&(decide (l[c].after≤10080)&&jT l[c].after (l.drop (c+1))))):=by
 rw[List.drop_eq_getElem_cons h,jT]
theorem ahe (l:List kr)(hl:l.length≤1000):aO prog 193 [.pure 2 (ai l)] [] (fun v rs=>v= .bool (jT (-1) l)∧rs= []):=by
 refine cu func193 aeL (by simp[Ft,I1]) ?_;simp only[go_sem,Ft,I1];refine dN (fun D r=> ∃ (c:Nat) (b:Int),c≤l.length∧jT (-1) l=jT b (l.drop c)∧D= [(3,.int .i64 b),(6,.pure 2 (ai l)),(7,.int .i64 l.length),(8,.int .i64 c)]∧r= [])
  (fun D _=>match bs D 8 with| .int _ j=>(l.length-j).toNat|_=>0) ?_ ?_
 ·exact E.ac ⟨0,-1,by omega,rfl,rfl,rfl⟩
 ·rintro D r ⟨c,b,av,ay,rfl,rfl⟩;have aP:=dB (c:=c) (by omega);simp only[go_sem,Ft,I1];refine cf ?_ ?_<;>intro ct<;>simp only[bC] at ct<;>simp only[go_sem,Ft,I1]
  ·have aI:c < l.length:=by omega
   refine⟨by omega,by omega,?_⟩
   try simp only[Int.toNat_natCast]
   rw[aDi aI] at ay;rw[cT aI];generalize l[c]=x at ay ⊢;simp only[go_sem,Nu];refine bM (CZ x.name) rfl rfl ?_;simp only[go_sem]
   by_cases h1:vo x.name
   rotate_left
   ·simp only[go_sem,h1];exact E.bg rfl ⟨by rw[ay];simp[h1],rfl⟩
   by_cases G:x.after≤b
   ·simp only[go_sem,h1,G];exact E.bg rfl ⟨by rw[ay];simp;omega,rfl⟩
   have px:b < x.after:=by omega
   by_cases au:10080 < x.after
   ·simp only[go_sem,h1,G,au,gt_iff_lt];exact E.bg rfl ⟨by rw[ay];simp;omega,rfl⟩
   have yg:x.after≤10080:=by omega
   simp only[go_sem,h1,G,au,aP,gt_iff_lt];simp only[h1,px,yg,decide_true,Bool.true_and] at ay;refine E.ll [] [] rfl rfl rfl ?_;simp only[go_sem];refine E.ac ⟨⟨c+1,x.after,by omega,ay,rfl,rfl⟩,?_⟩;simp only[go_sem];omega
  ·obtain rfl:c=l.length:=by omega
   refine E.bg rfl ⟨?_,rfl⟩;rw[ay,List.drop_length];rfl
structure ib where
 ef:ByteArray
 eN:List kr
 gL:List kr
def lA (aF:ib):Int:=if 16 < aF.eN.length∨16 < aF.gL.length then 3 else if vo aF.ef∧jT (-1) aF.eN=true∧jT (-1) aF.gL=true then 0 else 1
def ib.v (aF:ib):F:= .agg [.str aF.ef,.pure 2 (ai aF.eN),.pure 2 (ai aF.gL)]
theorem lQ (aF:ib):aO prog 109 [aF.v] [] (fun v rs=>v= .int .i64 (lA aF)∧rs= []):=by
 refine cu func109 adA (by simp[MZ,Ts]) ?_;unfold lA;simp only[go_sem,MZ,Ts,ib.v]
 by_cases h1: (aF.eN.length:Int)>16
 ·simp only[go_sem,h1];exact E.bg rfl ⟨by rw[if_pos (by omega)],rfl⟩
 by_cases G: (aF.gL.length:Int)>16
 ·simp only[go_sem,h1,G];exact E.bg rfl ⟨by rw[if_pos (by omega)],rfl⟩
 simp only[go_sem,h1,G];rw[if_neg (by omega)];refine bM (CZ _) rfl rfl ?_;simp only[go_sem]
 by_cases au:vo aF.ef
 rotate_left
 ·simp only[go_sem,au];exact E.bg rfl ⟨by rw[if_neg (by simp[au])],rfl⟩
 simp only[go_sem,au];refine bM (ahe _ (by omega)) rfl rfl ?_;rcases bv:jT (-1) aF.eN with _|_
 ·simp only[go_sem];exact E.bg rfl ⟨by rw[if_neg (by simp)],rfl⟩
 simp only[go_sem];refine bM (ahe _ (by omega)) rfl rfl ?_;rcases cx:jT (-1) aF.gL with _|_
 ·simp only[go_sem];exact E.bg rfl ⟨rfl,rfl⟩
 ·simp only[go_sem];exact E.bg rfl ⟨rfl,rfl⟩
end Go.Proofs.YtpincjkjoeopkaaGreatDoor.Ib
