/- Events and bands. -/
import Derived.Test.YtpincjkjoeopkaaGreatDoorC15
set_option linter.all false
namespace Go.Proofs.YtpincjkjoeopkaaGreatDoor.Ib
open Go Go.Abs Go.Proofs.Tryz
def gp (l:List Int)(a:Int):Z:=dX 143 l a
theorem ED (v n:Int)(aH:0<n)(GS:n<=9223372036854775807):aO prog 10 [.int .i64 v,.int .i64 n] [] (λz r=>z= .int .i64 (mod v n)/\r=[]):=by
 refine cu func10 Ls (by simp[uW,sn]) ?_;simp only[go_sem,uW,sn];refine⟨by omega,?_⟩;have d:=aO7 v aH;refine cf ?_ ?_<;>intro aw<;>simp only[go_sem,uW,sn]<;>refine aKG rfl ⟨?_,rfl⟩<;>simp only[aKN,aLX] at aw
 ·have G: -n<v.tmod n:=by
   have:=aO8 v aH;omega
  rw[bl,mod,Rc aw]
 ·rw[mod,S aw]
theorem hi (l:List Int)(hl:mW l)(n:Int)(aH:n<=9223372036854775807):BU prog 143 64 [.int .i64 n] l (PR n):=by
 intro az h0 d;refine cu func64 Lu (by simp[uX,wu]) ?_;simp only[go_sem,uX,wu,dX];have cK:=hl.len
 repeat' ((first|refine gv ?_ ?_|refine gw ?_ ?_|refine cf ?_ ?_|refine dj ?_ ?_)<;>intro aw<;>(have ak:=aw;try simp only[bC] at ak)<;>(first|omega| (simp only[go_sem,aw,uX,wu];clear aw)))
 ·exact E.tape rfl h0 d ⟨0,rfl,by omega,by omega⟩
 ·exact E.tape rfl h0 d ⟨0,rfl,by omega,by omega⟩
 ·simp (disch:=omega) only[bl,tw,aP7];refine⟨by omega,by omega,by simp,?_⟩;simp only[go_sem];refine gG (ED _ _ (by omega) aH) rfl rfl ?_;simp only[go_sem];have af:=PS (v:=l.getD az.toNat 0) (n:=n) (by omega);exact E.tape rfl (by omega) (by omega) ⟨_,rfl,by omega,by omega⟩
theorem aLs (l:List Int)(hl:mW l)(aq:List Int)(aj:0<aq.length)(rY:aq.length<=1000):BV prog 143 3 59 l aq (λv=> ∃x,x∈aq/\v= .int .i64 x):=by
 intro az h0 d;refine cu func59 Lv (by simp[zP,Cg]) ?_;simp only[go_sem,zP,Cg];refine KP (hi l hl _ (by omega)) rfl (by simp) h0 d ?_;rintro v a G au ⟨x,rfl,bv,cx⟩;simp only[go_sem];refine⟨by omega,by omega,?_⟩;rw[tw (by omega)];simp only[go_sem];refine i ⟨a,rfl,G,au,rfl,_,?_,rfl⟩;rw[aLn,aKS (by omega)];simp
structure bx where
 R:Int
 ab:Int
def bx.cells (e:bx):List F:=[.int .i64 e.R,.int .i64 e.ab]
instance:aJ bx:=⟨bx.cells,2,λ_=>rfl,λ_=>rfl,λ_=>rfl⟩
theorem eY (e:bx):aJ.J e=[.int .i64 e.R,.int .i64 e.ab]:=rfl
theorem Tk:aJ.U bx=2:=rfl
theorem Tl (e:bx):List.take 2 (aJ.J e)=aJ.J e:=rfl
attribute [go_sem] Tk Tl
structure Stamp where
 time:Int
 cB:Int
 cZ:Int
 Y:Int
def Stamp.cells (e:Stamp):List F:=[.int .i64 e.time,.int .i64 e.cB,.int .i64 e.cZ,.int .i64 e.Y]
instance:aJ Stamp:=⟨Stamp.cells,4,λ_=>rfl,λ_=>rfl,λ_=>rfl⟩
theorem Nn (e:Stamp):aJ.J e=[.int .i64 e.time,.int .i64 e.cB,.int .i64 e.cZ,.int .i64 e.Y]:=rfl
theorem Tm:aJ.U Stamp=4:=rfl
theorem Tn (e:Stamp):List.take 4 (aJ.J e)=aJ.J e:=rfl
attribute [go_sem] Tm Tn
structure Ev where
 cZ:Int
 Y:Int
 bk:Int
 time:Int
 cB:Int
 iq:Int
 eg:Int
def Ev.cells (e:Ev):List F:=[.int .i64 e.cZ,.int .i64 e.Y,.int .i64 e.bk,.int .i64 e.time,.int .i64 e.cB,.int .i64 e.iq,.int .i64 e.eg]
instance:aJ Ev:=⟨Ev.cells,7,λ_=>rfl,λ_=>rfl,λ_=>rfl⟩
theorem rJ (e:Ev):aJ.J e=[.int .i64 e.cZ,.int .i64 e.Y,.int .i64 e.bk,.int .i64 e.time,.int .i64 e.cB,.int .i64 e.iq,.int .i64 e.eg]:=rfl
theorem To:aJ.U Ev=7:=rfl
theorem Tp (e:Ev):List.take 7 (aJ.J e)=aJ.J e:=rfl
attribute [go_sem] To Tp
theorem Ev.ext' {a b:Ev}(h0:a.cZ=b.cZ)(d:a.Y=b.Y)(G:a.bk=b.bk)(au:a.time=b.time)(bv:a.cB=b.cB)(cx:a.iq=b.iq)(dx:a.eg=b.eg):a=b:=by
 cases a;cases b;simp_all
structure Ky where
 t:Int
 I:Int
def Ky.cells (e:Ky):List F:=[.int .i64 e.t,.int .i64 e.I]
instance:aJ Ky:=⟨Ky.cells,2,λ_=>rfl,λ_=>rfl,λ_=>rfl⟩
theorem aCy (e:Ky):aJ.J e=[.int .i64 e.t,.int .i64 e.I]:=rfl
theorem aCZ:aJ.U Ky=2:=rfl
theorem aC0 (e:Ky):List.take 2 (aJ.J e)=aJ.J e:=rfl
attribute [go_sem] aCZ aC0
theorem Ky.ext' {a b:Ky}(h0:a.t=b.t)(d:a.I=b.I):a=b:=by
 cases a;cases b;simp_all
structure ga where
 ah:Int
 R:Int
 ab:Int
def ga.cells (e:ga):List F:=[.int .i64 e.ah,.int .i64 e.R,.int .i64 e.ab]
instance:aJ ga:=⟨ga.cells,3,λ_=>rfl,λ_=>rfl,λ_=>rfl⟩
theorem No (e:ga):aJ.J e=[.int .i64 e.ah,.int .i64 e.R,.int .i64 e.ab]:=rfl
theorem aC1:aJ.U ga=3:=rfl
theorem aC2 (e:ga):List.take 3 (aJ.J e)=aJ.J e:=rfl
attribute [go_sem] aC1 aC2
theorem agV {l:List Stamp}{a b J B:Int}:ai l++[[.int .i64 a,.int .i64 b,.int .i64 J,.int .i64 B]]=ai (l++[⟨a,b,J,B⟩]):=kT (x:=Stamp.mk a b J B)
theorem aC3 {l:List ga}{a b J:Int}:ai l++[[.int .i64 a,.int .i64 b,.int .i64 J]]=ai (l++[⟨a,b,J⟩]):=kT (x:=ga.mk a b J)
theorem Tc {l:List Ev}{a b J B e f g:Int}:ai l++[[.int .i64 a,.int .i64 b,.int .i64 J,.int .i64 B,.int .i64 e,.int .i64 f,.int .i64 g]]=ai (l++[⟨a,b,J,B,e,f,g⟩]):=kT (x:=Ev.mk a b J B e f g)
structure fv where
 ah:Int
 gM:List bx
def fv.cells (w:fv):List F:=[.int .i64 w.ah,.pure 2 (ai w.gM)]
theorem aC4 (w:fv):w.cells.all Abs.cV=true:=by simp[fv.cells,Abs.cV]
theorem aC5 (w:fv):bU w.cells=true:=by simp[fv.cells,bU,bJ]
instance:aJ fv:=⟨fv.cells,2,λ_=>rfl,aC5,aC4⟩
theorem aha (w:fv):aJ.J w=[.int .i64 w.ah,.pure 2 (ai w.gM)]:=rfl
theorem aC6:aJ.U fv=2:=rfl
theorem aC7 (w:fv):List.take 2 (aJ.J w)=aJ.J w:=rfl
attribute [go_sem] aC6 aC7
structure kr where
 name:ByteArray
 after:Int
def kr.cells (w:kr):List F:=[.str w.name,.int .i64 w.after]
instance:aJ kr:=⟨kr.cells,2,λ_=>rfl,λ_=>rfl,λ_=>rfl⟩
theorem Nu (w:kr):aJ.J w=[.str w.name,.int .i64 w.after]:=rfl
theorem aC8:aJ.U kr=2:=rfl
theorem aC9 (w:kr):List.take 2 (aJ.J w)=aJ.J w:=rfl
attribute [go_sem] aC8 aC9
theorem agC {l:List kr}{a:ByteArray}{b:Int}:ai l++[[.str a,.int .i64 b]]=ai (l++[⟨a,b⟩]):=kT (x:=kr.mk a b)
structure jg where
 name:ByteArray
 min:Int
def jg.cells (w:jg):List F:=[.str w.name,.int .i64 w.min]
instance:aJ jg:=⟨jg.cells,2,λ_=>rfl,λ_=>rfl,λ_=>rfl⟩
theorem RU (w:jg):aJ.J w=[.str w.name,.int .i64 w.min]:=rfl
theorem aDa:aJ.U jg=2:=rfl
theorem aDb (w:jg):List.take 2 (aJ.J w)=aJ.J w:=rfl
attribute [go_sem] aDa aDb
theorem aDc {l:List jg}{a:ByteArray}{b:Int}:ai l++[[.str a,.int .i64 b]]=ai (l++[⟨a,b⟩]):=kT (x:=jg.mk a b)
structure cF where
 ah:Int
 R:Int
 ab:Int
 ep:ByteArray
def cF.cells (w:cF):List F:=[.int .i64 w.ah,.int .i64 w.R,.int .i64 w.ab,.str w.ep]
instance:aJ cF:=⟨cF.cells,4,λ_=>rfl,λ_=>rfl,λ_=>rfl⟩
theorem Ah (w:cF):aJ.J w=[.int .i64 w.ah,.int .i64 w.R,.int .i64 w.ab,.str w.ep]:=rfl
theorem Tq:aJ.U cF=4:=rfl
theorem aDd (w:cF):List.take 4 (aJ.J w)=aJ.J w:=rfl
attribute [go_sem] Tq aDd
theorem Nv {l:List cF}{a b J:Int}{B:ByteArray}:ai l++[[.int .i64 a,.int .i64 b,.int .i64 J,.str B]]=ai (l++[⟨a,b,J,B⟩]):=kT (x:=cF.mk a b J B)
def aDe:Go.Shelf.Ren:=
 {f:=λx=>match x with|6=>146|15=>158|14=>221|28=>241|29=>242|20=>276|21=>277|22=>278|23=>279|24=>280|25=>281|26=>282|27=>283|46=>339|47=>290|48=>291|49=>340|50=>341|57=>362|n=>n,
  t:=λx=>match x with|22=>80|24=>177|25=>271|3=>3|39=>284|0=>0|53=>347|55=>349|4=>4|46=>341|45=>340|50=>206|5=>5|9=>9|66=>376|70=>380|76=>412|77=>308|n=>n,
  g:=λn=>n}
set_option maxRecDepth 100000 in
theorem aCm:SlLaysF0.n6 prog aDe where
 mixed:=by kernel_rfl
 f6:=⟨"slices.SortFunc[[]payroll/api.Stamp,payroll/api.Stamp]",by decide,aKL func146 (aKI some (by kernel_rfl))⟩
 f14:=⟨"slices.pdqsortCmpFunc[payroll/api.Stamp]",by decide,aKL func221 (aKI some (by kernel_rfl))⟩
 f15:=aKL func158 (aKI some (by kernel_rfl))
 f20:=⟨"slices.insertionSortCmpFunc[payroll/api.Stamp]",by decide,aKL func276 (aKI some (by kernel_rfl))⟩
 f21:=⟨"slices.heapSortCmpFunc[payroll/api.Stamp]",by decide,aKL func277 (aKI some (by kernel_rfl))⟩
 f22:=⟨"slices.breakPatternsCmpFunc[payroll/api.Stamp]",by decide,aKL func278 (aKI some (by kernel_rfl))⟩
 f23:=⟨"slices.choosePivotCmpFunc[payroll/api.Stamp]",by decide,aKL func279 (aKI some (by kernel_rfl))⟩
 f24:=⟨"slices.reverseRangeCmpFunc[payroll/api.Stamp]",by decide,aKL func280 (aKI some (by kernel_rfl))⟩
 f25:=⟨"slices.partialInsertionSortCmpFunc[payroll/api.Stamp]",by decide,aKL func281 (aKI some (by kernel_rfl))⟩
 f26:=⟨"slices.partitionEqualCmpFunc[payroll/api.Stamp]",by decide,aKL func282 (aKI some (by kernel_rfl))⟩
 f27:=⟨"slices.partitionCmpFunc[payroll/api.Stamp]",by decide,aKL func283 (aKI some (by kernel_rfl))⟩
 f28:=aKL func241 (aKI some (by kernel_rfl))
 f29:=aKL func242 (aKI some (by kernel_rfl))
 f46:=⟨"slices.siftDownCmpFunc[payroll/api.Stamp]",by decide,aKL func339 (aKI some (by kernel_rfl))⟩
 f47:=aKL func290 (aKI some (by kernel_rfl))
 f48:=aKL func291 (aKI some (by kernel_rfl))
 f49:=⟨"slices.medianAdjacentCmpFunc[payroll/api.Stamp]",by decide,aKL func340 (aKI some (by kernel_rfl))⟩
 f50:=⟨"slices.medianCmpFunc[payroll/api.Stamp]",by decide,aKL func341 (aKI some (by kernel_rfl))⟩
 f57:=⟨"slices.order2CmpFunc[payroll/api.Stamp]",by decide,aKL func362 (aKI some (by kernel_rfl))⟩
 t0:=underlying0
 a0:=isAgg0
 z0:=sizeOf0
 v0:=zeroValue0
 t3:=underlying3
 a3:=isAgg3
 z3:=sizeOf3
 v3:=zeroValue3
 t4:=underlying4
 a4:=isAgg4
 z4:=sizeOf4
 v4:=zeroValue4
 t5:=underlying5
 a5:=isAgg5
 z5:=sizeOf5
 v5:=zeroValue5
 t9:=underlying9
 a9:=isAgg9
 z9:=sizeOf9
 v9:=zeroValue9
 t22:=underlying80
 a22:=isAgg80
 z22:=sizeOf80
 v22:=zeroValue80
 t25:=underlying271
 a25:=isAgg271
 z25:=sizeOf271
 v25:=zeroValue271
 t39:=underlying284
 a39:=isAgg284
 z39:=sizeOf284
 v39:=zeroValue284
 t45:=underlying340
 a45:=isAgg340
 z45:=sizeOf340
 v45:=zeroValue340
 t46:=underlying341
 a46:=isAgg341
 z46:=sizeOf341
 v46:=zeroValue341
 t50:=underlying206
 a50:=isAgg206
 z50:=sizeOf206
 v50:=zeroValue206
 t53:=underlying347
 a53:=isAgg347
 z53:=sizeOf347
 v53:=zeroValue347
 t55:=underlying349
 a55:=isAgg349
 z55:=sizeOf349
 v55:=zeroValue349
 t66:=underlying376
 a66:=isAgg376
 z66:=sizeOf376
 v66:=zeroValue376
 t70:=underlying380
 a70:=isAgg380
 z70:=sizeOf380
 v70:=zeroValue380
 t76:=underlying412
 a76:=isAgg412
 z76:=sizeOf412
 v76:=zeroValue412
 t77:=underlying308
 a77:=isAgg308
 z77:=sizeOf308
 v77:=zeroValue308
def aDf:Go.Shelf.Ren:=
 {f:=λx=>match x with|6=>195|15=>158|14=>256|28=>241|29=>242|20=>314|21=>315|22=>316|23=>317|24=>318|25=>319|26=>320|27=>321|46=>349|47=>290|48=>291|49=>350|50=>351|57=>365|n=>n,
  t:=λx=>match x with|22=>210|24=>216|25=>306|3=>3|39=>284|0=>0|53=>347|55=>349|4=>4|46=>341|45=>340|50=>206|5=>5|9=>9|66=>376|70=>380|76=>412|77=>308|n=>n,
  g:=λn=>n}
set_option maxRecDepth 100000 in
theorem aCo:SlLaysF0.n6 prog aDf where
 mixed:=by kernel_rfl
 f6:=⟨"slices.SortFunc[[]payroll/overtime.span,payroll/overtime.span]",by decide,aKL func195 (aKI some (by kernel_rfl))⟩
 f14:=⟨"slices.pdqsortCmpFunc[payroll/overtime.span]",by decide,aKL func256 (aKI some (by kernel_rfl))⟩
 f15:=aKL func158 (aKI some (by kernel_rfl))
 f20:=⟨"slices.insertionSortCmpFunc[payroll/overtime.span]",by decide,aKL func314 (aKI some (by kernel_rfl))⟩
 f21:=⟨"slices.heapSortCmpFunc[payroll/overtime.span]",by decide,aKL func315 (aKI some (by kernel_rfl))⟩
 f22:=⟨"slices.breakPatternsCmpFunc[payroll/overtime.span]",by decide,aKL func316 (aKI some (by kernel_rfl))⟩
 f23:=⟨"slices.choosePivotCmpFunc[payroll/overtime.span]",by decide,aKL func317 (aKI some (by kernel_rfl))⟩
 f24:=⟨"slices.reverseRangeCmpFunc[payroll/overtime.span]",by decide,aKL func318 (aKI some (by kernel_rfl))⟩
 f25:=⟨"slices.partialInsertionSortCmpFunc[payroll/overtime.span]",by decide,aKL func319 (aKI some (by kernel_rfl))⟩
 f26:=⟨"slices.partitionEqualCmpFunc[payroll/overtime.span]",by decide,aKL func320 (aKI some (by kernel_rfl))⟩
 f27:=⟨"slices.partitionCmpFunc[payroll/overtime.span]",by decide,aKL func321 (aKI some (by kernel_rfl))⟩
 f28:=aKL func241 (aKI some (by kernel_rfl))
 f29:=aKL func242 (aKI some (by kernel_rfl))
 f46:=⟨"slices.siftDownCmpFunc[payroll/overtime.span]",by decide,aKL func349 (aKI some (by kernel_rfl))⟩
 f47:=aKL func290 (aKI some (by kernel_rfl))
 f48:=aKL func291 (aKI some (by kernel_rfl))
 f49:=⟨"slices.medianAdjacentCmpFunc[payroll/overtime.span]",by decide,aKL func350 (aKI some (by kernel_rfl))⟩
 f50:=⟨"slices.medianCmpFunc[payroll/overtime.span]",by decide,aKL func351 (aKI some (by kernel_rfl))⟩
 f57:=⟨"slices.order2CmpFunc[payroll/overtime.span]",by decide,aKL func365 (aKI some (by kernel_rfl))⟩
 t0:=underlying0
 a0:=isAgg0
 z0:=sizeOf0
 v0:=zeroValue0
 t3:=underlying3
 a3:=isAgg3
 z3:=sizeOf3
 v3:=zeroValue3
 t4:=underlying4
 a4:=isAgg4
 z4:=sizeOf4
 v4:=zeroValue4
 t5:=underlying5
 a5:=isAgg5
 z5:=sizeOf5
 v5:=zeroValue5
 t9:=underlying9
 a9:=isAgg9
 z9:=sizeOf9
 v9:=zeroValue9
 t22:=underlying210
 a22:=isAgg210
 z22:=sizeOf210
 v22:=zeroValue210
 t25:=underlying306
 a25:=isAgg306
 z25:=sizeOf306
 v25:=zeroValue306
 t39:=underlying284
 a39:=isAgg284
 z39:=sizeOf284
 v39:=zeroValue284
 t45:=underlying340
 a45:=isAgg340
 z45:=sizeOf340
 v45:=zeroValue340
 t46:=underlying341
 a46:=isAgg341
 z46:=sizeOf341
 v46:=zeroValue341
 t50:=underlying206
 a50:=isAgg206
 z50:=sizeOf206
 v50:=zeroValue206
 t53:=underlying347
 a53:=isAgg347
 z53:=sizeOf347
 v53:=zeroValue347
 t55:=underlying349
 a55:=isAgg349
 z55:=sizeOf349
 v55:=zeroValue349
 t66:=underlying376
 a66:=isAgg376
 z66:=sizeOf376
 v66:=zeroValue376
 t70:=underlying380
 a70:=isAgg380
 z70:=sizeOf380
 v70:=zeroValue380
 t76:=underlying412
 a76:=isAgg412
 z76:=sizeOf412
 v76:=zeroValue412
 t77:=underlying308
 a77:=isAgg308
 z77:=sizeOf308
 v77:=zeroValue308
def aDg:Go.Shelf.Ren:=
 {f:=λx=>match x with|6=>178|15=>158|14=>248|28=>241|29=>242|20=>295|21=>296|22=>297|23=>298|24=>299|25=>300|26=>301|27=>302|46=>343|47=>290|48=>291|49=>344|50=>345|57=>363|n=>n,
  t:=λx=>match x with|22=>53|24=>71|25=>294|3=>3|39=>284|0=>0|53=>347|55=>349|4=>4|46=>341|45=>340|50=>206|5=>5|9=>9|66=>376|70=>380|76=>412|77=>308|n=>n,
  g:=λn=>n}
set_option maxRecDepth 100000 in
theorem aCk:SlLaysF0.n6 prog aDg where
 mixed:=by kernel_rfl
 f6:=⟨"slices.SortFunc[[]payroll/api.Event,payroll/api.Event]",by decide,aKL func178 (aKI some (by kernel_rfl))⟩
 f14:=⟨"slices.pdqsortCmpFunc[payroll/api.Event]",by decide,aKL func248 (aKI some (by kernel_rfl))⟩
 f15:=aKL func158 (aKI some (by kernel_rfl))
 f20:=⟨"slices.insertionSortCmpFunc[payroll/api.Event]",by decide,aKL func295 (aKI some (by kernel_rfl))⟩
 f21:=⟨"slices.heapSortCmpFunc[payroll/api.Event]",by decide,aKL func296 (aKI some (by kernel_rfl))⟩
 f22:=⟨"slices.breakPatternsCmpFunc[payroll/api.Event]",by decide,aKL func297 (aKI some (by kernel_rfl))⟩
 f23:=⟨"slices.choosePivotCmpFunc[payroll/api.Event]",by decide,aKL func298 (aKI some (by kernel_rfl))⟩
 f24:=⟨"slices.reverseRangeCmpFunc[payroll/api.Event]",by decide,aKL func299 (aKI some (by kernel_rfl))⟩
 f25:=⟨"slices.partialInsertionSortCmpFunc[payroll/api.Event]",by decide,aKL func300 (aKI some (by kernel_rfl))⟩
 f26:=⟨"slices.partitionEqualCmpFunc[payroll/api.Event]",by decide,aKL func301 (aKI some (by kernel_rfl))⟩
 f27:=⟨"slices.partitionCmpFunc[payroll/api.Event]",by decide,aKL func302 (aKI some (by kernel_rfl))⟩
 f28:=aKL func241 (aKI some (by kernel_rfl))
 f29:=aKL func242 (aKI some (by kernel_rfl))
 f46:=⟨"slices.siftDownCmpFunc[payroll/api.Event]",by decide,aKL func343 (aKI some (by kernel_rfl))⟩
 f47:=aKL func290 (aKI some (by kernel_rfl))
 f48:=aKL func291 (aKI some (by kernel_rfl))
 f49:=⟨"slices.medianAdjacentCmpFunc[payroll/api.Event]",by decide,aKL func344 (aKI some (by kernel_rfl))⟩
 f50:=⟨"slices.medianCmpFunc[payroll/api.Event]",by decide,aKL func345 (aKI some (by kernel_rfl))⟩
 f57:=⟨"slices.order2CmpFunc[payroll/api.Event]",by decide,aKL func363 (aKI some (by kernel_rfl))⟩
 t0:=underlying0
 a0:=isAgg0
 z0:=sizeOf0
 v0:=zeroValue0
 t3:=underlying3
 a3:=isAgg3
 z3:=sizeOf3
 v3:=zeroValue3
 t4:=underlying4
 a4:=isAgg4
 z4:=sizeOf4
 v4:=zeroValue4
 t5:=underlying5
 a5:=isAgg5
 z5:=sizeOf5
 v5:=zeroValue5
 t9:=underlying9
 a9:=isAgg9
 z9:=sizeOf9
 v9:=zeroValue9
 t22:=underlying53
 a22:=isAgg53
 z22:=sizeOf53
 v22:=zeroValue53
 t25:=underlying294
 a25:=isAgg294
 z25:=sizeOf294
 v25:=zeroValue294
 t39:=underlying284
 a39:=isAgg284
 z39:=sizeOf284
 v39:=zeroValue284
 t45:=underlying340
 a45:=isAgg340
 z45:=sizeOf340
 v45:=zeroValue340
 t46:=underlying341
 a46:=isAgg341
 z46:=sizeOf341
 v46:=zeroValue341
 t50:=underlying206
 a50:=isAgg206
 z50:=sizeOf206
 v50:=zeroValue206
 t53:=underlying347
 a53:=isAgg347
 z53:=sizeOf347
 v53:=zeroValue347
 t55:=underlying349
 a55:=isAgg349
 z55:=sizeOf349
 v55:=zeroValue349
 t66:=underlying376
 a66:=isAgg376
 z66:=sizeOf376
 v66:=zeroValue376
 t70:=underlying380
 a70:=isAgg380
 z70:=sizeOf380
 v70:=zeroValue380
 t76:=underlying412
 a76:=isAgg412
 z76:=sizeOf412
 v76:=zeroValue412
 t77:=underlying308
 a77:=isAgg308
 z77:=sizeOf308
 v77:=zeroValue308
end Go.Proofs.YtpincjkjoeopkaaGreatDoor.Ib
namespace Go.Proofs.YtpincjkjoeopkaaGreatDoor.Ib
open Go Go.Abs Go.Proofs.Tryz
open Go.Sort (SWO)
section
variable [iZ:dE]
def vp (a b:Ky):Int:=ow [gT a.t b.t,gT a.I b.I]
def IQ (a b:Ev):Int:=ow [vp ⟨a.cZ,a.Y⟩ ⟨b.cZ,b.Y⟩,gT a.bk b.bk,gT a.time b.time,gT a.cB b.cB,vp ⟨a.iq,a.eg⟩ ⟨b.iq,b.eg⟩]
def IR (a b:Stamp):Int:=ow [gT a.time b.time,vp ⟨a.cZ,a.Y⟩ ⟨b.cZ,b.Y⟩]
theorem S2 (a b:Ky):aO prog 148 [.agg [.int .i64 a.t,.int .i64 a.I],.agg [.int .i64 b.t,.int .i64 b.I]] [] (λv rs=>v= .int .i64 (vp a b)/\rs=[]):=by
 refine cu func148 aeb (by simp[M4,S3]) ?_;simp only[go_sem,M4,S3];refine gG (yw _ _) rfl rfl ?_;simp only[go_sem];refine gG (yw _ _) rfl rfl ?_;simp only[go_sem]
 (refine D4 [2] (Mm [gT a.t b.t,gT a.I b.I] (by simp)) ?_;rintro _ _ ⟨rfl,rfl⟩;simp only[go_sem])
 exact aKG rfl ⟨rfl,rfl⟩
theorem aCd (a b:Ev):aO prog 179 [.agg (aJ.J a),.agg (aJ.J b)] [] (λv rs=>v= .int .i64 (IQ a b)/\rs=[]):=by
 refine cu func179 aeA (by simp[M7,S4]) ?_;simp only[go_sem,M7,S4,rJ];refine gG (S2 ⟨a.cZ,a.Y⟩ ⟨b.cZ,b.Y⟩) rfl rfl ?_;simp only[go_sem];refine gG (yw _ _) rfl rfl ?_;simp only[go_sem];refine gG (yw _ _) rfl rfl ?_;simp only[go_sem];refine gG (yw _ _) rfl rfl ?_;simp only[go_sem];refine gG (S2 ⟨a.iq,a.eg⟩ ⟨b.iq,b.eg⟩) rfl rfl ?_;simp only[go_sem]
 (refine D4 [2] (Mm [vp ⟨a.cZ,a.Y⟩ ⟨b.cZ,b.Y⟩,gT a.bk b.bk,gT a.time b.time,gT a.cB b.cB,vp ⟨a.iq,a.eg⟩ ⟨b.iq,b.eg⟩] (by simp)) ?_;rintro _ _ ⟨rfl,rfl⟩;simp only[go_sem])
 exact aKG rfl ⟨rfl,rfl⟩
theorem aCe (a b:Stamp):aO prog 147 [.agg (aJ.J a),.agg (aJ.J b)] [] (λv rs=>v= .int .i64 (IR a b)/\rs=[]):=by
 refine cu func147 aea (by simp[M3,S5]) ?_;simp only[go_sem,M3,S5,Nn];refine gG (yw _ _) rfl rfl ?_;simp only[go_sem];refine gG (S2 ⟨a.cZ,a.Y⟩ ⟨b.cZ,b.Y⟩) rfl rfl ?_;simp only[go_sem]
 (refine D4 [2] (Mm [gT a.time b.time,vp ⟨a.cZ,a.Y⟩ ⟨b.cZ,b.Y⟩] (by simp)) ?_;rintro _ _ ⟨rfl,rfl⟩;simp only[go_sem])
 exact aKG rfl ⟨rfl,rfl⟩
theorem aCf (a b:ga):aO prog 196 [.agg (aJ.J a),.agg (aJ.J b)] [] (λv rs=>v= .int .i64 (gT a.R b.R)/\rs=[]):=by
 refine cu func196 aeO (by simp[M8,S6]) ?_;simp only[go_sem,M8,S6,No];refine bM (yw _ _) rfl rfl ?_;simp only[go_sem];exact aKG rfl ⟨rfl,rfl⟩
end
theorem Am {a b:Int}:gT a b<0↔a<b:=by
 unfold gT;split
 ·simp_all
 ·split<;>simp_all
theorem tQ {a b:Int}:gT a b=0↔a=b:=by
 unfold gT;split
 ·simp;omega
 ·split
  ·simp;omega
  ·simp;omega
theorem agD {a b:Ky}:vp a b<0↔a.t<b.t\/(a.t=b.t/\a.I<b.I):=by
 unfold vp;simp only[ow]
 by_cases h:gT a.t b.t=0
 ·rw[Rc h];have:=tQ.1 h
  by_cases G:gT a.I b.I=0
  ·rw[Rc G];have:=tQ.1 G;omega
  ·rw[S G,Am];omega
 ·rw[S h,Am];have:¬a.t=b.t:=λe=>h (tQ.2 e);omega
theorem agE {a b:Ky}:vp a b=0↔a.t=b.t/\a.I=b.I:=by
 unfold vp;simp only[ow]
 by_cases h:gT a.t b.t=0
 ·rw[Rc h];have:=tQ.1 h
  by_cases G:gT a.I b.I=0
  ·rw[Rc G];have:=tQ.1 G;simp;omega
  ·rw[S G];have:¬a.I=b.I:=λe=>G (tQ.2 e);simp only[G,aMI];omega
 ·rw[S h];have:¬a.t=b.t:=λe=>h (tQ.2 e);simp only[h,aMI];omega
def pZ (a b:Ky):Prop:=a.t<b.t\/(a.t=b.t/\a.I<b.I)
def jy (a b:Ev):Prop:=a.cZ<b.cZ\/(a.cZ=b.cZ/\(a.Y<b.Y\/(a.Y=b.Y/\(a.bk<b.bk\/(a.bk=b.bk/\(a.time<b.time\/(a.time=b.time/\(a.cB<b.cB\/(a.cB=b.cB/\(a.iq<b.iq\/(a.iq=b.iq/\a.eg<b.eg)))))))))))
def ni (a b:Stamp):Prop:=a.time<b.time\/(a.time=b.time/\(a.cZ<b.cZ\/(a.cZ=b.cZ/\a.Y<b.Y)))
theorem agF:ow []=0:=rfl
theorem agG {x:Int}{aq:List Int}:ow (x::aq)<0↔x<0\/(x=0/\ow aq<0):=by
 rw[ow];split<;>omega
theorem agH {a b:Ev}:IQ a b<0↔jy a b:=by
 unfold IQ;simp only[agG,agD,agE,Am,tQ,agF,jy];omega
theorem agI {a b:Stamp}:IR a b<0↔ni a b:=by
 unfold IR;simp only[agG,agD,agE,Am,tQ,agF,ni];omega
theorem ID {bj:Type}{tx:bj->bj->Int}{aF:bj->bj->Prop}(h:∀a b,tx a b<0↔aF a b)(d:∀a,¬aF a a)(G:∀a b J,aF a b->aF b J->aF a J)(au:∀a b J,¬aF a b-> ¬aF b J-> ¬aF a J):SWO (ltOf tx):=by
 refine⟨λa=> ?_,λa b J=> ?_,λa b J=> ?_⟩
 ·simp only[ltOf,aLX,h];exact d a
 ·simp only[ltOf,aKN,h];exact G a b J
 ·simp only[ltOf,aLX,h];exact au a b J
theorem aCg:SWO (ltOf IQ):=ID (λa b=>agH) (λa=>by unfold jy;omega) (λa b J=>by unfold jy;omega) (λa b J=>by unfold jy;omega)
theorem aCh:SWO (ltOf IR):=ID (λa b=>agI) (λa=>by unfold ni;omega) (λa b J=>by unfold ni;omega) (λa b J=>by unfold ni;omega)
theorem aCi:SWO (ltOf λa b:ga=>gT a.R b.R):=ID (aF:=λa b=>a.R<b.R) (λa b=>Am) (λa=>by omega) (λa b J=>by omega) (λa b J=>by omega)
instance:uR Ev:=⟨λ_=>rfl⟩
instance:uR Stamp:=⟨λ_=>rfl⟩
instance:uR ga:=⟨λ_=>rfl⟩
instance:Inhabited Ev:=⟨⟨0,0,0,0,0,0,0⟩⟩
instance:Inhabited Stamp:=⟨⟨0,0,0,0⟩⟩
instance:Inhabited ga:=⟨⟨0,0,0⟩⟩
theorem aCj (l:List Ev)(hl:l.length<4611686018427387904):aO prog 178 [.own 0 l.length 0 l.length,.fn 179 []] [.ag 71 7 (ai l)]
 (λv rs=>v= .bo []/\ ∃cb:List Ev,cb.Perm l/\cb.Pairwise (λx y=> ¬jy y x)/\rs=[.ag 71 7 (ai cb)]):=by
 refine aO.Hg inferInstance ?_;refine @aO.mono (dE.aD inferInstance) _ _ _ _ _ _ (@aO.G5 (dE.aD inferInstance) trivial Ev _ _ _ _ _ _ _ 71 aCk rfl isAgg71 sizeOf71 IQ aCg (@aCd (dE.aD inferInstance)) (enters_of func179 (by kernel_rfl) rfl) l hl) ?_;rintro v rs ⟨rfl,cb,d,G,rfl⟩;exact⟨rfl,cb,d,G.imp λ{x y} h e=>h (agH.2 e),rfl⟩
theorem aCl (l:List Stamp)(hl:l.length<4611686018427387904):aO prog 146 [.own 0 l.length 0 l.length,.fn 147 []] [.ag 177 4 (ai l)]
 (λv rs=>v= .bo []/\ ∃cb:List Stamp,cb.Perm l/\cb.Pairwise (λx y=> ¬ni y x)/\rs=[.ag 177 4 (ai cb)]):=by
 refine aO.Hg inferInstance ?_;refine @aO.mono (dE.aD inferInstance) _ _ _ _ _ _ (@aO.G5 (dE.aD inferInstance) trivial Stamp _ _ _ _ _ _ _ 177 aCm rfl isAgg177 sizeOf177 IR aCh (@aCe (dE.aD inferInstance)) (enters_of func147 (by kernel_rfl) rfl) l hl) ?_;rintro v rs ⟨rfl,cb,d,G,rfl⟩;exact⟨rfl,cb,d,G.imp λ{x y} h e=>h (agI.2 e),rfl⟩
theorem aCn (l:List ga)(hl:l.length<4611686018427387904):aO prog 195 [.own 0 l.length 0 l.length,.fn 196 []] [.ag 216 3 (ai l)]
 (λv rs=>v= .bo []/\ ∃cb:List ga,cb.Perm l/\cb.Pairwise (λx y=>x.R<=y.R)/\rs=[.ag 216 3 (ai cb)]):=by
 refine aO.Hg inferInstance ?_;refine @aO.mono (dE.aD inferInstance) _ _ _ _ _ _ (@aO.G5 (dE.aD inferInstance) trivial ga _ _ _ _ _ _ _ 216 aCo rfl isAgg216 sizeOf216 (λa b=>gT a.R b.R) aCi (@aCf (dE.aD inferInstance)) (enters_of func196 (by kernel_rfl) rfl) l hl) ?_;rintro v rs ⟨rfl,cb,d,G,rfl⟩;exact⟨rfl,cb,d,G.imp λ{x y} h=>by rw[Am] at h;omega,rfl⟩
end Go.Proofs.YtpincjkjoeopkaaGreatDoor.Ib
namespace Go.Proofs.YtpincjkjoeopkaaGreatDoor.Ib
open Go Go.Abs Go.Proofs.Tryz
def AR (I:ByteArray)(c:Nat):Nat:=(I.data.getD c 0).toNat
def AS (J c:Nat):Prop:=(97<=J/\J<=122)\/(c≠0/\((48<=J/\J<=57)\/J=95))
instance (J c:Nat):Decidable (AS J c):=inferInstanceAs (Decidable ((97<=J/\J<=122)\/(c≠0/\((48<=J/\J<=57)\/J=95))))
def vo (I:ByteArray):Prop:=(1<=I.size/\I.size<=24)/\ ∀j,j<I.size->AS (AR I j) j
instance (I:ByteArray):Decidable (vo I):=inferInstanceAs (Decidable ((1<=I.size/\I.size<=24)/\ ∀j,j<I.size->AS (AR I j) j))
theorem CZ (I:ByteArray):aO prog 192 [.str I] [] (λv rs=>v= .bool (decide (vo I))/\rs=[]):=by
 refine cu func192 aeK (by simp[AG,C0]) ?_;simp only[go_sem,AG,C0]
 by_cases ao:1<=I.size/\I.size<=24
 rotate_left
 ·have aH:decide (vo I)=false:=aLh λh=>ao h.1;rw[aH]
  repeat' ((first|refine gv ?_ ?_|refine gw ?_ ?_|refine cf ?_ ?_|refine dj ?_ ?_)<;>intro aw<;>(have ak:=aw;try simp only[bC] at ak)<;>(first|omega| (simp only[go_sem,aw,AG,C0];clear aw)))
  all_goals exact aKG rfl ⟨rfl,rfl⟩
 have d:¬(I.size:Int)<1:=by omega
 have G:¬(I.size:Int)>24:=by omega
 simp only[go_sem,d,G];refine dN (λD r=> ∃c:Nat,c<=I.size/\(∀j,j<c->AS (AR I j) j)/\D=[(0,.str I),(16,.int .i64 I.size),(17,.int .i64 c)]/\r=[])
  (λD _=>match bs D 17 with| .int _ j=>(I.size-j).toNat|_=>0) ?_ ?_
 ·exact i ⟨0,by omega,λj hj=>by omega,rfl,rfl⟩
 ·rintro D r ⟨c,av,hall,rfl,rfl⟩;have aP:=dB (c:=c) (by omega);simp only[go_sem,AG,C0];refine cf ?_ ?_<;>intro ct<;>simp only[bC] at ct<;>simp only[go_sem,AG,C0]
  ·refine⟨by omega,by omega,?_⟩
   try simp only[aKX]
   have af:AR I c=(I.data.getD c 0).toNat:=rfl;rw[<-af];clear af d G;have qR:¬AS (AR I c) c->decide (vo I)=false:=λh=>aLh λcR=>h (cR.2 c (by omega));have mD:AS (AR I c) c-> ∀j,j<c+1->AS (AR I j) j:=λh j hj=>by
    by_cases lL:j=c
    ·subst lL;exact h
    ·exact hall j (by omega)
   clear hall;generalize AR I c=J at qR mD ⊢;simp only[AS] at qR mD
   repeat' ((first|refine gv ?_ ?_|refine gw ?_ ?_|refine cf ?_ ?_|refine dj ?_ ?_)<;>intro aw<;>(have ak:=aw;try simp only[bC] at ak)<;>(first|omega| (simp only[go_sem,aw,AG,C0,aP];clear aw)))
   all_goals first
    | (refine aKG rfl ⟨?_,rfl⟩;rw[qR (by omega)];done)
    | (refine i ⟨⟨c+1,by omega,mD (by omega),rfl,rfl⟩,?_⟩;simp only[go_sem];omega)
  ·refine aKG rfl ⟨?_,rfl⟩;rw[aLf];exact⟨ao,λj hj=>hall j (by omega)⟩
def jT:Int->List kr->Bool
 |_,[]=>true
 |b,x::aq=>decide (vo x.name)&&(decide (b<x.after)&&(decide (x.after<=10080)&&jT x.after aq))
theorem aDi {b:Int}{l:List kr}{c:Nat}(h:c<l.length):jT b (l.drop c)=(decide (vo l[c].name)&&(decide (b<l[c].after)&&(decide (l[c].after<=10080)&&jT l[c].after (l.drop (c+1))))):=by
 rw[aL4 h,jT]
theorem ahe (l:List kr)(hl:l.length<=1000):aO prog 193 [.pure 2 (ai l)] [] (λv rs=>v= .bool (jT (-1) l)/\rs=[]):=by
 refine cu func193 aeL (by simp[Ft,I1]) ?_;simp only[go_sem,Ft,I1];refine dN (λD r=> ∃(c:Nat) (b:Int),c<=l.length/\jT (-1) l=jT b (l.drop c)/\D=[(3,.int .i64 b),(6,.pure 2 (ai l)),(7,.int .i64 l.length),(8,.int .i64 c)]/\r=[])
  (λD _=>match bs D 8 with| .int _ j=>(l.length-j).toNat|_=>0) ?_ ?_
 ·exact i ⟨0,-1,by omega,rfl,rfl,rfl⟩
 ·rintro D r ⟨c,b,av,ay,rfl,rfl⟩;have aP:=dB (c:=c) (by omega);simp only[go_sem,Ft,I1];refine cf ?_ ?_<;>intro ct<;>simp only[bC] at ct<;>simp only[go_sem,Ft,I1]
  ·have aI:c<l.length:=by omega
   refine⟨by omega,by omega,?_⟩
   try simp only[aKX]
   rw[aDi aI] at ay;rw[cT aI];generalize l[c]=x at ay ⊢;simp only[go_sem,Nu];refine bM (CZ x.name) rfl rfl ?_;simp only[go_sem]
   by_cases d:vo x.name
   rotate_left
   ·simp only[go_sem,d];exact aKG rfl ⟨by rw[ay];simp[d],rfl⟩
   by_cases G:x.after<=b
   ·simp only[go_sem,d,G];exact aKG rfl ⟨by rw[ay];simp;omega,rfl⟩
   have px:b<x.after:=by omega
   by_cases au:10080<x.after
   ·simp only[go_sem,d,G,au,aOx];exact aKG rfl ⟨by rw[ay];simp;omega,rfl⟩
   have yg:x.after<=10080:=by omega
   simp only[go_sem,d,G,au,aP,aOx];simp only[d,px,yg,aNx,aLw] at ay;refine aMd [] [] rfl rfl rfl ?_;simp only[go_sem];refine i ⟨⟨c+1,x.after,by omega,ay,rfl,rfl⟩,?_⟩;simp only[go_sem];omega
  ·obtain rfl:c=l.length:=by omega
   refine aKG rfl ⟨?_,rfl⟩;rw[ay,aLF];rfl
structure ib where
 ef:ByteArray
 eN:List kr
 gL:List kr
def lA (aF:ib):Int:=if 16<aF.eN.length\/16<aF.gL.length then 3 else if vo aF.ef/\jT (-1) aF.eN=true/\jT (-1) aF.gL=true then 0 else 1
def ib.v (aF:ib):F:= .agg [.str aF.ef,.pure 2 (ai aF.eN),.pure 2 (ai aF.gL)]
theorem lQ (aF:ib):aO prog 109 [aF.v] [] (λv rs=>v= .int .i64 (lA aF)/\rs=[]):=by
 refine cu func109 adA (by simp[MZ,Ts]) ?_;unfold lA;simp only[go_sem,MZ,Ts,ib.v]
 by_cases d: (aF.eN.length:Int)>16
 ·simp only[go_sem,d];exact aKG rfl ⟨by rw[Rc (by omega)],rfl⟩
 by_cases G: (aF.gL.length:Int)>16
 ·simp only[go_sem,d,G];exact aKG rfl ⟨by rw[Rc (by omega)],rfl⟩
 simp only[go_sem,d,G];rw[S (by omega)];refine bM (CZ _) rfl rfl ?_;simp only[go_sem]
 by_cases au:vo aF.ef
 rotate_left
 ·simp only[go_sem,au];exact aKG rfl ⟨by rw[S (by simp[au])],rfl⟩
 simp only[go_sem,au];refine bM (ahe _ (by omega)) rfl rfl ?_;rcases bv:jT (-1) aF.eN with _|_
 ·simp only[go_sem];exact aKG rfl ⟨by rw[S (by simp)],rfl⟩
 simp only[go_sem];refine bM (ahe _ (by omega)) rfl rfl ?_;rcases cx:jT (-1) aF.gL with _|_
 ·simp only[go_sem];exact aKG rfl ⟨rfl,rfl⟩
 ·simp only[go_sem];exact aKG rfl ⟨rfl,rfl⟩
def iB (a b:Int):Prop:=0<=a/\a<b/\b<=120968640
instance (a b:Int):Decidable (iB a b):=inferInstanceAs (Decidable (0<=a/\a<b/\b<=120968640))
theorem ahf (a b:Int):aO prog 194 [.agg [.int .i64 a,.int .i64 b]] [] (λv rs=>v= .bool (decide (iB a b))/\rs=[]):=by
 refine cu func194 aeM (by simp[IF,Nw]) ?_;simp only[go_sem,IF,Nw]
 repeat' ((first|refine gv ?_ ?_|refine gw ?_ ?_|refine cf ?_ ?_|refine dj ?_ ?_)<;>intro aw<;>(have ak:=aw;try simp only[bC] at ak)<;>(first|omega| (simp only[go_sem,aw,IF,Nw];clear aw)))
 all_goals ((refine aKG rfl ⟨aKI F.bool ?_,rfl⟩;rw[aL0];simp only[bC,aLK,aMI,aN1,aOv,aOw,aMi,aMh] at *;try simp only[iB] at *;omega))
def iF:Nat->List kr->Int->Int×Int
 |k,[],_=>((k:Int)-1,100000)
 |k,b::dl,n=>if n<b.after then ((k:Int)-1,b.after-n) else iF (k+1) dl n
theorem aDj {k:Nat}{l:List kr}{n:Int}{c:Nat}(h:c<l.length):iF k (l.drop c) n=if n<l[c].after then ((k:Int)-1,l[c].after-n) else iF (k+1) (l.drop (c+1)) n:=by
 rw[aL4 h,iF]
theorem ahg:∀{b:Int} {l:List kr},jT b l=true-> ∀c (h:c<l.length),b<l[c].after/\l[c].after<=10080
 |b,[],_,c,h=>by simp at h
 |b,x::aq,af,c,h=>by
  simp only[jT,aKJ,aKN] at af;cases c with
  |zero=>exact⟨af.2.1,af.2.2.1⟩
  |succ c=>have:=ahg af.2.2.2 c (by simpa using h);simp only[aQe];omega
theorem ahh (l:List kr)(hl:l.length<=16)(af:jT (-1) l=true)(n:Int)(aH:0<=n)(Ay:n<=1000000000000):aO prog 197 [.pure 2 (ai l),.int .i64 n] [] (λv rs=>v= .bo [.int .i64 (iF 0 l n).1,.int .i64 (iF 0 l n).2]/\rs=[]):=by
 refine cu func197 aeP (by simp[Fu,I2]) ?_;simp only[go_sem,Fu,I2];refine dN (λD r=> ∃c:Nat,c<=l.length/\iF 0 l n=iF c (l.drop c) n/\D=[(0,.pure 2 (ai l)),(1,.int .i64 n),(8,.pure 2 (ai l)),(9,.int .i64 l.length),(10,.int .i64 c)]/\r=[])
  (λD _=>match bs D 10 with| .int _ j=>(l.length-j).toNat|_=>0) ?_ ?_
 ·exact i ⟨0,by omega,rfl,rfl,rfl⟩
 ·rintro D r ⟨c,av,ay,rfl,rfl⟩;have aP:=dB (c:=c) (by omega);simp only[go_sem,Fu,I2];refine cf ?_ ?_<;>intro ct<;>simp only[bC] at ct<;>simp only[go_sem,Fu,I2]
  ·have aI:c<l.length:=by omega
   refine⟨by omega,by omega,?_⟩
   try simp only[aKX]
   rw[aDj aI] at ay;have aj:=ahg af c aI;rw[cT aI];generalize l[c]=x at ay aj ⊢;simp only[go_sem,Nu]
   by_cases d:n<x.after
   ·rw[Rc d] at ay;simp only[go_sem,d,aOx];rw[bl (x:=(c:Int)-1),bl (x:=x.after-n)];exact aKG rfl ⟨by rw[ay],rfl⟩
   ·rw[S d] at ay;simp only[go_sem,d,aP,aOx];refine aMd [] [] rfl rfl rfl ?_;simp only[go_sem];refine i ⟨⟨c+1,by omega,ay,rfl,rfl⟩,?_⟩;simp only[go_sem];omega
  ·obtain rfl:c=l.length:=by omega
   rw[aLF] at ay;rw[bl (x:=(l.length:Int)-1)];exact aKG rfl ⟨by rw[ay];rfl,rfl⟩
def ev (aD:List (Int×Int))(k:Int):Int:=(Abs.iw aD k).getD 0
theorem aDk {aD:List (Int×Int)}{k:Int}: ((Abs.iw aD k).map (λx=>F.int .i64 x)).getD (.int .i64 0)= .int .i64 (ev aD k):=by
 unfold ev;cases Abs.iw aD k<;>rfl
theorem FF {aD:List (Int×Int)}{k v br:Int}:ev (jb k v aD) br=if br=k then v else ev aD br:=by
 unfold ev;rw[Abs.Xa];split<;>rfl
attribute [go_sem] aDk
def sK (aF:ib)(aD W:List (Int×Int))(aa:List cF):List Z:=
 [.ag 214 6 [[.str aF.ef,.pure 2 (ai aF.eN),.pure 2 (ai aF.gL),.bE 1,.bE 2,.own 3 aa.length 0 aa.length]],.be (.map false [.int .i64] (xX aD)),.be (.map false [.int .i64] (xX W)),.ag 221 4 (ai aa)]
instance:Inhabited kr:=⟨⟨⟨#[]⟩,0⟩⟩
def AT (l:List kr)(c:Int):ByteArray:=(l.getD c.toNat default).name
def jh (ah:Int):Int:=ah-(ah+3)%7
def lT (aF:ib)(aD W:List (Int×Int))(ah most:Int):ByteArray×Int×List (Int×Int)×List (Int×Int):=
 let f:=iF 0 aF.eN (ev aD ah)
 let n:=min f.2 most
 if 0<=f.1 then (AT aF.eN f.1,n,jb ah (ev aD ah+n) aD,W)
 else
  let g:=iF 0 aF.gL (ev W (jh ah))
  let lq:=min n g.2
  (if 0<=g.1 then AT aF.gL g.1 else aF.ef,lq,jb ah (ev aD ah+lq) aD,jb (jh ah) (ev W (jh ah)+lq) W)
theorem I3:∀{l:List kr} {b:Int} (k:Nat) {n:Int},jT b l=true->0<=n->(k:Int)-1<=(iF k l n).1/\(iF k l n).1<k+l.length/\1<=(iF k l n).2/\(iF k l n).2<=100000
 | [],b,k,n,_,_=>by simp only[iF,aLQ];omega
 |x::aq,b,k,n,af,aH=>by
  simp only[jT,aKJ,aKN] at af;rw[iF];split
  ·simp only[aK8];omega
  ·have:=I3 (l:=aq) (k+1) af.2.2.2 aH;simp only[aK8];omega
structure Tt (aF:ib):Prop where
 B:aF.eN.length<=16
 w:aF.gL.length<=16
 ia:jT (-1) aF.eN=true
 Tu:jT (-1) aF.gL=true
theorem aDl (aF:ib)(dc:Tt aF)(aD W:List (Int×Int))(aa:List cF)(ah most:Int)(h0:0<=ah)(d:ah<=84005)(G:1<=most)(au:most<=1000000000)
 (fC:0<=ev aD ah) (aKh:ev aD ah<=100000000000) (hW:0<=ev W (jh ah)) (yq:ev W (jh ah)<=100000000000):
 aO prog 111 [.bd 0 1 0 0,.int .i64 ah,.int .i64 most] (sK aF aD W aa)
  (λv rs=>v= .bo [.str (lT aF aD W ah most).1,.int .i64 (lT aF aD W ah most).2.1]/\rs=sK aF (lT aF aD W ah most).2.2.1 (lT aF aD W ah most).2.2.2 aa):=by
 refine cu func111 adC (by simp[M0,Tv]) ?_;have ahi:=I3 0 dc.ia fC;have ahj:=I3 0 dc.Tu hW;have yG:=ahh aF.eN dc.B dc.ia (ev aD ah) fC (by omega);have Ae:=ahh aF.gL dc.w dc.Tu (ev W (jh ah)) hW (by omega);unfold lT sK;simp only[go_sem,M0,Tv];refine gG yG rfl rfl ?_;clear yG;generalize iF 0 aF.eN (ev aD ah)=f at ahi ⊢;obtain⟨c,n⟩:=f;simp only at ahi ⊢;simp only[go_sem]
 by_cases av:c≥0
 ·have Dz:0<=c:=av;rw[Rc Dz];have aI:c.toNat<aF.eN.length:=by omega
  have eR: (ai aF.eN).getD c.toNat []=[.str (AT aF.eN c),.int .i64 (aF.eN.getD c.toNat default).after]:=by
   rw[cT aI,Nu,AT,aLn,aKS aI,aMW]
  simp only[go_sem,av,eR];rw[bl (x:=ev aD ah+min n most)];refine⟨by omega,?_⟩;exact i ⟨rfl,rfl⟩
 ·have Dz:¬0<=c:=av;rw[S Dz];have aDm:IntKind.i64.wrap (ah-(IntKind.i64.wrap (ah+3)).tmod 7)=jh ah:=by
   rw[bl (x:=ah+3),aMC (by omega),bl,jh]
  simp only[go_sem,av,aDm];refine⟨by decide,?_⟩;refine gG Ae rfl rfl ?_;clear Ae;generalize iF 0 aF.gL (ev W (jh ah))=g at ahj ⊢;obtain⟨j,m⟩:=g;simp only at ahj ⊢;simp only[go_sem];rw[bl (x:=ev aD ah+min (min n most) m),bl (x:=ev W (jh ah)+min (min n most) m)]
  by_cases hj:j≥0
  ·have oo:0<=j:=hj;rw[Rc oo];have aI:j.toNat<aF.gL.length:=by omega
   have eR: (ai aF.gL).getD j.toNat []=[.str (AT aF.gL j),.int .i64 (aF.gL.getD j.toNat default).after]:=by
    rw[cT aI,Nu,AT,aLn,aKS aI,aMW]
   simp only[go_sem,hj,eR];refine⟨by omega,?_⟩;exact i ⟨rfl,rfl⟩
  ·have oo:¬0<=j:=hj;rw[S oo];simp only[go_sem,hj];exact i ⟨rfl,rfl⟩
def ez (a b:ByteArray):Bool:=a.toList==b.toList
def uf (p q:cF):Bool:=decide (p.ah=q.ah)&&(ez p.ep q.ep&&decide (p.ab=q.R))
def fI (aa:List cF)(q:cF):List cF:=
 match aa.getLast? with
 |some p=>if uf p q then aa.dropLast++[{p with ab:=q.ab}] else aa++[q]
 |none=> [q]
theorem aDn (aF:ib)(aD W:List (Int×Int))(aa:List cF)(q:cF)(hl:aa.length<=1000000000):
 aO prog 112 [.bd 0 1 0 0,.agg (aJ.J q)] (sK aF aD W aa) (λv rs=>v= .bo []/\rs=sK aF aD W (fI aa q)):=by
 refine cu func112 adD (by simp[M1,Tw]) ?_;unfold sK;simp only[go_sem,M1,Tw,Ah]
 by_cases h0:aa=[]
 ·subst h0;simp only[go_sem,Nv]
  (refine E.bB [some 0,some 1,some 2,some 3] ?_;simp only[go_sem])
  exact i ⟨rfl,rfl⟩
 ·have iG:0<aa.length:=aNL.2 h0;have aw: (aa.length:Int)>0:=by omega
  have aP:IntKind.i64.wrap ((aa.length:Int)-1)=((aa.length-1:Nat):Int):=by rw[bl];omega
  obtain⟨p,ak⟩:∃p,aa.getLast?=some p:=⟨_,List.getLast?_eq_some_getLast h0⟩;have aI:aa.length-1<aa.length:=by omega
  have eR: (ai aa).getD (aa.length-1) []=[.int .i64 p.ah,.int .i64 p.R,.int .i64 p.ab,.str p.ep]:=by
   rw[cT aI];have:aa[aa.length-1]=p:=by
    rw[aPl,aKS aI] at ak;exact aMY ak
   rw[this,Ah]
  simp only[go_sem,aw,aP];refine⟨by omega,by omega,?_⟩
  try simp only[aKX]
  simp only[go_sem,eR]
  by_cases d:p.ah=q.ah
  rotate_left
  ·have ii: (p.ah==q.ah)=false:=by simp[d]
   have kI:fI aa q=aa++[q]:=by rw[fI,ak];simp[uf,d]
   simp only[go_sem,ii,eR,Nv];refine⟨by omega,?_⟩;rw[kI]
   (refine E.bB [some 0,some 1,some 2,some 3] ?_;simp only[go_sem])
   exact i ⟨rfl,by simp⟩
  have ii: (p.ah==q.ah)=true:=by simp[d]
  rcases G:ez p.ep q.ep with _|_
  ·have px: (p.ep.toList==q.ep.toList)=false:=G;have kI:fI aa q=aa++[q]:=by rw[fI,ak];simp[uf,G]
   simp only[go_sem,ii,px,eR,Nv];refine⟨by omega,?_⟩;rw[kI]
   (refine E.bB [some 0,some 1,some 2,some 3] ?_;simp only[go_sem])
   exact i ⟨rfl,by simp⟩
  have px: (p.ep.toList==q.ep.toList)=true:=G
  by_cases au:p.ab=q.R
  rotate_left
  ·have yg: (p.ab==q.R)=false:=by simp[au]
   have kI:fI aa q=aa++[q]:=by rw[fI,ak];simp[uf,au]
   simp only[go_sem,ii,px,yg,eR,Nv];refine⟨by omega,?_⟩;rw[kI]
   (refine E.bB [some 0,some 1,some 2,some 3] ?_;simp only[go_sem])
   exact i ⟨rfl,by simp⟩
  have yg: (p.ab==q.R)=true:=by simp[au]
  have kI:fI aa q=aa.set (aa.length-1) {p with ab:=q.ab}:=by
   rw[fI,ak];simp only[uf,d,G,au,aNx,aK4,aK5];rw[List.dropLast_eq_take,List.set_eq_take_append_cons_drop,Rc aI,aP3 (by omega)]
  simp only[go_sem,ii,px,yg,eR];rw[kI];have mc: (ai aa).set (aa.length-1) [.int .i64 p.ah,.int .i64 p.R,.int .i64 q.ab,.str p.ep]=ai (aa.set (aa.length-1) {p with ab:=q.ab}):=xS (x:= {p with ab:=q.ab});rw[mc]
  (refine E.bB [some 0,some 1,some 2,some 3] ?_;simp only[go_sem])
  exact i ⟨rfl,by simp⟩
def qb (w:fv):List ga:=w.gM.map λv=>⟨w.ah,v.R,v.ab⟩
def gU (al:List fv):List ga:=al.flatMap qb
def pg (a b:ga):Prop:=a.ab<=b.R\/b.ab<=a.R
def wV (w:fv):Prop:=(0<=w.ah/\w.ah<=84005)/\ ∀v∈w.gM,iB v.R v.ab
def hz:List ga->Int
 | []=>0
 |I::bV=>I.ab-I.R+hz bV
theorem ahk:∀(a b:List ga),hz (a++b)=hz a+hz b
 | [],b=>by simp[hz]
 |x::a,b=>by simp only[aLx,hz,ahk a b];omega
theorem Il {a b:List ga}(h:a.Perm b):hz a=hz b:=by
 induction h with
 |nil=>rfl
 |cons x _ ih=>simp only[hz,ih]
 |swap x y l=>simp only[hz];omega
 |trans _ _ GD DC=>exact GD.trans DC
open Classical in
noncomputable def ew (al:List fv):Int:=
 if 1024<al.length then 3
 else if ∃w∈al,1024<w.gM.length then 3
 else if ¬ ∀w∈al,wV w then 1
 else if ¬(gU al).Pairwise pg then 1
 else if 100000<hz (gU al) then 3
 else 0
theorem aDo {a b:ga}(h:pg a b):pg b a:=by unfold pg at *;omega
theorem ahl {a b:List ga}(h:a.Perm b):a.Pairwise pg↔b.Pairwise pg:=h.pairwise_iff (λh=>aDo h)
theorem aDp {al:List fv}{c:Nat}(h:c<al.length):gU (al.take (c+1))=gU (al.take c)++qb al[c]:=by
 unfold gU;rw[aMP,aKS h,aNu,aMS];simp
theorem aDq {w:fv}{j:Nat}(h:j<w.gM.length): (qb w).take (j+1)=(qb w).take j++[⟨w.ah,w.gM[j].R,w.gM[j].ab⟩]:=by
 unfold qb;rw[aMP,aLG,aKS h];rfl
theorem ahm {w:fv}: (qb w).length=w.gM.length:=by simp[qb]
theorem ahn {al:List fv}{I:ga}:I∈gU al↔ ∃w∈al,∃v∈w.gM,I=⟨w.ah,v.R,v.ab⟩:=by
 unfold gU qb;rw[aM1];constructor
 ·rintro⟨w,aP,h⟩;obtain⟨v,an,rfl⟩:=aKZ.1 h;exact⟨w,aP,v,an,rfl⟩
 ·rintro⟨w,aP,v,an,rfl⟩;exact⟨w,aP,aKZ.2 ⟨v,an,rfl⟩⟩
def sE (Rd:List ga):Prop:=Rd.Pairwise λa b=>a.ab<=b.R
theorem aDr {Rd:List ga}(h:sE Rd):Rd.Pairwise pg:=h.imp λh=> .inl h
theorem aho {Rd:List ga}{c:Nat}(av:c<Rd.length)(h:sE (Rd.take c))(an:∀I∈Rd,iB I.R I.ab)(d:∀(h0:0<c),(Rd[c-1]'(by omega)).ab<=Rd[c].R):sE (Rd.take (c+1)):=by
 unfold sE at *;rw[aMP,aKS av,aNu,aMo];refine⟨h,by simp,λa aC b af=> ?_⟩;rw[aK2] at af;subst af;obtain⟨k,O,rfl⟩:=aL9 aC;rw[aLd] at O;have aKi:k<c:=by omega
 have bF: (Rd.take c)[k]'(by rw[aLd];omega)=Rd[k]'(by omega):=aOc;rw[bF];have JT:=d (by omega)
 by_cases gO:k=c-1
 ·subst gO;exact JT
 ·rw[aN4] at h;have:=h k (c-1) (by rw[aLd];omega) (by rw[aLd];omega) (by omega);rw[aOc,aOc] at this;have nD:=an (Rd[c-1]'(by omega)) (aLc _);unfold iB at nD;omega
theorem aDs {Rd:List ga}(an:∀I∈Rd,iB I.R I.ab):0<=hz Rd/\hz Rd<=120968640*Rd.length:=by
 induction Rd with
 |nil=>simp[hz]
 |cons I Rd ih=>
  have d:=ih λx aj=>an x (aK1 _ aj);have G:=an I aLa;unfold iB at G;simp only[hz,aK8];omega
theorem Tx:∀{al:List fv},(∀w∈al,w.gM.length<=1024)->(gU al).length<=1024*al.length
 | [],_=>by simp[gU]
 |w::al,h=>by
  have d:=Tx λx aj=>h x (aK1 _ aj);have G:=h w aLa;have:gU (w::al)=qb w++gU al:=rfl;rw[this,aKK,ahm,aK8];omega
def aDt (al:List fv)(v:F)(rs:List Z):Prop:=
 (ew al≠0/\v= .bo [.bH,.int .i64 (ew al)]/\rs=[])\/
 (ew al=0/\ ∃Rd:List ga,Rd.Perm (gU al)/\sE Rd/\v= .bo [.own 0 Rd.length 0 Rd.length,.int .i64 0]/\rs=[.ag 216 3 (ai Rd)])
set_option maxHeartbeats 1000000 in
theorem LH (al:List fv)(oY:al.length<=9223372036854775806):aO prog 110 [.pure 2 (ai al)] [] (aDt al):=by
 refine cu func110 adB (by simp[ub,vt]) ?_;simp only[go_sem,ub,vt]
 by_cases d: (al.length:Int)>1024
 ·have he:ew al=3:=by unfold ew;rw[Rc (by omega)]
  simp only[go_sem,d];exact aKG rfl (.inl ⟨by rw[he];decide,by rw[he],rfl⟩)
 simp only[go_sem,d];refine dN (λD r=> ∃c:Nat,c<=al.length/\(∀j (hj:j<c) (hl:j<al.length),al[j].gM.length<=1024)/\D=[(0,.pure 2 (ai al)),(17,.pure 2 (ai al)),(18,.int .i64 al.length),(19,.int .i64 c)]/\r=[])
  (λD _=>match bs D 19 with| .int _ j=>(al.length-j).toNat|_=>0) ?_ ?_
 ·exact i ⟨0,by omega,λj hj=>by omega,rfl,rfl⟩
 ·rintro D r ⟨c,av,hall,rfl,rfl⟩;have aP:=dB (c:=c) (by omega);simp only[go_sem,ub,vt];refine cf ?_ ?_<;>intro ct<;>simp only[bC] at ct<;>simp only[go_sem,ub,vt]
  ·have aI:c<al.length:=by omega
   refine⟨by omega,by omega,?_⟩
   try simp only[aKX]
   rw[cT aI];simp only[go_sem,aha]
   by_cases G: (al[c].gM.length:Int)>1024
   ·have he:ew al=3:=by
     unfold ew;rw[S (by omega),Rc ⟨al[c],aLc _,by omega⟩]
    simp only[go_sem,G];exact aKG rfl (.inl ⟨by rw[he];decide,by rw[he],rfl⟩)
   ·simp only[go_sem,G,aP];refine aMd [] [] rfl rfl rfl ?_;simp only[go_sem];refine i ⟨⟨c+1,by omega,λj hj hl=> ?_,rfl,rfl⟩,?_⟩
    ·by_cases lL:j=c
     ·subst lL;omega
     ·exact hall j (by omega) hl
    ·simp only[go_sem];omega
  have cK:∀w∈al,w.gM.length<=1024:=by
   intro w aP;obtain⟨j,hj,rfl⟩:=aL9 aP;exact hall j (by omega) hj
  have dp:ew al=(open Classical in if ¬ ∀w∈al,wV w then 1 else if ¬(gU al).Pairwise pg then 1 else if 100000<hz (gU al) then 3 else 0):=by
   unfold ew;rw[S (by omega),S (fun⟨w,aP,h⟩=>by have:=cK w aP;omega)]
  have lj:=Tx cK;clear hall;refine dN (λD r=> ∃c:Nat,c<=al.length/\(∀j (hj:j<c) (hl:j<al.length),wV al[j])/\D=[(6,.own 0 (gU (al.take c)).length 0 (gU (al.take c)).length),(28,.pure 2 (ai al)),(29,.int .i64 al.length),(30,.int .i64 c)]/\r=[.ag 216 3 (ai (gU (al.take c)))])
   (λD _=>match bs D 30 with| .int _ j=>(al.length-j).toNat|_=>0) ?_ ?_
  ·(refine E.iv 6 216 3 rfl (E.eW [6,28,29,30] ?_);simp only[go_sem])
   exact i ⟨0,by omega,λj hj=>by omega,rfl,rfl⟩
  rintro D r ⟨c,av,hall,rfl,rfl⟩;have aP:=dB (c:=c) (by omega);simp only[go_sem,ub,vt];refine cf ?_ ?_<;>intro ct<;>simp only[bC] at ct<;>simp only[go_sem,ub,vt]
  ·have aI:c<al.length:=by omega
   refine⟨by omega,by omega,?_⟩
   try simp only[aKX]
   rw[cT aI];have hN:=aDp aI;have qR:¬wV al[c]->ew al=1:=λh=>by rw[dp,Rc (λcR=>h (cR _ (aLc _)))]
   have sF:=cK al[c] (aLc _);have oa: (gU (al.take c)).length<=1024*1024:=by
    have:=Tx (al:=al.take c) λw aP=>cK w (aMl aP);have G:=List.length_take_le c al;have au: (al.take c).length<=1024:=by rw[aLd];omega
    omega
   have aA:wV al[c]-> ∀j (hj:j<c+1) (hl:j<al.length),wV al[j]:=λh j hj hl=>by
    by_cases lL:j=c
    ·subst lL;exact h
    ·exact hall j (by omega) hl
   generalize al[c]=w at hN qR sF aA ⊢;generalize eZ:gU (al.take c)=X at *;simp only[go_sem,aha]
   by_cases ay:w.ah<0\/84005<w.ah
   ·have he:=qR (λh=>by have:=h.1;omega);rcases ay with ay|ay
    ·simp only[go_sem,ay];refine aMd [] [] rfl rfl rfl ?_;simp only[go_sem];exact i (.inl ⟨by rw[he];decide,by rw[he];rfl,rfl⟩)
    ·have CY:¬w.ah<0:=by omega
     have AQ:w.ah>84005:=ay;simp only[go_sem,CY,AQ];refine aMd [] [] rfl rfl rfl ?_;simp only[go_sem];exact i (.inl ⟨by rw[he];decide,by rw[he];rfl,rfl⟩)
   have CY:¬w.ah<0:=by omega
   have AQ:¬w.ah>84005:=by omega
   simp only[go_sem,CY,AQ];refine dN (λD r=> ∃j:Nat,j<=w.gM.length/\(∀k (O:k<j) (hl:k<w.gM.length),iB w.gM[k].R w.gM[k].ab)/\D=[(6,.own 0 (X++(qb w).take j).length 0 (X++(qb w).take j).length),(8,.bd 1 1 0 0),(28,.pure 2 (ai al)),(29,.int .i64 al.length),(30,.int .i64 c),(43,.pure 2 (ai w.gM)),(44,.int .i64 w.gM.length),(45,.int .i64 j)]/\r=[.ag 216 3 (ai (X++(qb w).take j)),.ag 62 2 [[.int .i64 w.ah,.pure 2 (ai w.gM)]]])
    (λD _=>match bs D 45 with| .int _ j=>(w.gM.length-j).toNat|_=>0) ?_ ?_
   ·exact i ⟨0,by omega,λk O=>by omega,by simp,by simp⟩
   rintro D r ⟨j,hj,qE,rfl,rfl⟩;have nf:=dB (c:=j) (by omega);simp only[go_sem,ub,vt];refine cf ?_ ?_<;>intro fH<;>simp only[bC] at fH<;>simp only[go_sem,ub,vt]
   ·have ahp:j<w.gM.length:=by omega
    refine⟨by omega,by omega,?_⟩
    try simp only[aKX]
    rw[cT ahp];have ahq:=aDq ahp;have Cu: (X++(qb w).take j).length<=1024*1024+1024:=by rw[aKK,aLd];omega
    have ahr:¬iB w.gM[j].R w.gM[j].ab->ew al=1:=λh=>qR λcR=>h (cR.2 _ (aLc _));have ahs:iB w.gM[j].R w.gM[j].ab-> ∀k (O:k<j+1) (hl:k<w.gM.length),iB w.gM[k].R w.gM[k].ab:=λh k O hl=>by
     by_cases KF:k=j
     ·subst KF;exact h
     ·exact qE k (by omega) hl
    generalize w.gM[j]=u at ahq ahr ahs ⊢;simp only[go_sem,eY];refine bM (ahf _ _) rfl rfl ?_
    by_cases bc:iB u.R u.ab
    ·simp only[go_sem,bc,aC3];refine⟨by rw[aKK] at Cu ⊢;omega,?_⟩;simp only[go_sem,nf];have wF:X++List.take j (qb w)++[⟨w.ah,u.R,u.ab⟩]=X++(qb w).take (j+1):=by rw[ahq,aKT]
     rw[wF]
     (refine E.bB [some 0,some 1] ?_;simp only[go_sem])
     refine i ⟨⟨j+1,by omega,ahs bc,?_,rfl⟩,?_⟩
     ·rw[<-wF];simp;omega
     ·simp only[go_sem];omega
    ·have he:=ahr bc;simp only[go_sem,bc];refine aMd [] [] rfl rfl rfl ?_;simp only[go_sem];exact i (.inl ⟨by rw[he];decide,by rw[he];rfl,rfl⟩)
   ·have nH:wV w:=⟨by omega,λv an=>by
     obtain⟨k,O,rfl⟩:=aL9 an;exact qE k (by omega) O⟩
    have wF:X++List.take j (qb w)=gU (al.take (c+1)):=by
     rw[hN,aLZ (by rw[ahm];omega)]
    rw[wF];simp only[go_sem,aP]
    (refine E.bB [some 0] ?_;simp only[go_sem])
    refine i ⟨⟨c+1,by omega,aA nH,rfl,rfl⟩,?_⟩;simp only[go_sem];omega
  have kv:c=al.length:=by omega
  have yj:∀w∈al,wV w:=by
   intro w aP;obtain⟨j,hj,rfl⟩:=aL9 aP;exact hall j (by omega) hj
  rw[kv,aLb];rw[S (λh=>h yj)] at dp;clear hall kv;have kU:∀I∈gU al,iB I.R I.ab:=by
   intro I ao;obtain⟨w,aP,v,an,rfl⟩:=ahn.1 ao;exact (yj w aP).2 v an
  have aKj: (gU al).length<=1024*1024:=by omega
  (refine fy [0] (aCn (gU al) (by omega)) ?_;rintro _ _ ⟨rfl,Rd,kV,K3,rfl⟩;simp only[go_sem])
  have Ag:=kV.length_eq;have Nx:∀I∈Rd,iB I.R I.ab:=λI ao=>kU I (kV.mem_iff.1 ao)
  replace dp:ew al=(open Classical in if ¬Rd.Pairwise pg then 1 else if 100000<hz Rd then 3 else 0):=by
   rw[dp,Il kV]
   by_cases h:Rd.Pairwise pg
   ·have G:=(ahl kV).1 h;rw[S (λcR:¬List.Pairwise pg (gU al)=>cR G),S (λcR:¬List.Pairwise pg Rd=>cR h)]
   ·have G:¬List.Pairwise pg (gU al):=λcR=>h ((ahl kV).2 cR);rw[Rc G,Rc h]
  rw[<-Ag];clear kU lj cK;refine dN (λD r=> ∃c:Nat,c<=Rd.length/\sE (Rd.take c)/\D=[(6,.own 0 Rd.length 0 Rd.length),(11,.int .i64 (hz (Rd.take c))),(63,.own 0 Rd.length 0 Rd.length),(64,.int .i64 Rd.length),(65,.int .i64 c)]/\r=[.ag 216 3 (ai Rd)])
   (λD _=>match bs D 65 with| .int _ j=>(Rd.length-j).toNat|_=>0) ?_ ?_
  ·exact i ⟨0,by omega,by simp[sE],rfl,rfl⟩
  rintro D r ⟨c,av,AO,rfl,rfl⟩;have aP:=dB (c:=c) (by omega);have so:=aDs (Rd:=Rd.take c) λI ao=>Nx I (aMl ao);have aCc: (Rd.take c).length<=1048576:=by rw[aLd];omega
  simp only[go_sem,ub,vt];refine cf ?_ ?_<;>intro ct<;>simp only[bC] at ct<;>simp only[go_sem,ub,vt]
  ·have aI:c<Rd.length:=by omega
   have aDu: (ai Rd).getD c []=[.int .i64 Rd[c].ah,.int .i64 Rd[c].R,.int .i64 Rd[c].ab]:=by rw[cT aI,No]
   refine⟨by omega,by omega,?_⟩
   try simp only[aKX]
   rw[aDu];have nD:=Nx Rd[c] (aLc _);have Nj:hz (Rd.take (c+1))=hz (Rd.take c)+(Rd[c].ab-Rd[c].R):=by
    rw[aMP,aKS aI,aNu,ahk];simp[hz]
   have gI:IntKind.i64.wrap (hz (Rd.take c)+IntKind.i64.wrap (Rd[c].ab-Rd[c].R))=hz (Rd.take (c+1)):=by
    unfold iB at nD;rw[bl (x:=Rd[c].ab-Rd[c].R),bl,Nj]
   by_cases h0:0<c
   rotate_left
   ·have qo:¬(c:Int)>0:=by omega
    simp only[go_sem,qo,aP,gI]
    (refine E.bB [some 0] ?_;simp only[go_sem])
    refine i ⟨⟨c+1,by omega,aho aI AO Nx (λh=>(h0 h).elim),rfl,rfl⟩,?_⟩;simp only[go_sem];omega
   have qo: (c:Int)>0:=by omega
   have dn:IntKind.i64.wrap ((c:Int)-1)=((c-1:Nat):Int):=by rw[bl];omega
   have Ty:c-1<Rd.length:=by omega
   have FG: (ai Rd).getD (c-1) []=[.int .i64 Rd[c-1].ah,.int .i64 Rd[c-1].R,.int .i64 Rd[c-1].ab]:=by rw[cT Ty,No]
   simp only[go_sem,qo,dn];refine⟨by omega,by omega,?_⟩
   try simp only[aKX]
   rw[FG];simp only[go_sem]
   by_cases vO:Rd[c].R<Rd[c-1].ab
   ·have he:ew al=1:=by
     rw[dp,Rc];intro K4;rw[aN4] at K4 K3;have cH:=K4 (c-1) c Ty aI (by omega);have ff:=K3 (c-1) c Ty aI (by omega);unfold pg at cH;unfold iB at nD;omega
    simp only[go_sem,vO];refine aMd [] [] rfl rfl rfl ?_;simp only[go_sem];exact i (.inl ⟨by rw[he];decide,by rw[he];rfl,rfl⟩)
   ·simp only[go_sem,vO,aP,gI]
    (refine E.bB [some 0] ?_;simp only[go_sem])
    refine i ⟨⟨c+1,by omega,aho aI AO Nx (λh=>by omega),rfl,rfl⟩,?_⟩;simp only[go_sem];omega
  ·obtain rfl:c=Rd.length:=by omega
   rw[aLb] at *;rw[S (λh=>h (aDr AO))] at dp
   by_cases hm:hz Rd>100000
   ·rw[Rc hm] at dp;simp only[go_sem,hm];refine aMd [] [] rfl rfl rfl ?_;simp only[go_sem];exact i (.inl ⟨by rw[dp];decide,by rw[dp];rfl,rfl⟩)
   ·rw[S hm] at dp;simp only[go_sem,hm];exact i (.inr ⟨dp,Rd,kV,AO,rfl,rfl⟩)
theorem TD {k v gA:Int}:∀{aD:List (Int×Int)},jb k v (jb k gA aD)=jb k v aD
 | []=>by simp[jb]
 |p::aD=>by
  rw[jb]
  by_cases h: (k==p.1)=true
  ·rw[Rc h,jb,jb,Rc h];simp
  ·rw[S h,jb,S h,TD,jb,S h]
theorem TE:∀{l:List kr} (k:Nat) {n j:Int},0<=j->j<(iF k l n).2->(iF k l (n+j)).1=(iF k l n).1
 | [],k,n,j,_,_=>rfl
 |b::dl,k,n,j,h0,d=>by
  rw[iF] at d ⊢;rw[iF]
  by_cases h:n<b.after
  ·rw[Rc h] at d ⊢;simp only at d;rw[Rc (by omega)]
  ·rw[S h] at d ⊢;rw[S (by omega)];exact TE (k+1) h0 d
structure TF where
 aD:List (Int×Int)
 W:List (Int×Int)
 aa:List cF
def qc (aF:ib)(aD W:List (Int×Int))(ah:Int):ByteArray×Bool:=
 if 0<=(iF 0 aF.eN (ev aD ah)).1 then (AT aF.eN (iF 0 aF.eN (ev aD ah)).1,false)
 else (if 0<=(iF 0 aF.gL (ev W (jh ah))).1 then AT aF.gL (iF 0 aF.gL (ev W (jh ah))).1 else aF.ef,true)
def C2 (aF:ib)(I:TF)(m:Int×Int):TF:=
 ⟨jb m.1 (ev I.aD m.1+1) I.aD,if (qc aF I.aD I.W m.1).2 then jb (jh m.1) (ev I.W (jh m.1)+1) I.W else I.W,fI I.aa ⟨m.1,m.2,m.2+1,(qc aF I.aD I.W m.1).1⟩⟩
def run (aF:ib)(lk:List (Int×Int)):TF:=lk.foldl (C2 aF) ⟨[],[],[]⟩
def mE (ah R:Int)(n:Nat):List (Int×Int):=(List.range n).map λ(j:Nat)=>(ah,R+j)
def FH (I:ga):List (Int×Int):=mE I.ah I.R (I.ab-I.R).toNat
def kE (Rd:List ga):List (Int×Int):=Rd.flatMap FH
theorem TG (ah R:Int)(n:Nat):mE ah R (n+1)=mE ah R n++[(ah,R+n)]:=by
 unfold mE;rw[aPm,aLU];rfl
theorem aht (ah R:Int)(n:Nat):∀m,mE ah R (n+m)=mE ah R n++mE ah (R+n) m
 |0=>by simp[mE]
 |m+1=>by rw[<-aM9,TG,aht ah R n m,TG,aKT,show R+((n+m:Nat):Int)=R+(n:Int)+(m:Int) from by omega]
theorem TA (ah R:Int)(n:Nat): (mE ah R n).length=n:=by simp[mE]
theorem FI (a:ByteArray):ez a a=true:=by simp[ez]
theorem ahu {aa:List cF}{p q:cF}(ak:aa.getLast?=some p)(h:uf p q=true):fI aa q=aa.dropLast++[{p with ab:=q.ab}]:=by
 unfold fI;rw[ak];simp only;rw[Rc h]
theorem ahv {aa:List cF}{p q:cF}(ak:aa.getLast?=some p)(h:¬uf p q=true):fI aa q=aa++[q]:=by
 unfold fI;rw[ak];simp only;rw[S h]
theorem aDD {aa:List cF}{q wg:cF}(d:q.ah=wg.ah)(G:q.ep=wg.ep)(au:q.ab=wg.R):fI (fI aa q) wg=fI aa {q with ab:=wg.ab}:=by
 obtain⟨B,f,t,b⟩:=q;obtain⟨iy,VZ,tC,eE⟩:=wg;simp only at d G au;subst d;subst G;subst au;have key:∀(aq:List cF) (p:cF),p.ah=B->ez p.ep b=true->p.ab=t->fI (aq++[p]) ⟨B,t,tC,b⟩=aq++[{p with ab:=tC}]:=by
  intro aq p d G au;unfold fI;simp only[List.getLast?_append,List.getLast?_singleton,Option.some_or,uf,d,G,au,aNx,aK4,aK5,List.dropLast_concat]
 cases ak:aa.getLast? with
 |none=>
  have e:aa=[]:=by simpa using ak
  subst e;exact key [] ⟨B,f,t,b⟩ rfl (FI b) rfl
 |some p=>
  by_cases aw:uf p ⟨B,f,t,b⟩=true
  ·have HA:uf p ⟨B,f,tC,b⟩=true:=aw;rw[ahu ak aw,ahu ak HA];simp only[uf,aKJ,aKN] at aw;exact key aa.dropLast {p with ab:=t} aw.1 aw.2.1 rfl
  ·have HA:¬uf p ⟨B,f,tC,b⟩=true:=aw;rw[ahv ak aw,ahv ak HA];exact key aa ⟨B,f,t,b⟩ rfl (FI b) rfl
theorem aDC (aF:ib)(aD W:List (Int×Int))(aa:List cF)(ah most R:Int)(n:Nat)(d:1<=n)(aH: (n:Int)<=(lT aF aD W ah most).2.1):
 (mE ah R n).foldl (C2 aF) ⟨aD,W,aa⟩=⟨jb ah (ev aD ah+n) aD,if (qc aF aD W ah).2 then jb (jh ah) (ev W (jh ah)+n) W else W,fI aa ⟨ah,R,R+n,(lT aF aD W ah most).1⟩⟩:=by
 have af: (lT aF aD W ah most).1=(qc aF aD W ah).1:=by
  unfold lT qc;simp only;split<;>rfl
 have ay: (n:Int)<=(iF 0 aF.eN (ev aD ah)).2:=by
  unfold lT at aH;simp only at aH;split at aH
  ·simp only at aH;omega
  ·simp only at aH;omega
 have nH: (qc aF aD W ah).2=true->(n:Int)<=(iF 0 aF.gL (ev W (jh ah))).2:=by
  unfold lT at aH;unfold qc;simp only at aH;split
  ·intro h;cases h
  ·rename_i h;rw[S h] at aH;simp only at aH;intro _;omega
 rw[af];clear af aH;have ahw:∀j:Nat,j<n-> ∀BM W',ev BM ah=ev aD ah+j->((qc aF aD W ah).2=true->ev W' (jh ah)=ev W (jh ah)+j)->qc aF BM W' ah=qc aF aD W ah:=by
  intro j hj BM W' aDE hW';have bF:=TE (l:=aF.eN) 0 (n:=ev aD ah) (j:=j) (by omega) (by omega);unfold qc at *;rw[aDE,bF]
  by_cases h:0<=(iF 0 aF.eN (ev aD ah)).1
  ·rw[Rc h,Rc h]
  ·rw[S h] at hW' nH ⊢;have bK:=TE (l:=aF.gL) 0 (n:=ev W (jh ah)) (j:=j) (by omega) (by have:=nH rfl;omega);rw[S h,hW' rfl,bK]
 induction n with
 |zero=>omega
 |succ m ih=>
  rw[TG,aMc]
  by_cases hm:m=0
  ·subst hm;simp only[mE,List.range_zero,aLC,aOE,aMb];unfold C2;simp
  ·rw[ih (by omega) (by omega) (λh=>by have:=nH h;omega) (λj hj=>ahw j (by omega))];simp only[aMb,aOE];have aDF:=ahw m (by omega) (jb ah (ev aD ah+m) aD) (if (qc aF aD W ah).2=true then jb (jh ah) (ev W (jh ah)+m) W else W) (by rw[FF,Rc rfl]) (λh=>by rw[Rc h,FF,Rc rfl]);unfold C2;simp only;rw[aDF,FF,Rc rfl,TD,aDD (q:=⟨ah,R,R+m,_⟩) (wg:=⟨ah,R+m,R+m+1,_⟩) rfl rfl rfl];congr 1
   ·congr 1;omega
   ·split
    ·rw[FF,Rc rfl,TD];congr 1;omega
    ·rfl
   ·congr 2;simp only;omega
theorem aDB (aF:ib)(aD W:List (Int×Int))(ah most:Int): (lT aF aD W ah most).2.2.1=jb ah (ev aD ah+(lT aF aD W ah most).2.1) aD/\(lT aF aD W ah most).2.2.2=if (qc aF aD W ah).2 then jb (jh ah) (ev W (jh ah)+(lT aF aD W ah most).2.1) W else W:=by
 unfold lT qc;simp only
 by_cases h:0<=(iF 0 aF.eN (ev aD ah)).1
 ·rw[Rc h,Rc h];simp
 ·rw[S h,S h];simp
theorem aDA {aF:ib}(dc:Tt aF){aD W:List (Int×Int)}{ah most:Int}(fC:0<=ev aD ah)(hW:0<=ev W (jh ah))(hm:1<=most):1<=(lT aF aD W ah most).2.1/\(lT aF aD W ah most).2.1<=most:=by
 have d:=I3 0 dc.ia fC;have G:=I3 0 dc.Tu hW;unfold lT;simp only;split
 ·simp only;omega
 ·simp only;omega
theorem aDG (aa:List cF)(q:cF): (fI aa q).length<=aa.length+1:=by
 unfold fI;split
 ·split
  ·simp;try omega
  ·simp
 ·simp
theorem aDH (aF:ib)(lk:List (Int×Int))(m:Int×Int):run aF (lk++[m])=C2 aF (run aF lk) m:=by
 unfold run;rw[aMc];rfl
theorem aDy (aF:ib)(lk jJ:List (Int×Int)):run aF (lk++jJ)=jJ.foldl (C2 aF) (run aF lk):=by
 unfold run;rw[aMc]
theorem aDI {bj:Type}{P:List bj->Prop}(h0:P [])(d:∀l x,P l->P (l++[x]))(l:List bj):P l:=by
 have:∀n (l:List bj),l.length=n->P l:=by
  intro n
  induction n with
  |zero=>intro l hl;rw[aN5.1 hl];exact h0
  |succ n ih=>
   intro l hl;have hne:l≠ []:=λe=>by rw[e] at hl;simp at hl
   rw[<-List.dropLast_concat_getLast hne];exact d _ _ (ih _ (by rw[List.length_dropLast];omega))
 exact this l.length l rfl
theorem aaL (aF:ib)(lk:List (Int×Int)): (∀k,0<=ev (run aF lk).aD k/\ev (run aF lk).aD k<=lk.length)/\(∀k,0<=ev (run aF lk).W k/\ev (run aF lk).W k<=lk.length)/\(run aF lk).aa.length<=lk.length:=by
 induction lk using aDI with
 |h0=>exact⟨λk=>by simp[run,ev,Abs.iw],λk=>by simp[run,ev,Abs.iw],by simp[run]⟩
 |d lk m ih=>
  obtain⟨d,G,au⟩:=ih;rw[aDH,aKK];unfold C2;refine⟨λk=> ?_,λk=> ?_,?_⟩
  ·simp only[FF];have a:=d k;have b:=d m.1;split<;>simp<;>omega
  ·simp only;have a:=G k;have b:=G (jh m.1);split
   ·rw[FF];split<;>simp<;>omega
   ·simp;omega
  ·simp only;have:=aDG (run aF lk).aa ⟨m.1,m.2,m.2+1,(qc aF (run aF lk).aD (run aF lk).W m.1).1⟩;simp;omega
theorem aDx {Rd:List ga}{c:Nat}(h:c<Rd.length):kE (Rd.take (c+1))=kE (Rd.take c)++FH Rd[c]:=by
 unfold kE;rw[aMP,aKS h,aNu,aMS];simp
theorem Sj:∀{Rd:List ga},(∀I∈Rd,iB I.R I.ab)->((kE Rd).length:Int)=hz Rd
 | [],_=>rfl
 |I::Rd,h=>by
  have d:=Sj (Rd:=Rd) λx aj=>h x (aK1 _ aj);have G:=h I aLa;have:kE (I::Rd)=FH I++kE Rd:=rfl;unfold iB at G;rw[this,aKK,FH,TA,hz];omega
def aDv (aF:ib)(al:List fv)(v:F)(rs:List Z):Prop:=
 (lA aF≠0/\v= .bo [.bH,.int .i64 (lA aF)]/\rs=[])\/
 (lA aF=0/\ew al≠0/\v= .bo [.bH,.int .i64 (ew al)]/\rs=[])\/
 (lA aF=0/\ew al=0/\ ∃Rd:List ga,Rd.Perm (gU al)/\sE Rd/\v= .bo [.own 0 (run aF (kE Rd)).aa.length 0 (run aF (kE Rd)).aa.length,.int .i64 0]/\rs=[.ag 221 4 (ai (run aF (kE Rd)).aa)])
theorem aDw {aF:ib}(h:lA aF=0):Tt aF:=by
 unfold lA at h;split at h
 ·cases h
 ·split at h
  ·rename_i d G;exact⟨by omega,by omega,G.2.1,G.2.2⟩
  ·cases h
theorem Ij {al:List fv}(h:ew al=0):al.length<=1024/\(∀w∈al,w.gM.length<=1024)/\(∀w∈al,wV w)/\(gU al).Pairwise pg/\hz (gU al)<=100000:=by
 unfold ew at h;split at h
 ·cases h
 split at h
 ·cases h
 split at h
 ·cases h
 split at h
 ·cases h
 split at h
 ·cases h
 rename_i d G au bv cx;refine⟨by omega,λw aP=> ?_,by simpa using au,by simpa using bv,by omega⟩;have:¬1024<w.gM.length:=λh=>G ⟨w,aP,h⟩;omega
theorem Ii {al:List fv}(h:∀w∈al,wV w):∀I∈gU al,iB I.R I.ab/\0<=I.ah/\I.ah<=84005:=by
 intro I ao;obtain⟨w,aP,v,an,rfl⟩:=ahn.1 ao;exact⟨(h w aP).2 v an,(h w aP).1⟩
set_option maxHeartbeats 1000000 in
theorem awK (aF:ib)(al:List fv)(oY:al.length<=9223372036854775806):aO prog 41 [aF.v,.pure 2 (ai al)] [] (aDv aF al):=by
 refine cu func41 acE (by simp[AA,C1]) ?_;have hV:=lQ aF;unfold ib.v at *;simp only[go_sem,AA,C1];refine bM hV rfl rfl ?_;simp only[go_sem]
 by_cases an:lA aF=0
 rotate_left
 ·have df: (lA aF != 0)=true:=by simp[an]
  simp only[go_sem,df];exact aKG rfl (.inl ⟨an,rfl,rfl⟩)
 have df: (lA aF != 0)=false:=by simp[an]
 have dc:=aDw an;simp only[go_sem,df];refine om [] [] (by simp) rfl (qw _ (by first|rfl|simp only[go_sem])) (LH al oY) ?_;rintro _ _ (⟨he,rfl,rfl⟩|⟨he,Rd,kV,AO,rfl,rfl⟩)
 ·refine⟨.inl rfl,?_⟩;have Py: (ew al != 0)=true:=by simp[he]
  simp only[go_sem,Py];exact aKG rfl (.inr (.inl ⟨an,he,rfl,rfl⟩))
 refine⟨.inl rfl,?_⟩;obtain⟨_,_,nH,_,Tz⟩:=Ij he;have qE:∀I∈Rd,iB I.R I.ab/\0<=I.ah/\I.ah<=84005:=λI ao=>Ii nH I (kV.mem_iff.1 ao);have zo: ((kE Rd).length:Int)<=100000:=by rw[Sj λI ao=>(qE I ao).1,Il kV];exact Tz
 have Ag:Rd.length<=100000:=by
  have d:∀aW:List ga,(∀I∈aW,iB I.R I.ab)->(aW.length:Int)<=hz aW:=by
   intro aW
   induction aW with
   |nil=>intro _;simp[hz]
   |cons I aW ih=>
    intro h;have a:=ih λx aj=>h x (aK1 _ aj);have b:=h I aLa;unfold iB at b;simp only[hz,aK8];omega
  have:=d Rd λI ao=>(qE I ao).1;rw[Il kV] at this;omega
 simp only[go_sem,aMm];refine dN (λD r=> ∃c:Nat,c<=Rd.length/\D=[(9,.bd 0 1 0 0),(32,.own 4 Rd.length 0 Rd.length),(33,.int .i64 Rd.length),(34,.int .i64 c)]/\r=sK aF (run aF (kE (Rd.take c))).aD (run aF (kE (Rd.take c))).W (run aF (kE (Rd.take c))).aa++[.ag 216 3 (ai Rd)])
  (λD _=>match bs D 34 with| .int _ j=>(Rd.length-j).toNat|_=>0) ?_ ?_
 ·(refine E.oc (.vQ 4 0 5 221 4 rfl (by simp) (by decide) rfl) ?_;simp only[go_sem,fb])
  (refine E.bB [some 4,some 2,some 3,some 5,some 1] ?_;simp only[go_sem])
  exact i ⟨0,by omega,rfl,rfl⟩
 ·rintro D r ⟨c,av,rfl,rfl⟩;have aP:=dB (c:=c) (by omega);unfold sK;simp only[go_sem,AA,C1];refine cf ?_ ?_<;>intro ct<;>simp only[bC] at ct<;>simp only[go_sem,AA,C1]
  ·have aI:c<Rd.length:=by omega
   refine⟨by omega,by omega,?_⟩
   try simp only[aKX]
   rw[cT aI];have hN:=aDx aI;have Ny:=qE Rd[c] (aLc _);have zh: ((kE (Rd.take (c+1))).length:Int)<=100000:=by
    have d: (kE Rd).length=(kE (Rd.take (c+1))).length+(kE (Rd.drop (c+1))).length:=by
     unfold kE;rw[<-aKK,<-aMS,aMt]
    omega
   generalize Rd[c]=I at hN Ny ⊢;generalize kE (Rd.take c)=eO at *;obtain⟨Ny,EN,LF⟩:=Ny;unfold iB at Ny;rw[hN,aKK,FH,TA] at zh;simp only[go_sem,No];refine dN (λD r=> ∃n:Nat,I.R+n<=I.ab/\D=[(9,.bd 0 1 0 0),(11,.bd 5 1 0 0),(12,.int .i64 (I.R+n)),(32,.own 4 Rd.length 0 Rd.length),(33,.int .i64 Rd.length),(34,.int .i64 c)]/\
    r=sK aF (run aF (eO++mE I.ah I.R n)).aD (run aF (eO++mE I.ah I.R n)).W (run aF (eO++mE I.ah I.R n)).aa++[.ag 216 3 (ai Rd),.ag 216 3 [[.int .i64 I.ah,.int .i64 I.R,.int .i64 I.ab]]])
    (λD _=>match bs D 12 with| .int _ j=>(I.ab-j).toNat|_=>0) ?_ ?_
   ·exact i ⟨0,by omega,by simp,by simp[mE,sK]⟩
   rintro D r ⟨n,aH,rfl,rfl⟩;unfold sK;simp only[go_sem,AA,C1];refine cf ?_ ?_<;>intro fH<;>simp only[bC] at fH<;>simp only[go_sem,AA,C1]
   ·have so:=aaL aF (eO++mE I.ah I.R n);rw[aKK,TA] at so;obtain⟨aKU,eJ,lX⟩:=so;have TB:=aKU I.ah;have TC:=eJ (jh I.ah);have re:=λk=>aDy aF (eO++mE I.ah I.R n) (mE I.ah (I.R+n) k);generalize run aF (eO++mE I.ah I.R n)=bw at *;obtain⟨aD,W,aa⟩:=bw;simp only at TB TC lX re ⊢;rw[bl (x:=I.ab-(I.R+n))]
    (refine fy [0,1,2,3] (aDl aF dc aD W aa I.ah (I.ab-(I.R+n)) EN LF (by omega) (by omega) TB.1 (by omega) TC.1 (by omega)) ?_;rintro _ _ ⟨rfl,rfl⟩;simp only[go_sem])
    have aDz:=aDA dc (aD:=aD) (W:=W) (ah:=I.ah) (most:=I.ab-(I.R+n)) TB.1 TC.1 (by omega);obtain⟨m,hm⟩:∃m:Nat,(lT aF aD W I.ah (I.ab-(I.R+n))).2.1=m:=⟨(lT aF aD W I.ah (I.ab-(I.R+n))).2.1.toNat,by omega⟩;have cn:=aDB aF aD W I.ah (I.ab-(I.R+n));have mb:=aDC aF aD W aa I.ah (I.ab-(I.R+n)) (I.R+n) m (by omega) (by omega);rw[<-re m,aKT,<-aht] at mb;rw[hm] at cn aDz ⊢;rw[cn.1,cn.2];generalize (lT aF aD W I.ah (I.ab-(I.R+n))).1=b at mb ⊢;unfold sK;simp only[go_sem];rw[bl (x:=I.R+(n:Int)+m)];have kI:=aDn aF (jb I.ah (ev aD I.ah+m) aD) (if (qc aF aD W I.ah).2=true then jb (jh I.ah) (ev W (jh I.ah)+m) W else W) aa ⟨I.ah,I.R+n,I.R+n+m,b⟩ (by omega);rw[Ah] at kI;unfold sK at kI
    (refine fy [0,1,2,3] (kI) ?_;rintro _ _ ⟨rfl,rfl⟩;simp only[go_sem])
    rw[bl (x:=I.R+(n:Int)+m)];refine i ⟨⟨n+m,by omega,?_,?_⟩,?_⟩
    ·rw[show I.R+((n+m:Nat):Int)=I.R+(n:Int)+(m:Int) from by omega]
    ·rw[mb];first|done|rfl
    ·simp only[go_sem];omega
   ·have G1:n=(I.ab-I.R).toNat:=by omega
    have dp:eO++mE I.ah I.R n=kE (Rd.take (c+1)):=by rw[hN,FH,G1]
    rw[dp];simp only[go_sem,aP]
    (refine E.bB [some 0,some 1,some 2,some 3,some 4] ?_;simp only[go_sem])
    refine i ⟨⟨c+1,by omega,rfl,rfl⟩,?_⟩;simp only[go_sem];omega
  ·obtain rfl:c=Rd.length:=by omega
   rw[aLb]
   (refine E.bB [some 3] ?_;simp only[go_sem])
   exact i (.inr (.inr ⟨an,he,Rd,kV,AO,rfl,rfl⟩))
end Go.Proofs.YtpincjkjoeopkaaGreatDoor.Ib
