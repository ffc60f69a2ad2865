/- Time evaluation. -/
import Derived.Test.YtpincjkjoeopkaaGreatDoorW4
import Derived.Test.YtpincjkjoeopkaaGreatDoorW14
import Derived.Lib.LaidTab
import Derived.WalkKit
import Derived.Test.YtpincjkjoeopkaaGreatDoorRows
import Derived.Lib.LaidU8
import Derived.Test.YtpincjkjoeopkaaGreatDoorW5
set_option linter.all false
namespace Go.Proofs.YtpincjkjoeopkaaGreatDoor
open Go Go.Abs Go.Proofs.Tryz
open Go.RowKit (Below)
def eM:List Int:= [31,28,31,30,31,30,31,31,30,31,30,31]
def js (w:World)(g:Nat)(k:IntKind)(ce:List Int):Prop:= ∃ t M,w.heap[g]? =some (.cells (ce.map fun M=>Value.int k M).toArray t M)
instance:dE where
 B:=False
 n:=1
 H:=fun w=>js w 0 .i64 eM
 oI:=by
  rintro w w' h ⟨t,M,h1⟩;exact⟨t,M,by rw[h 0 (by decide)];exact h1⟩
def zW (d:Int):Bool:=decide (d%4=0)&&(!decide (d%100=0)||decide (d%400=0))
def hZ (d m:Int):Int:=if m=2∧zW d=true then 29 else eM.getD (m-1).toNat 0
theorem kW {w:World}{g:Nat}{k:IntKind}{ce:List Int}(h:js w g k ce){c:Nat}{M:Int}(ba:ce[c]? =some M):w.cell? ⟨g,c,none⟩=some (.int k M):=by
 obtain⟨t,PI,h⟩:=h;unfold World.cell?;simp[h,ba]
def ER (d:Int):Int:=if zW d=true then 29 else 28
theorem YS {d:Int}(h:d%4=0∧(¬d%100=0∨(d%400==0)=true)):ER d=29:=by
 rw[beq_iff_eq] at h;rw[ER,if_pos];simp only[zW,Bool.and_eq_true,Bool.or_eq_true,Bool.not_eq_true',decide_eq_true_eq,decide_eq_false_iff_not];omega
theorem YT {d:Int}(h: ¬d%4=0∨(d%100=0∧(d%400==0)=false)):ER d=28:=by
 rw[beq_eq_false_iff_ne] at h;rw[ER,if_neg];simp only[zW,Bool.and_eq_true,Bool.or_eq_true,Bool.not_eq_true',decide_eq_true_eq,decide_eq_false_iff_not];omega
theorem aur (d:Int)(w:World)(h:js w 0 .i64 eM):Calls prog 255 #[.int .i64 d,.int .i64 1] w fun e w'=>e= .returned (.int .i64 31)∧w'=w:=by
 have ad:=kW h (c:=0) rfl;clear h
 go_enter func255,ntmps255
 go_wp2
 go_ret
 exact⟨rfl,rfl⟩
theorem aus (d:Int)(w:World)(h:js w 0 .i64 eM):Calls prog 255 #[.int .i64 d,.int .i64 3] w fun e w'=>e= .returned (.int .i64 31)∧w'=w:=by
 have ad:=kW h (c:=2) rfl;clear h
 go_enter func255,ntmps255
 go_wp2
 go_ret
 exact⟨rfl,rfl⟩
theorem aut (d:Int)(w:World)(h:js w 0 .i64 eM):Calls prog 255 #[.int .i64 d,.int .i64 4] w fun e w'=>e= .returned (.int .i64 30)∧w'=w:=by
 have ad:=kW h (c:=3) rfl;clear h
 go_enter func255,ntmps255
 go_wp2
 go_ret
 exact⟨rfl,rfl⟩
theorem auu (d:Int)(w:World)(h:js w 0 .i64 eM):Calls prog 255 #[.int .i64 d,.int .i64 5] w fun e w'=>e= .returned (.int .i64 31)∧w'=w:=by
 have ad:=kW h (c:=4) rfl;clear h
 go_enter func255,ntmps255
 go_wp2
 go_ret
 exact⟨rfl,rfl⟩
theorem auv (d:Int)(w:World)(h:js w 0 .i64 eM):Calls prog 255 #[.int .i64 d,.int .i64 6] w fun e w'=>e= .returned (.int .i64 30)∧w'=w:=by
 have ad:=kW h (c:=5) rfl;clear h
 go_enter func255,ntmps255
 go_wp2
 go_ret
 exact⟨rfl,rfl⟩
theorem auw (d:Int)(w:World)(h:js w 0 .i64 eM):Calls prog 255 #[.int .i64 d,.int .i64 7] w fun e w'=>e= .returned (.int .i64 31)∧w'=w:=by
 have ad:=kW h (c:=6) rfl;clear h
 go_enter func255,ntmps255
 go_wp2
 go_ret
 exact⟨rfl,rfl⟩
theorem aux (d:Int)(w:World)(h:js w 0 .i64 eM):Calls prog 255 #[.int .i64 d,.int .i64 8] w fun e w'=>e= .returned (.int .i64 31)∧w'=w:=by
 have ad:=kW h (c:=7) rfl;clear h
 go_enter func255,ntmps255
 go_wp2
 go_ret
 exact⟨rfl,rfl⟩
theorem auy (d:Int)(w:World)(h:js w 0 .i64 eM):Calls prog 255 #[.int .i64 d,.int .i64 9] w fun e w'=>e= .returned (.int .i64 30)∧w'=w:=by
 have ad:=kW h (c:=8) rfl;clear h
 go_enter func255,ntmps255
 go_wp2
 go_ret
 exact⟨rfl,rfl⟩
theorem auz (d:Int)(w:World)(h:js w 0 .i64 eM):Calls prog 255 #[.int .i64 d,.int .i64 10] w fun e w'=>e= .returned (.int .i64 31)∧w'=w:=by
 have ad:=kW h (c:=9) rfl;clear h
 go_enter func255,ntmps255
 go_wp2
 go_ret
 exact⟨rfl,rfl⟩
theorem auA (d:Int)(w:World)(h:js w 0 .i64 eM):Calls prog 255 #[.int .i64 d,.int .i64 11] w fun e w'=>e= .returned (.int .i64 30)∧w'=w:=by
 have ad:=kW h (c:=10) rfl;clear h
 go_enter func255,ntmps255
 go_wp2
 go_ret
 exact⟨rfl,rfl⟩
theorem auB (d:Int)(w:World)(h:js w 0 .i64 eM):Calls prog 255 #[.int .i64 d,.int .i64 12] w fun e w'=>e= .returned (.int .i64 31)∧w'=w:=by
 have ad:=kW h (c:=11) rfl;clear h
 go_enter func255,ntmps255
 go_wp2
 go_ret
 exact⟨rfl,rfl⟩
theorem auC (d:Int)(h0:0≤d)(w:World)(h:js w 0 .i64 eM):Calls prog 255 #[.int .i64 d,.int .i64 2] w fun e w'=>e= .returned (.int .i64 (ER d))∧w'=w:=by
 have ad:=kW h (c:=1) rfl;clear h
 go_enter func255,ntmps255
 go_wp2
 ·rename_i a b J
  go_ret
  exact⟨by rw[YS ⟨a,.inr J⟩];rfl,rfl⟩
 ·rename_i a b J
  go_ret
  exact⟨by rw[YT (.inr ⟨b,J⟩)];rfl,rfl⟩
 ·rename_i a b
  go_ret
  exact⟨by rw[YS ⟨a,.inl b⟩];rfl,rfl⟩
 ·rename_i a
  go_ret
  exact⟨by rw[YT (.inl a)];rfl,rfl⟩
theorem ES (d m:Int)(h0:0≤d)(h1:1≤m)(G:m≤12):aO prog 255 [.int .i64 d,.int .i64 m] [] (fun v rs=>v= .int .i64 (hZ d m)∧rs= []):=by
 refine aO.D2 ?_;rintro C dA N aA ⟨_,_,ht⟩ dv;simp only[aE,Rep] at dv;obtain⟨v1,r1,rfl,rfl,rU,cY,rfl,rfl,rfl⟩:=dv;have key: ∀ {M:Int},hZ d m=M→(Calls prog 255 #[.int .i64 d,.int .i64 m] C.w fun e w'=>e= .returned (.int .i64 M)∧w'=C.w)→
  Calls prog 255 [Value.int .i64 d,.int .i64 m].toArray C.w fun e w'=> ∃ aZ v,e= .returned aZ∧(Below C.w.heap.size C.w w'∧C.w.drawn≤w'.drawn)∧(∀ aB:bD,jB C aB→Rep aB v aZ)∧v= .int .i64 (hZ d m)∧ []=([]:List Z):=by
  intro M ba h;refine h.mono ?_;rintro e w' ⟨rfl,rfl⟩;exact⟨_,.int .i64 M,rfl,⟨Below.refl _ _,Nat.le_refl _⟩,fun aB _=>by rw[Rep],by rw[ba],rfl⟩
 obtain rfl|rfl|rfl|rfl|rfl|rfl|rfl|rfl|rfl|rfl|rfl|rfl:m=1∨m=2∨m=3∨m=4∨m=5∨m=6∨m=7∨m=8∨m=9∨m=10∨m=11∨m=12:=by omega
 ·exact key (by simp[hZ,eM]) (aur d C.w ht)
 ·exact key (by simp[hZ,eM,ER]) (auC d h0 C.w ht)
 ·exact key (by simp[hZ,eM]) (aus d C.w ht)
 ·exact key (by simp[hZ,eM]) (aut d C.w ht)
 ·exact key (by simp[hZ,eM]) (auu d C.w ht)
 ·exact key (by simp[hZ,eM]) (auv d C.w ht)
 ·exact key (by simp[hZ,eM]) (auw d C.w ht)
 ·exact key (by simp[hZ,eM]) (aux d C.w ht)
 ·exact key (by simp[hZ,eM]) (auy d C.w ht)
 ·exact key (by simp[hZ,eM]) (auz d C.w ht)
 ·exact key (by simp[hZ,eM]) (auA d C.w ht)
 ·exact key (by simp[hZ,eM]) (auB d C.w ht)
theorem auD {w:World}{I:String}{B:DataW Unit}(h:Lib.VarReads prog w I B){g:Nat}{t e:TypeId}{n:Nat}{k:IntKind}{ce:List Int}(ay:B=Lib.tabData k ce)
 (aw:prog.globalNamed I=some g) (auE: (prog.globals[g]?).map (·.type)=some t) (ht:prog.underlying t=some (.array n e)) (he:prog.underlying e=some (.int k)) (auF:prog.cellsOf e=1) (QS:prog.cellsOf t=n):js w g k ce:=by
 subst ay;obtain⟨zX,tC,ap,hH,p,HA,auG,HB,auH⟩:=h;obtain rfl:=Option.some.inj (aw.symm.trans HA);obtain rfl:=Option.some.inj (auE.symm.trans auG);have eK:=Lib.cells_of_tab ht he auF QS auH;unfold World.var? at HB;rw[aw,Option.bind_some] at HB;split at HB
 ·rename_i ge cO PI hh;cases HB;refine⟨cO,PI,?_⟩;rw[hh,←eK]
 ·cases HB
set_option maxRecDepth 100000 in
theorem gok_of_laid {w:World}(h:laidMet prog Rows.timesheetLimitsRow.laid w):GOk (ctx0 w):=by
 have h1:js w 0 .i64 eM:=auD (Lib.laidMet.reads h (List.Mem.head _)) (t:=394) (e:=3) (n:=12) (by rfl) (by kernel_rfl) (by kernel_rfl) underlying394 underlying3 (by kernel_rfl) (by kernel_rfl);refine⟨?_,fun b af z J ad=>by simp[ctx0] at ad,h1⟩;obtain⟨t,M,G⟩:=h1;show 1≤w.heap.size;rcases Nat.lt_or_ge 0 w.heap.size with h|h
 ·exact h
 ·rw[Array.getElem?_eq_none h] at G;cases G
def gp (l:List Int)(a:Int):Z:=dX 143 l a
theorem ED (v n:Int)(aH:0 < n)(GS:n≤9223372036854775807):aO prog 10 [.int .i64 v,.int .i64 n] [] (fun z r=>z= .int .i64 (mod v n)∧r= []):=by
 refine cu func10 Ls (by simp[uW,sn]) ?_;simp only[go_sem,uW,sn];refine⟨by omega,?_⟩;have h1:=Int.tmod_lt_of_pos v aH;refine cf ?_ ?_<;>intro aw<;>simp only[go_sem,uW,sn]<;>refine E.bg rfl ⟨?_,rfl⟩<;>simp only[decide_eq_true_eq,decide_eq_false_iff_not] at aw
 ·have G: -n < v.tmod n:=by
   have:=Int.lt_tmod_of_pos v aH;omega
  rw[bl (by omega) (by omega),mod,if_pos aw]
 ·rw[mod,if_neg aw]
theorem atG (l:List Int):aO prog 16 [.pure 1 (cJ .i64 l)] [] (fun z r=>z= .bd 0 1 0 0∧r= [gp l 0]):=by
 refine cu func16 Ye (by simp[Lt,QC]) ?_;simp only[go_sem,Lt,QC];exact E.ac ⟨rfl,rfl⟩
theorem hi (l:List Int)(hl:mW l)(n:Int)(aH:n≤9223372036854775807):BU prog 143 64 [.int .i64 n] l (PR n):=by
 intro az h0 h1;refine cu func64 Lu (by simp[uX,wu]) ?_;simp only[go_sem,uX,wu,dX];have cK:=hl.len
 repeat' ((first|refine gv ?_ ?_|refine gw ?_ ?_|refine cf ?_ ?_|refine dj ?_ ?_)<;>intro aw<;>(have ak:=aw;try simp only[bC] at ak)<;>(first|omega| (simp only[go_sem,aw,uX,wu];clear aw)))
 ·exact E.tape rfl h0 h1 ⟨0,rfl,by omega,by omega⟩
 ·exact E.tape rfl h0 h1 ⟨0,rfl,by omega,by omega⟩
 ·simp (disch:=omega) only[bl,tw,Int.add_sub_cancel];refine⟨by omega,by omega,by simp,?_⟩;simp only[go_sem];refine gG (ED _ _ (by omega) aH) rfl rfl ?_;simp only[go_sem];have af:=PS (v:=l.getD az.toNat 0) (n:=n) (by omega);exact E.tape rfl (by omega) (by omega) ⟨_,rfl,by omega,by omega⟩
theorem ys (l:List Int)(hl:mW l)(aq:List Int)(aj:0 < aq.length)(rY:aq.length≤1000):BV prog 143 3 59 l aq (fun v=> ∃ x,x∈aq∧v= .int .i64 x):=by
 intro az h0 h1;refine cu func59 Lv (by simp[zP,Cg]) ?_;simp only[go_sem,zP,Cg];refine KP (hi l hl _ (by omega)) rfl (by simp) h0 h1 ?_;rintro v a G au ⟨x,rfl,bv,cx⟩;simp only[go_sem];refine⟨by omega,by omega,?_⟩;rw[tw (by omega)];simp only[go_sem];refine E.ac ⟨a,rfl,G,au,rfl,_,?_,rfl⟩;rw[List.getD_eq_getElem?_getD,List.getElem?_eq_getElem (by omega)];simp
structure lv where
 az:Int
 off:Int
def lv.cells (e:lv):List F:= [.int .i64 e.az,.int .i64 e.off]
instance:aJ lv:=⟨lv.cells,2,fun _=>rfl,fun _=>rfl,fun _=>rfl⟩
theorem Hj (e:lv):aJ.J e= [.int .i64 e.az,.int .i64 e.off]:=rfl
theorem atI:aJ.U lv=2:=rfl
theorem atJ (e:lv):List.take 2 (aJ.J e)=aJ.J e:=rfl
attribute [go_sem] atI atJ
theorem atK {l:List lv}{a b:Int}:ai l++ [[.int .i64 a,.int .i64 b]]=ai (l++ [⟨a,b⟩]):=kT (x:=lv.mk a b)
structure cc where
 off:Int
 cS:List lv
def cc.v (M:cc):F:= .agg [.int .i64 M.off,.pure 2 (ai M.cS)]
def jQ (o:Int):Prop:= -840≤o∧o≤840
instance (o:Int):Decidable (jQ o):=inferInstanceAs (Decidable (-840≤o∧o≤840))
def qA:Int→List lv→Int
 |_,[]=>0
 |p,J::ap=>if ¬(0≤J.az∧J.az≤120968639∧jQ J.off) then 2 else if J.az≤p then 1 else qA J.az ap
def fe (M:cc):Int:=if 64 < M.cS.length then 3 else if jQ M.off then qA (-1) M.cS else 2
theorem atL {p:Int}{l:List lv}{c:Nat}(h:c < l.length):qA p (l.drop c)=if ¬(0≤l[c].az∧l[c].az≤120968639∧jQ l[c].off) then 2 else if l[c].az≤p then 1 else qA l[c].az (l.drop (c+1)):=by
 rw[List.drop_eq_getElem_cons h,qA]
theorem Yf (o:Int):aO prog 220 [.int .i64 o] [] (fun v rs=>v= .bool (decide (jQ o))∧rs= []):=by
 refine cu func220 Yg (by simp[Hk,Lw]) ?_;simp only[go_sem,Hk,Lw]
 repeat' ((first|refine gv ?_ ?_|refine gw ?_ ?_|refine cf ?_ ?_|refine dj ?_ ?_)<;>intro aw<;>(have ak:=aw;try simp only[bC] at ak)<;>(first|omega| (simp only[go_sem,aw,Hk,Lw];clear aw)))
 all_goals ((refine E.bg rfl ⟨congrArg F.bool ?_,rfl⟩;rw[Bool.eq_iff_iff];simp only[bC,Bool.false_eq_true,false_iff,true_iff,iff_true,iff_false,and_true,true_and] at *;try simp only[jQ] at *;omega))
theorem Ch (M:cc):aO prog 141 [M.v] [] (fun v rs=>v= .int .i64 (fe M)∧rs= []):=by
 refine cu func141 Yh (by simp[EE,Hl]) ?_;unfold fe;simp only[go_sem,EE,Hl,cc.v]
 by_cases h1: (M.cS.length:Int)>64
 ·simp only[go_sem,h1];exact E.bg rfl ⟨by rw[if_pos (by omega)],rfl⟩
 simp only[go_sem,h1];rw[if_neg (by omega)];refine bM (Yf _) rfl rfl ?_
 by_cases G:jQ M.off
 rotate_left
 ·simp only[go_sem,G];exact E.bg rfl ⟨rfl,rfl⟩
 simp only[go_sem,G];refine dN (fun D r=> ∃ (c:Nat) (p:Int),c≤M.cS.length∧qA (-1) M.cS=qA p (M.cS.drop c)∧(c=0→p= -1)∧(∀ j (h:j < M.cS.length),c=j+1→p=M.cS[j].az)∧D= [(1,.bd 0 1 0 0),(14,.pure 2 (ai M.cS)),(15,.int .i64 M.cS.length),(16,.int .i64 c)]∧r= [.ag 32 2 [[.int .i64 M.off,.pure 2 (ai M.cS)]]])
  (fun D _=>match bs D 16 with| .int _ j=>(M.cS.length-j).toNat|_=>0) ?_ ?_
 ·exact E.ac ⟨0,-1,by omega,rfl,fun _=>rfl,fun j _ h=>by omega,rfl,rfl⟩
 ·rintro D r ⟨c,p,av,ay,Bx,iK,rfl,rfl⟩;have aP:=dB (c:=c) (by omega);simp only[go_sem,EE,Hl];refine cf ?_ ?_<;>intro ct<;>simp only[bC] at ct<;>simp only[go_sem,EE,Hl]
  ·have aI:c < M.cS.length:=by omega
   refine⟨by omega,by omega,?_⟩
   try simp only[Int.toNat_natCast]
   rw[atL aI] at ay;have dV: ∀ j (h:j < M.cS.length),c+1=j+1→M.cS[c].az=M.cS[j].az:=by intro j h hj;obtain rfl:c=j:=(by omega);rfl
   rw[cT aI];generalize M.cS[c]=J at ay dV ⊢;simp only[go_sem,Hj]
   by_cases au:J.az < 0
   ·simp only[go_sem,au];exact E.bg rfl ⟨by rw[ay,if_pos (by omega)],rfl⟩
   by_cases bv:J.az>120968639
   ·simp only[go_sem,au,bv];exact E.bg rfl ⟨by rw[ay,if_pos (by omega)],rfl⟩
   simp only[go_sem,au,bv];refine bM (Yf _) rfl rfl ?_
   by_cases cx:jQ J.off
   rotate_left
   ·simp only[go_sem,cx];exact E.bg rfl ⟨by rw[ay,if_pos (fun h=>cx h.2.2)],rfl⟩
   simp only[go_sem,cx];rw[if_neg (by simp only[cx,and_true];omega)] at ay;cases c with
   |zero=>
    simp only[go_sem,Int.natCast_zero,Int.lt_irrefl,gt_iff_lt];obtain rfl:=Bx rfl;rw[if_neg (by omega)] at ay;simp only[go_sem,Int.natCast_zero] at aP
    (refine E.bB [some 0] ?_;simp only[go_sem])
    refine E.ac ⟨⟨1,J.az,by omega,ay,fun h=>by omega,fun j h hj=>dV j h hj,rfl,rfl⟩,?_⟩;simp only[go_sem];omega
   |succ k=>
    have O:k < M.cS.length:=by omega
    obtain rfl:=iK k O rfl;have iG: ((k+1:Nat):Int)>0:=by omega
    have nH:IntKind.i64.wrap (((k+1:Nat):Int)-1)=(k:Int):=by rw[bl (by omega) (by omega)];omega
    simp only[go_sem,iG,nH];refine⟨by omega,by omega,?_⟩
    try simp only[Int.toNat_natCast]
    rw[cT O];simp only[go_sem,Hj]
    by_cases dx:J.az≤M.cS[k].az
    ·rw[if_pos dx] at ay;simp only[go_sem,dx];exact E.bg rfl ⟨by rw[ay],rfl⟩
    ·rw[if_neg dx] at ay;simp only[go_sem,dx,aP]
     (refine E.bB [some 0] ?_;simp only[go_sem])
     refine E.ac ⟨⟨k+1+1,J.az,by omega,ay,fun h=>by omega,fun j h hj=>dV j h hj,rfl,rfl⟩,?_⟩;simp only[go_sem];omega
  ·obtain rfl:c=M.cS.length:=by omega
   refine E.bg rfl ⟨?_,rfl⟩;rw[ay,List.drop_length];rfl
structure Lx (M:cc):Prop where
 len:M.cS.length≤64
 off:jQ M.off
 cS: ∀ J∈M.cS,0≤J.az∧J.az≤120968639∧jQ J.off
theorem Yi: ∀ {l:List lv} {p:Int},qA p l=0→ ∀ J∈l,0≤J.az∧J.az≤120968639∧jQ J.off
 | [],_,_,J,ad=>by simp at ad
 |x::aq,p,h,J,ad=>by
  rw[qA] at h;split at h
  ·cases h
  split at h
  ·cases h
  rename_i h1 G;rcases List.mem_cons.1 ad with rfl|ad
  ·exact Classical.not_not.1 h1
  ·exact Yi h J ad
theorem wv {M:cc}(h:fe M=0):Lx M:=by
 unfold fe at h;split at h
 ·cases h
 split at h
 ·rename_i h1 G;exact⟨by omega,G,Yi h⟩
 ·cases h
def zQ (t:Int)(o:Int)(l:List lv):Int:=l.foldl (fun o J=>if J.az≤t then J.off else o) o
def yf (M:cc)(t:Int):Int:=zQ t M.off M.cS
theorem atM {t o:Int}{l:List lv}{c:Nat}(h:c < l.length):zQ t o (l.take (c+1))=if l[c].az≤t then l[c].off else zQ t o (l.take c):=by
 unfold zQ;rw[List.take_succ_eq_append_getElem h,List.foldl_append];rfl
theorem Yj {t:Int}: ∀ {l:List lv} {o:Int},jQ o→(∀ J∈l,jQ J.off)→jQ (zQ t o l)
 | [],_,bp,_=>bp
 |J::ap,o,bp,hl=>by
  unfold zQ;rw[List.foldl_cons];refine Yj (l:=ap) ?_ (fun x aj=>hl x (List.mem_cons_of_mem _ aj));split
  ·exact hl J List.mem_cons_self
  ·exact bp
theorem Yk {M:cc}(ba:Lx M)(t:Int):jQ (yf M t):=Yj ba.off (fun J ad=>(ba.cS J ad).2.2)
theorem atN (M:cc)(ba:fe M=0)(t:Int)(h0:0≤t)(h1:t≤120968639):aO prog 322 [M.v,.int .i64 t] [] (fun v rs=>v= .bo [.int .i64 (yf M t),.int .i64 0]∧rs= []):=by
 have O:=wv ba;have cK:=O.len;refine cu func322 Yl (by simp[EF,Hm]) ?_;have bb: ¬t < 0:=by omega
 have n1: ¬t>120968639:=by omega
 simp only[go_sem,EF,Hm,cc.v];refine bM (Ch M) rfl rfl ?_;simp only[go_sem,ba,bb,n1];refine dN (fun D r=> ∃ (c:Nat),c≤M.cS.length∧yf M t=zQ t M.off (M.cS.take c)∧D= [(1,.int .i64 t),(2,.bd 0 1 0 0),(7,.int .i64 ((c:Int)-1))]∧r= [.ag 32 2 [[.int .i64 M.off,.pure 2 (ai M.cS)]]])
  (fun D _=>match bs D 7 with| .int _ j=>(j+1).toNat|_=>0) ?_ ?_
 ·have aP:IntKind.i64.wrap ((M.cS.length:Int)-1)=(M.cS.length:Int)-1:=bl (by omega) (by omega);simp only[go_sem,aP];exact E.ac ⟨M.cS.length,by omega,by rw[List.take_length];rfl,rfl,rfl⟩
 ·rintro D r ⟨c,av,ao,rfl,rfl⟩;simp only[go_sem,EF,Hm];refine cf ?_ ?_<;>intro ct<;>simp only[bC] at ct<;>simp only[go_sem,EF,Hm]
  ·obtain⟨k,rfl⟩: ∃ k,c=k+1:=⟨c-1,by omega⟩;have aI:k < M.cS.length:=by omega
   have ad: ((k+1:Nat):Int)-1=(k:Int):=by omega
   rw[ad];rw[atM aI] at ao;refine⟨by omega,by omega,?_⟩
   try simp only[Int.toNat_natCast]
   rw[cT aI];simp only[go_sem,Hj]
   by_cases au:M.cS[k].az≤t
   ·rw[if_pos au] at ao;simp only[go_sem,au];refine⟨by omega,by omega,?_⟩
    try simp only[Int.toNat_natCast]
    rw[cT aI];simp only[go_sem,Hj];exact E.bg rfl ⟨by rw[ao],rfl⟩
   ·rw[if_neg au] at ao;have aP:IntKind.i64.wrap ((k:Int)-1)=(k:Int)-1:=bl (by omega) (by omega);simp only[go_sem,au,aP];refine E.ac ⟨⟨k,by omega,ao,rfl,rfl⟩,?_⟩;simp only[go_sem];omega
  ·obtain rfl:c=0:=by omega
   refine E.bg rfl ⟨?_,rfl⟩;rw[ao];rfl
theorem Ym (M:cc)(ba:fe M=0)(t:Int)(h0:0≤t)(h1:t≤120968639):aO prog 259 [M.v,.int .i64 t] [] (fun v rs=>v= .bo [.int .i64 (t+yf M t),.int .i64 0]∧rs= []):=by
 have af:=Yk (wv ba) t;unfold jQ at af;have aP:IntKind.i64.wrap (t+yf M t)=t+yf M t:=bl (by omega) (by omega);refine cu func259 Yn (by simp[Ly,QD]) ?_;simp only[go_sem,Ly,QD,cc.v];refine bM (atN M ba t h0 h1) rfl rfl ?_;simp only[go_sem,aP];exact E.bg rfl ⟨rfl,rfl⟩
theorem Yo: ∀ {l:List lv} {p:Int} {J:lv},qA p l=0→(∀ x∈l,x.az < J.az)→p < J.az→0≤J.az∧J.az≤120968639∧jQ J.off→qA p (l++ [J])=0
 | [],p,J,_,_,ak,ad=>by
  rw[List.nil_append,qA,if_neg (fun h=>h ad),if_neg (by omega)];rfl
 |x::aq,p,J,h,aj,ak,ad=>by
  rw[qA] at h;rw[List.cons_append,qA];split at h
  ·cases h
  split at h
  ·cases h
  rename_i h1 G;rw[if_neg h1,if_neg G];exact Yo h (fun d bt=>aj d (List.mem_cons_of_mem _ bt)) (aj x List.mem_cons_self) ad
theorem atO (l:List Int)(hl:mW l)(az:Int)(h0:0≤az)(h1:az≤l.length):aO prog 58 [.bd 0 1 0 0] [gp l az]
 (fun v rs=> ∃ (a:Int) (M:cc),v=M.v∧rs= [gp l a]∧0≤a∧a≤l.length∧fe M=0∧M.cS.length≤3):=by
 refine hJ func58 Yp (by simp[EG,Hn]) ?_;simp only[go_sem,EG,Hn,gp]
 (refine E.ac ?_;simp only[go_sem])
 (refine ja [0,60,-300,840,-840,570] (ys l hl _ (by simp) (by simp)) ?_;rintro _ az _ _ ⟨o,cg,rfl⟩;simp only[fR] at cg;simp only[go_sem])
 have bp:jQ o:=by unfold jQ;omega
 clear cg
 (refine E.ac ?_;simp only[go_sem])
 (refine ja [0,29453760,29455200,29456700,29453060] (ys l hl _ (by simp) (by simp)) ?_;rintro _ az _ _ ⟨t0,cg,rfl⟩;simp only[fR] at cg;simp only[go_sem])
 have zR:0≤t0∧t0≤29456700:=by omega
 clear cg
 (refine E.ac ?_;simp only[go_sem])
 (refine lN (hi l hl 4 (by omega)) ?_;rintro _ az _ _ ⟨n,rfl,_,_⟩;simp only[go_sem])
 (refine E.ac ?_;simp only[go_sem])
 refine hv (fun D r=> ∃ (a:Int) (ap:List lv) (j t:Int),D= [(0,.bd 0 1 0 0),(2,.bd 1 1 0 0),(3,.bd 2 1 0 0),(4,.int .i64 t),(5,.int .i64 j)]∧r= [dX 143 l a,.ag 32 2 [[.int .i64 0,.bH]],.ag 32 2 [[.int .i64 o,.own 3 ap.length 0 ap.length]],.ag 259 2 (ai ap)]∧0≤a∧a≤l.length∧0≤j∧ap.length+j≤3∧qA (-1) ap=0∧(∀ J∈ap,J.az < t)∧0≤t∧t+4320*j≤29470000)
  (fun D _=>match bs D 5 with| .int _ j=>j.toNat|_=>0) ?_ ?_
 ·(refine E.oc (.vQ 3 0 1 259 2 rfl (by simp) (by decide) rfl) ?_;simp only[go_sem,fb])
  (refine E.bB [some 0,some 1,some 3,some 5] ?_;simp only[go_sem])
  exact E.ac ⟨az,[],n,t0,rfl,rfl,by omega,by omega,by omega,by simp;omega,rfl,by simp,by omega,by omega⟩
 ·rintro D r ⟨az,ap,j,t,rfl,rfl,_,_,_,jK,eK,aI,Lz,EH⟩;simp only[go_sem,EG,Hn]
  (refine E.ac ?_;simp only[go_sem])
  refine dj ?_ ?_<;>intro aw<;>simp only[bC] at aw<;>simp only[go_sem,EG,Hn]
  ·(refine E.ac ?_;simp only[go_sem])
   (refine G4 [60,120,0,-300,840,-840] (ys l hl _ (by simp) (by simp)) ?_;rintro _ az _ _ ⟨x,cg,rfl⟩;simp only[fR] at cg;simp only[go_sem])
   have aj:jQ x:=by unfold jQ;omega
   clear cg;refine⟨by omega,?_⟩;rw[atK]
   (refine E.ac ?_;simp only[go_sem])
   (refine ja [60,1440,30,4320,1] (ys l hl _ (by simp) (by simp)) ?_;rintro _ az _ _ ⟨d,cg,rfl⟩;simp only[fR] at cg;simp only[go_sem])
   have bt:1≤d∧d≤4320:=by omega
   clear cg;rw[bl (by omega) (by omega)]
   (refine E.ac ?_;simp only[go_sem])
   rw[bl (by omega) (by omega)]
   (refine E.bB [some 0,some 1,some 2,some 3] ?_;simp only[go_sem])
   refine E.ac ⟨⟨az,ap++ [⟨t,x⟩],j-1,t+d,by simp,by simp,by omega,by omega,by omega,by simp;omega,?_,?_,by omega,by omega⟩,?_⟩
   ·exact Yo eK aI (by simp only;omega) ⟨by simp only;omega,by simp only;omega,aj⟩
   ·intro J ad;rcases List.mem_append.1 ad with ad|ad
    ·have:=aI J ad;omega
    ·rw[List.mem_singleton] at ad;subst ad;simp only;omega
   ·simp only[go_sem];omega
  ·(refine E.ac ?_;simp only[go_sem])
   (refine E.kK [some 0,some 1] [3] ?_;simp only[go_sem])
   (refine E.ac ?_;simp only[go_sem])
   (refine E.bB [some 0] ?_;simp only[go_sem])
   refine E.ac ⟨az,⟨o,ap⟩,rfl,rfl,by omega,by omega,?_,by simp only;omega⟩;unfold fe;rw[if_neg (by simp only;omega),if_pos bp];exact eK
structure pL where
 R:Int
 ab:Int
 off:Int
def pL.cells (e:pL):List F:= [.int .i64 e.R,.int .i64 e.ab,.int .i64 e.off]
instance:aJ pL:=⟨pL.cells,3,fun _=>rfl,fun _=>rfl,fun _=>rfl⟩
theorem Yq (e:pL):aJ.J e= [.int .i64 e.R,.int .i64 e.ab,.int .i64 e.off]:=rfl
theorem atP:aJ.U pL=3:=rfl
theorem atQ (e:pL):List.take 3 (aJ.J e)=aJ.J e:=rfl
attribute [go_sem] atP atQ
theorem Yr {l:List pL}{a b J:Int}:ai l++ [[.int .i64 a,.int .i64 b,.int .i64 J]]=ai (l++ [⟨a,b,J⟩]):=kT (x:=pL.mk a b J)
def ml:Int→Int→List lv→List pL
 |f,o,[]=> [⟨f,120968640,o⟩]
 |f,o,J::ap=>(if f < J.az then [⟨f,J.az,o⟩] else [])++ml J.az J.off ap
theorem atS {f o:Int}{l:List lv}{c:Nat}(h:c < l.length):ml f o (l.drop c)=(if f < l[c].az then [⟨f,l[c].az,o⟩] else [])++ml l[c].az l[c].off (l.drop (c+1)):=by
 rw[List.drop_eq_getElem_cons h,ml]
theorem Ys (M:cc)(ba:M.cS.length≤64):aO prog 209 [M.v] [] (fun v rs=>v= .own 0 (ml 0 M.off M.cS).length 0 (ml 0 M.off M.cS).length∧rs= [.ag 326 3 (ai (ml 0 M.off M.cS))]):=by
 refine cu func209 Yt (by simp[EI,Ho]) ?_;simp only[go_sem,EI,Ho,cc.v];refine dN (fun D r=> ∃ (c:Nat) (f o:Int) (z:List pL),c≤M.cS.length∧ml 0 M.off M.cS=z++ml f o (M.cS.drop c)∧z.length≤c∧D= [(3,.own 1 z.length 0 z.length),(4,.bd 0 1 0 0),(11,.pure 2 (ai M.cS)),(12,.int .i64 M.cS.length),(13,.int .i64 c)]∧r= [.ag 326 3 [[.int .i64 f,.int .i64 0,.int .i64 o]],.ag 326 3 (ai z)])
  (fun D _=>match bs D 13 with| .int _ j=>(M.cS.length-j).toNat|_=>0) ?_ ?_
 ·(refine E.iv 3 326 3 rfl (E.eW [3,4,11,12,13] ?_);simp only[go_sem])
  (refine E.bB [some 1,some 2] ?_;simp only[go_sem])
  exact E.ac ⟨0,0,M.off,[],by omega,rfl,by simp,rfl,rfl⟩
 ·rintro D r ⟨c,f,o,z,av,ay,N,rfl,rfl⟩;have aP:=dB (c:=c) (by omega);simp only[go_sem,EI,Ho];refine cf ?_ ?_<;>intro ct<;>simp only[bC] at ct<;>simp only[go_sem,EI,Ho]
  ·have aI:c < M.cS.length:=by omega
   refine⟨by omega,by omega,?_⟩
   try simp only[Int.toNat_natCast]
   rw[atS aI] at ay;rw[cT aI];generalize M.cS[c]=J at ay ⊢;simp only[go_sem,Hj]
   by_cases au:J.az>f
   ·rw[if_pos au,←List.append_assoc] at ay;simp only[go_sem,au];refine⟨by omega,?_⟩;simp only[go_sem,Yr,aP]
    (refine E.bB [some 0,some 1] ?_;simp only[go_sem])
    refine E.ac ⟨⟨c+1,J.az,J.off,_,by omega,ay,by simp;omega,by simp,rfl⟩,?_⟩;simp only[go_sem];omega
   ·rw[if_neg au,List.nil_append] at ay;simp only[go_sem,au,aP]
    (refine E.bB [some 0,some 1] ?_;simp only[go_sem])
    refine E.ac ⟨⟨c+1,J.az,J.off,_,by omega,ay,by omega,rfl,rfl⟩,?_⟩;simp only[go_sem];omega
  ·obtain rfl:c=M.cS.length:=by omega
   rw[List.drop_length,ml] at ay;refine⟨by omega,?_⟩;simp only[go_sem,Yr]
   (refine E.bB [some 1] ?_;simp only[go_sem])
   rw[ay];exact E.ac ⟨by simp[bs],rfl⟩
def tA:List pL→Int→Int
 | [],_=>120968640
 |I::bV,t=>if max I.R (t-I.off) < I.ab then max I.R (t-I.off) else tA bV t
theorem atT {l:List pL}{t:Int}{c:Nat}(h:c < l.length):tA (l.drop c) t=if max l[c].R (t-l[c].off) < l[c].ab then max l[c].R (t-l[c].off) else tA (l.drop (c+1)) t:=by
 rw[List.drop_eq_getElem_cons h,tA]
def uY (M:cc)(t:Int):Int:=if 120969479 < t then 120968640 else tA (ml 0 M.off M.cS) (max t (-840))
theorem LA: ∀ {l:List lv} {f o:Int},0≤f→f≤120968640→jQ o→(∀ J∈l,0≤J.az∧J.az≤120968639∧jQ J.off)→ ∀ I∈ml f o l,0≤I.R∧I.R≤120968640∧0≤I.ab∧I.ab≤120968640∧jQ I.off
 | [],f,o,h0,h1,bp,_,I,ao=>by
  simp only[ml,List.mem_singleton] at ao;subst ao;exact⟨h0,h1,by simp only;omega,by simp only;omega,bp⟩
 |J::ap,f,o,h0,h1,bp,ad,I,ao=>by
  have G:=ad J List.mem_cons_self;rw[ml,List.mem_append] at ao;rcases ao with ao|ao
  ·split at ao
   ·rw[List.mem_singleton] at ao;subst ao;exact⟨h0,h1,by simp only;omega,by simp only;omega,bp⟩
   ·simp at ao
  ·exact LA (by omega) (by omega) G.2.2 (fun J h=>ad J (List.mem_cons_of_mem _ h)) I ao
theorem Yu: ∀ {l:List pL} {t:Int},(∀ I∈l,0≤I.R∧I.ab≤120968640)→0≤tA l t∧tA l t≤120968640
 | [],t,_=>by simp[tA]
 |I::bV,t,h=>by
  have h1:=h I List.mem_cons_self;rw[tA];split
  ·omega
  ·exact Yu fun I ao=>h I (List.mem_cons_of_mem _ ao)
theorem QE: ∀ {l:List lv} {f o:Int},(ml f o l).length≤l.length+1
 | [],f,o=>by simp[ml]
 |J::ap,f,o=>by
  have:=QE (l:=ap) (f:=J.az) (o:=J.off);rw[ml,List.length_append,List.length_cons];split<;>simp<;>omega
theorem atU (M:cc)(ba:Lx M)(t:Int)(ht: -1000000000≤t):aO prog 284 [M.v,.int .i64 t] [] (fun v rs=>v= .int .i64 (uY M t)∧rs= []):=by
 refine cu func284 Yv (by simp[EJ,Hp]) ?_;have QF:=Ys M ba.len;have so:=LA (l:=M.cS) (f:=0) (o:=M.off) (by omega) (by omega) ba.off ba.cS;have QG:=QE (l:=M.cS) (f:=0) (o:=M.off);have Yw:=ba.len;unfold uY;unfold cc.v at QF ⊢;simp only[go_sem,EJ,Hp]
 by_cases h1:t>120969479
 ·have ii:120969479 < t:=h1;simp only[go_sem,h1,ii];exact E.bg rfl ⟨rfl,rfl⟩
 have ii: ¬120969479 < t:=h1;rw[if_neg ii];simp only[go_sem,h1]
 (refine rv (QF) ?_;rintro _ _ ⟨rfl,rfl⟩;simp only[go_sem])
 clear QF
 try rw[show Int.negSucc 839= -840 from rfl]
 generalize ml 0 M.off M.cS=l at *;obtain⟨u,bc⟩: ∃ u,u=max t (-840):=⟨_,rfl⟩;rw[←bc];have Yx: -1000000000≤u∧u≤120969479:=by omega
 refine dN (fun D r=> ∃ c:Nat,c≤l.length∧tA l u=tA (l.drop c) u∧D= [(1,.int .i64 u),(13,.own 0 l.length 0 l.length),(14,.int .i64 l.length),(15,.int .i64 c)]∧r= [.ag 326 3 (ai l)])
  (fun D _=>match bs D 15 with| .int _ j=>(l.length-j).toNat|_=>0) ?_ ?_
 ·(refine E.bB [some 1] ?_;simp only[go_sem])
  exact E.ac ⟨0,by omega,rfl,rfl,rfl⟩
 ·rintro D r ⟨c,av,ay,rfl,rfl⟩;have aP:=dB (c:=c) (by omega);simp only[go_sem,EJ,Hp];refine cf ?_ ?_<;>intro ct<;>simp only[bC] at ct<;>simp only[go_sem,EJ,Hp]
  ·have aI:c < l.length:=by omega
   refine⟨by omega,by omega,?_⟩
   try simp only[Int.toNat_natCast]
   rw[atT aI] at ay;have af:=so l[c] (List.getElem_mem _);rw[cT aI];generalize l[c]=I at ay af ⊢;unfold jQ at af;simp only[go_sem,Yq];rw[bl (x:=u-I.off) (by omega) (by omega)]
   by_cases au:max I.R (u-I.off) < I.ab
   ·rw[if_pos au] at ay;simp only[go_sem,au];exact E.bg rfl ⟨by rw[ay],rfl⟩
   ·rw[if_neg au] at ay;simp only[go_sem,au,aP]
    (refine E.bB [some 0] ?_;simp only[go_sem])
    refine E.ac ⟨⟨c+1,by omega,ay,rfl,rfl⟩,?_⟩;simp only[go_sem];omega
  ·obtain rfl:c=l.length:=by omega
   refine E.bg rfl ⟨?_,rfl⟩;rw[ay,List.drop_length];rfl
theorem Yy {M:cc}(ba:Lx M)(t:Int):0≤uY M t∧uY M t≤120968640:=by
 unfold uY;split
 ·omega
 ·exact Yu fun I ao=>by
   have:=LA (l:=M.cS) (f:=0) (o:=M.off) (by omega) (by omega) ba.off ba.cS I ao;omega
theorem atV (M:cc)(t:Int)(ht: -1000000000≤t):aO prog 226 [M.v,.int .i64 t] [] (fun v rs=>v=(if fe M=0 then .bo [.int .i64 (uY M t),.int .i64 0] else .bo [.int .i64 0,.int .i64 (fe M)])∧rs= []):=by
 refine cu func226 Yz (by simp[LB,QH]) ?_;have hV:=Ch M;have hF:=fun h:fe M=0=>atU M (wv h) t ht;unfold cc.v at *;simp only[go_sem,LB,QH];refine bM hV rfl rfl ?_
 by_cases h:fe M=0
 ·rw[if_pos h,h];simp only[go_sem,bne_self_eq_false];refine bM (hF h) rfl rfl ?_;simp only[go_sem];exact E.bg rfl ⟨rfl,rfl⟩
 ·rw[if_neg h];have cR: (fe M != 0)=true:=bne_iff_ne.2 h;simp only[go_sem,cR];exact E.bg rfl ⟨rfl,rfl⟩
def zS (t:Int):List pL→Int→Int
 | [],g=>g
 |I::bV,g=>if I.R>t then g else zS t bV (max g (min t (I.ab-1)+I.off))
theorem atW {t g:Int}{l:List pL}{c:Nat}(h:c < l.length):zS t (l.drop c) g=if l[c].R>t then g else zS t (l.drop (c+1)) (max g (min t (l[c].ab-1)+l[c].off)):=by
 rw[List.drop_eq_getElem_cons h,zS]
def mm (M:cc)(t:Int):Int:=min (Int.tdiv (zS t (ml 0 M.off M.cS) 0) 1440) 84005
theorem aLx {t:Int}: ∀ {l:List pL} {g:Int},g≤zS t l g
 | [],g=>Int.le_refl _
 |I::bV,g=>by
  rw[zS];split
  ·exact Int.le_refl _
  ·have:=aLx (t:=t) (l:=bV) (g:=max g (min t (I.ab-1)+I.off));omega
theorem aN2 (M:cc)(t:Int):0≤mm M t∧mm M t≤84005:=by
 have h:=aLx (t:=t) (l:=ml 0 M.off M.cS) (g:=0);have G:=Int.tdiv_nonneg h (show (0:Int)≤1440 by omega);unfold mm;omega
def ot (M:cc)(t:Int):Int:=if fe M≠0 then fe M else if t < 0∨120968639 < t then 2 else 0
theorem YA (M:cc)(t:Int):aO prog 125 [M.v,.int .i64 t] [] (fun v rs=>v= .bo [.int .i64 (if ot M t=0 then mm M t else 0),.int .i64 (ot M t)]∧rs= []):=by
 refine cu func125 YB (by simp[EK,Hq]) ?_;have hV:=Ch M;have du:=fun h:fe M=0=>Ys M (wv h).len;have cU:=fun h:fe M=0=>LA (l:=M.cS) (f:=0) (o:=M.off) (by omega) (by omega) (wv h).off (wv h).cS;have hL:=fun h:fe M=0=>(wv h).len;have QG:=QE (l:=M.cS) (f:=0) (o:=M.off);unfold cc.v at *;simp only[go_sem,EK,Hq];refine bM hV rfl rfl ?_
 by_cases h:fe M=0
 rotate_left
 ·have cR: (fe M != 0)=true:=bne_iff_ne.2 h;have e:ot M t=fe M:=by unfold ot;rw[if_pos h]
  rw[e,if_neg h];simp only[go_sem,cR];exact E.bg rfl ⟨rfl,rfl⟩
 replace du:=du h
 replace cU:=cU h
 replace hL:=hL h
 rw[h];simp only[go_sem,bne_self_eq_false]
 by_cases h1:t < 0
 ·simp only[go_sem,h1];have e:ot M t=2:=by unfold ot;rw[if_neg (fun hh=>hh h),if_pos (.inl h1)]
  rw[e];exact E.bg rfl ⟨rfl,rfl⟩
 by_cases G:120968639 < t
 ·have px:t>120968639:=G;simp only[go_sem,h1,G,px];have e:ot M t=2:=by unfold ot;rw[if_neg (fun hh=>hh h),if_pos (.inr G)]
  rw[e];exact E.bg rfl ⟨rfl,rfl⟩
 have px: ¬t>120968639:=G;have e:ot M t=0:=by unfold ot;rw[if_neg (fun hh=>hh h),if_neg (by omega)]
 rw[e,if_pos rfl];unfold mm;simp only[go_sem,h1,G,px]
 (refine rv (du) ?_;rintro _ _ ⟨rfl,rfl⟩;simp only[go_sem])
 clear du hV;generalize ml 0 M.off M.cS=l at *;refine dN (fun D r=> ∃ (c:Nat) (g:Int),c≤l.length∧0≤g∧g≤200000000∧zS t l 0=zS t (l.drop c) g∧D= [(1,.int .i64 t),(7,.int .i64 g),(22,.own 0 l.length 0 l.length),(23,.int .i64 l.length),(24,.int .i64 c)]∧r= [.ag 326 3 (ai l)])
  (fun D _=>match bs D 24 with| .int _ j=>(l.length-j).toNat|_=>0) ?_ ?_
 ·(refine E.bB [some 1] ?_;simp only[go_sem])
  exact E.ac ⟨0,0,by omega,by omega,by omega,rfl,rfl,rfl⟩
 ·rintro D r ⟨c,g,av,wm,dI,ay,rfl,rfl⟩;have aP:=dB (c:=c) (by omega);simp only[go_sem,EK,Hq];refine cf ?_ ?_<;>intro ct<;>simp only[bC] at ct<;>simp only[go_sem,EK,Hq]
  ·have aI:c < l.length:=by omega
   refine⟨by omega,by omega,?_⟩
   try simp only[Int.toNat_natCast]
   rw[atW aI] at ay;have af:=cU l[c] (List.getElem_mem _);rw[cT aI];generalize l[c]=I at ay af ⊢;unfold jQ at af;have ww: ∀ g:Int,0≤g→g≤400000000→IntKind.i64.wrap (g.tdiv 1440)=g.tdiv 1440:=fun g h0 h1=>by
    rw[Int.tdiv_eq_ediv_of_nonneg h0];exact bl (by omega) (by omega)
   simp only[go_sem,Yq]
   by_cases au:I.R>t
   ·have yg:t < I.R:=au;rw[if_pos au] at ay;simp only[go_sem,yg];refine⟨by omega,?_⟩;rw[ww g wm (by omega)];exact E.bg rfl ⟨by rw[ay],rfl⟩
   ·have yg: ¬t < I.R:=au;rw[if_neg au] at ay;rw[decide_eq_false yg];simp only[go_sem];rw[bl (x:=I.ab-1) (by omega) (by omega),bl (x:=min t (I.ab-1)+I.off) (by omega) (by omega),aP]
    (refine E.bB [some 0] ?_;simp only[go_sem])
    refine E.ac ⟨⟨c+1,max g (min t (I.ab-1)+I.off),by omega,by omega,by omega,ay,rfl,rfl⟩,?_⟩;simp only[go_sem];omega
  ·obtain rfl:c=l.length:=by omega
   refine⟨by omega,?_⟩;have ww:IntKind.i64.wrap (g.tdiv 1440)=g.tdiv 1440:=by
    rw[Int.tdiv_eq_ediv_of_nonneg wm];exact bl (by omega) (by omega)
   rw[ww];rw[List.drop_length,zS] at ay;exact E.bg rfl ⟨by rw[ay],rfl⟩
theorem bQ {bj:Type}{l t:List bj}{c:Nat}{x:bj}(h:l[c]? =some x): (l++t)[c]? =some x:=by
 rw[List.getElem?_append_left (List.getElem?_eq_some_iff.1 h).1,h]
theorem dO {bj:Type}{l t:List bj}{k:Nat}: (l++t)[l.length+k]? =t[k]? :=by
 rw[List.getElem?_append_right (by omega)];simp
theorem dH {bj:Type}{l t:List bj}: (l++t)[l.length]? =t[0]? :=by
 rw[List.getElem?_append_right (by omega)];simp
theorem ee {bj:Type}{l t:List bj}{k:Nat}{x:bj}: (l++t).set (l.length+k) x=l++t.set k x:=by
 rw[List.set_append_right _ _ (by omega)];simp
theorem ec {bj:Type}{l t:List bj}{x:bj}: (l++t).set l.length x=l++t.set 0 x:=by
 rw[List.set_append_right _ _ (by omega)];simp
theorem tF {bj:Type}{l t:List bj}{k:Nat}{x d:bj}(h:l[k]? =some d): (l++t).set k x=l.set k x++t:=List.set_append_left _ _ (List.getElem?_eq_some_iff.1 h).1
theorem EV {r t:List Z}(h:jP r)(ht: ∀ bG∈t,jc (r.length+t.length) bG=true):jP (r++t):=by
 intro z bG N;rw[List.length_append];rw[List.getElem?_append] at N;split at N
 ·exact Qx (by omega) (h z bG N)
 ·exact ht _ (List.mem_of_getElem? N)
theorem Co {r:List Z}(h:jP r){k:Nat}{d:Z}(bt:jc r.length d=true):jP (r.set k d):=by
 intro z bG N;rw[List.length_set];rw[List.getElem?_set] at N;split at N
 ·split at N
  ·cases N;exact bt
  ·cases N
 ·exact h z bG N
theorem km {r:List Z}{c:Nat}{x:Z}(h:r[c]? =some x):c < r.length:=(List.getElem?_eq_some_iff.1 h).1
structure eH where
 bk:Int
 ah:Int
 name:ByteArray
 min:Int
structure cw where
 ah:Int
 bw:Int
 cN:Int
instance:aJ cw:=⟨fun a=> [.int .i64 a.ah,.int .i64 a.bw,.int .i64 a.cN],3,fun _=>rfl,fun _=>rfl,fun _=>rfl⟩
theorem uZ (e:cw):aJ.J e= [.int .i64 e.ah,.int .i64 e.bw,.int .i64 e.cN]:=rfl
theorem auR:aJ.U cw=3:=rfl
theorem auS (e:cw):List.take 3 (aJ.J e)=aJ.J e:=rfl
attribute [go_sem] auR auS
end Go.Proofs.YtpincjkjoeopkaaGreatDoor
