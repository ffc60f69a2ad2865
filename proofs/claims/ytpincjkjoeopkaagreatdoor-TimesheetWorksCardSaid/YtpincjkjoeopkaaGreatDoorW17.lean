/- Time evaluation. -/
import Derived.Test.YtpincjkjoeopkaaGreatDoorW15
import Derived.Test.YtpincjkjoeopkaaGreatDoorW8
import Derived.Test.YtpincjkjoeopkaaGreatDoorW14
import Derived.Test.YtpincjkjoeopkaaGreatDoorW16
import Derived.Test.YtpincjkjoeopkaaGreatDoorW5
set_option linter.all false
namespace Go.Proofs.YtpincjkjoeopkaaGreatDoor
open Go Go.Abs Go.Proofs.Tryz
open Go.Sort (SWO)
theorem awq {r:List Z}{B:Option Nat}{D:aQ}{K:aQ→List Z→Prop}{a b:ByteArray}:bA (.iY .gtr) [.str a,.str b] r B D K=K (put D B (.bool !(Op.bytesLess a.toList b.toList||a.toList==b.toList))) r:=_root_.id rfl
attribute [go_sem] awq
def gT (a b:Int):Int:=if a < b then -1 else if b < a then 1 else 0
def ow:List Int→Int
 | []=>0
 |x::aq=>if x=0 then ow aq else x
def yv (a b:ByteArray):Int:=if a.toList < b.toList then -1 else if b.toList < a.toList then 1 else 0
theorem Mg: ∀ (x d:List UInt8),Op.bytesLess x d=decide (x < d)
 | [],[]=>by simp[Op.bytesLess]
 |_::_,[]=>by simp[Op.bytesLess]
 | [],_::_=>by simp[Op.bytesLess]
 |a::x,b::d=>by
  rw[Op.bytesLess,Mg x d];simp only[List.cons_lt_cons_iff]
  by_cases h1:a < b<;>by_cases G:a=b<;>by_cases au:x < d<;>simp[h1,G,au]
theorem Mh {a b:List UInt8}(h: ¬a < b):a=b∨b < a:=by
 rcases Decidable.em (b < a) with h1|h1
 ·exact .inr h1
 ·exact .inl (List.le_antisymm (List.not_lt.1 h1) (List.not_lt.1 h))
theorem Ie (a:List UInt8): ¬a < a:=List.lt_irrefl a
theorem Z8 {a b J:List UInt8}(h:a < b)(k:b < J):a < J:=List.lt_trans h k
theorem awr {aq:List Int}{c:Nat}(h:c < aq.length):ow (aq.drop c)=if aq[c]=0 then ow (aq.drop (c+1)) else aq[c]:=by
 rw[List.drop_eq_getElem_cons h,ow]
structure cv where
 B:Int
 n:ByteArray
instance:aJ cv:=⟨fun k=> [.int .i64 k.B,.str k.n],2,fun _=>rfl,fun _=>rfl,fun _=>rfl⟩
instance:Inhabited cv:=⟨⟨0,default⟩⟩
theorem LP (e:cv):aJ.J e= [.int .i64 e.B,.str e.n]:=rfl
theorem aws:aJ.U cv=2:=rfl
theorem awt (e:cv):List.take 2 (aJ.J e)=aJ.J e:=rfl
attribute [go_sem] aws awt
def If (a b:cv):Int:=ow [gT a.B b.B,yv a.n b.n]
def pN (a b:cv):Prop:=a.B < b.B∨(a.B=b.B∧a.n.toList < b.n.toList)
theorem QY:Int.negSucc 0= -1:=rfl
attribute [go_sem] QY
section
variable [iZ:dE]
theorem Z9 (a:Int):aO prog 159 [.int .i64 a] [] (fun v rs=>v= .bool false∧rs= []):=by
 refine cu func159 aaa (by simp[Mi,R4]) ?_;simp only[go_sem,Mi,R4,bne_self_eq_false];exact E.bg rfl ⟨rfl,rfl⟩
theorem yw (a b:Int):aO prog 74 [.int .i64 a,.int .i64 b] [] (fun v rs=>v= .int .i64 (gT a b)∧rs= []):=by
 refine cu func74 aab (by simp[Mj,R5]) ?_;simp only[go_sem,Mj,R5];refine bM (Z9 a) rfl rfl ?_;simp only[go_sem];refine bM (Z9 b) rfl rfl ?_;simp only[go_sem];unfold gT
 by_cases h1:a < b
 ·simp only[go_sem,h1];exact E.bg rfl ⟨rfl,rfl⟩
 ·by_cases G:b < a<;>simp only[go_sem,h1,G]<;>exact E.bg rfl ⟨rfl,rfl⟩
theorem aac (a:ByteArray):aO prog 208 [.str a] [] (fun v rs=>v= .bool false∧rs= []):=by
 refine cu func208 aad (by simp[Mk,R6]) ?_;simp only[go_sem,Mk,R6,beq_self_eq_true,Bool.not_true];exact E.bg rfl ⟨rfl,rfl⟩
theorem awu (a b:ByteArray):aO prog 124 [.str a,.str b] [] (fun v rs=>v= .int .i64 (yv a b)∧rs= []):=by
 refine cu func124 aae (by simp[Ml,R7]) ?_;simp only[go_sem,Ml,R7];refine bM (aac a) rfl rfl ?_;simp only[go_sem];refine bM (aac b) rfl rfl ?_;simp only[go_sem];unfold yv;rw[Mg]
 by_cases h1:a.toList < b.toList
 ·simp only[go_sem,h1];exact E.bg rfl ⟨rfl,rfl⟩
 ·by_cases G:b.toList < a.toList
  ·have au: (a.toList==b.toList)=false:=by
    rw[beq_eq_false_iff_ne];exact fun e=>Ie _ (e▸G)
   simp only[go_sem,h1,G,au,Mg];exact E.bg rfl ⟨rfl,rfl⟩
  ·have au: (a.toList==b.toList)=true:=by
    rw[beq_iff_eq];rcases Mh h1 with e|e
    ·exact e
    ·exact absurd e G
   simp only[go_sem,h1,G,au,Mg];exact E.bg rfl ⟨rfl,rfl⟩
theorem Mm (aq:List Int)(aj:aq.length≤1000):aO prog 123 [.own 0 aq.length 0 aq.length] [.ag 3 1 (cJ .i64 aq)] (fun v rs=>v= .int .i64 (ow aq)∧rs= [.ag 3 1 (cJ .i64 aq)]):=by
 refine cu func123 aaf (by simp[CE,E7]) ?_;simp only[go_sem,CE,E7];refine dN (fun D r=> ∃ c:Nat,c≤aq.length∧ow aq=ow (aq.drop c)∧D= [(3,.int .i64 0),(6,.own 0 aq.length 0 aq.length),(7,.int .i64 aq.length),(8,.int .i64 c)]∧r= [.ag 3 1 (cJ .i64 aq)])
  (fun D _=>match bs D 8 with| .int _ j=>(aq.length-j).toNat|_=>0) ?_ ?_
 ·exact E.ac ⟨0,by omega,rfl,rfl,rfl⟩
 ·rintro D r ⟨c,av,Al,rfl,rfl⟩;have aP:=dB (c:=c) (by omega);simp only[go_sem,CE,E7];refine cf ?_ ?_<;>intro ct<;>simp only[bC] at ct<;>simp only[go_sem,CE,E7]
  ·have aI:c < aq.length:=by omega
   have eR: (cJ .i64 aq).getD c []= [.int .i64 aq[c]]:=by rw[tw aI,List.getD_eq_getElem?_getD,List.getElem?_eq_getElem aI,Option.getD_some]
   rw[awr aI] at Al;refine⟨by omega,by omega,?_⟩;simp only[Int.toNat_natCast,eR];simp only[go_sem];refine cf ?_ ?_<;>intro fH<;>simp only[bC] at fH<;>simp only[go_sem,CE,E7,aP]
   ·exact E.ac ⟨by rw[Al,if_neg fH];rfl,rfl⟩
   ·rw[if_pos fH] at Al;refine E.ac ⟨⟨c+1,by omega,Al,rfl,rfl⟩,?_⟩;simp only[go_sem];omega
  ·obtain rfl:c=aq.length:=by omega
   rw[List.drop_length] at Al;exact E.ac ⟨by rw[Al];rfl,rfl⟩
theorem awv (a b:cv):aO prog 122 [.agg (aJ.J a),.agg (aJ.J b)] [] (fun v rs=>v= .int .i64 (If a b)∧rs= []):=by
 refine cu func122 aag (by simp[Mo,R8]) ?_;simp only[go_sem,Mo,R8,LP];refine gG (yw _ _) rfl rfl ?_;simp only[go_sem];refine gG (awu _ _) rfl rfl ?_;simp only[go_sem]
 (refine D4 [2] (Mm [gT a.B b.B,yv a.n b.n] (by simp)) ?_;rintro _ _ ⟨rfl,rfl⟩;simp only[go_sem])
 exact E.bg rfl ⟨rfl,rfl⟩
end
theorem Am {a b:Int}:gT a b < 0↔a < b:=by
 unfold gT;split
 ·simp_all
 ·split<;>simp_all
theorem tQ {a b:Int}:gT a b=0↔a=b:=by
 unfold gT;split
 ·simp;omega
 ·split
  ·simp;omega
  ·simp;omega
theorem aww {a b:ByteArray}:yv a b < 0↔a.toList < b.toList:=by
 unfold yv;split
 ·simp_all
 ·split<;>simp_all
theorem awx {a b:ByteArray}:yv a b=0↔a.toList=b.toList:=by
 unfold yv;split
 ·rename_i h;constructor
  ·intro h;cases h
  ·intro e;exact absurd h (e▸Ie _)
 ·rename_i h;split
  ·rename_i G;constructor
   ·intro h;cases h
   ·intro e;exact absurd G (e▸Ie _)
  ·rename_i G;refine⟨fun _=> ?_,fun _=>rfl⟩;rcases Mh h with e|e
   ·exact e
   ·exact absurd e G
theorem aah {a b:cv}:If a b < 0↔pN a b:=by
 unfold If pN;simp only[ow]
 by_cases h:gT a.B b.B=0
 ·rw[if_pos h];have h0:=tQ.1 h
  by_cases G:yv a.n b.n=0
  ·rw[if_pos G];have au:=awx.1 G;constructor
   ·intro h;cases h
   ·rintro (h|⟨_,h⟩)
    ·omega
    ·exact absurd h (au▸Ie _)
  ·rw[if_neg G,aww];exact⟨fun h=> .inr ⟨h0,h⟩,fun h=>by rcases h with h|h;(·omega);exact h.2⟩
 ·rw[if_neg h,Am];have h0: ¬a.B=b.B:=fun e=>h (tQ.2 e);exact⟨.inl,fun h=>by rcases h with h|h;(·exact h);exact absurd h.1 h0⟩
end Go.Proofs.YtpincjkjoeopkaaGreatDoor
namespace Go.Proofs.YtpincjkjoeopkaaGreatDoor.Pm
open Go Go.Abs
theorem ahJ {d:Int}:zW d=true↔d%4=0∧(¬d%100=0∨d%400=0):=by
 simp only[zW,Bool.and_eq_true,Bool.or_eq_true,Bool.not_eq_true',decide_eq_true_eq,decide_eq_false_iff_not]
open Go.Proofs.Tryz
theorem aPJ (d m:Int)(h0:0≤d)(h1:1≤m)(G:m≤12):aO prog 336 [.int .i64 d,.int .i64 m] [] (fun v rs=>v= .int .i64 (hZ d m)∧rs= []):=by
 refine cu func336 aBP (by simp[agf,aIK]) ?_;obtain rfl|rfl|rfl|rfl|rfl|rfl|rfl|rfl|rfl|rfl|rfl|rfl:m=1∨m=2∨m=3∨m=4∨m=5∨m=6∨m=7∨m=8∨m=9∨m=10∨m=11∨m=12:=by omega
 all_goals simp only[go_sem,agf,aIK]
 any_goals exact E.bg rfl ⟨by simp[hZ,eM],rfl⟩
 simp only[Int.tmod_eq_emod_of_nonneg h0];refine⟨by decide,?_⟩;have bt:zW d=true→hZ d 2=29:=fun h=>by simp[hZ,h]
 have aH: ¬zW d=true→hZ d 2=28:=fun h=>by simp[hZ,h,eM]
 rw[ahJ] at bt aH;have Gb:d.tmod 100=d%100:=Int.tmod_eq_emod_of_nonneg h0;have JH:d.tmod 400=d%400:=Int.tmod_eq_emod_of_nonneg h0
 by_cases a:d%4=0
 ·have es: (d%4==0)=true:=beq_iff_eq.2 a
  by_cases b:d%100=0
  ·have ig: (d%100 != 0)=false:=by simp[b]
   by_cases J:d%400=0
   ·have f3: (d%400==0)=true:=beq_iff_eq.2 J;simp only[go_sem,agf,aIK,es,Gb,ig,JH,f3]
    first
     |exact E.bg rfl ⟨by rw[bt (by omega)],rfl⟩
     |exact⟨by decide,by decide,E.bg rfl ⟨by rw[bt (by omega)],rfl⟩⟩
   ·have f3: (d%400==0)=false:=beq_eq_false_iff_ne.2 J;simp only[go_sem,agf,aIK,es,Gb,ig,JH,f3]
    first
     |exact E.bg rfl ⟨by rw[aH (by omega)],rfl⟩
     |exact⟨by decide,by decide,E.bg rfl ⟨by rw[aH (by omega)],rfl⟩⟩
  ·have ig: (d%100 != 0)=true:=by simp[b]
   simp only[go_sem,agf,aIK,es,Gb,ig]
   first
    |exact E.bg rfl ⟨by rw[bt (by omega)],rfl⟩
    |exact⟨by decide,E.bg rfl ⟨by rw[bt (by omega)],rfl⟩⟩
 ·have es: (d%4==0)=false:=beq_eq_false_iff_ne.2 a;simp only[go_sem,agf,aIK,es]
  first
   |exact E.bg rfl ⟨by rw[aH (by omega)],rfl⟩
   |exact⟨by decide,E.bg rfl ⟨by rw[aH (by omega)],rfl⟩⟩
open Go.RowKit (Below)
structure cX where
 cB:Int
 rK:Int
 ah:Int
 A1:Int
 offset:Int
 Jf:Bool
def cX.cells (p:cX):List F:= [.int .i64 p.cB,.int .i64 p.rK,.int .i64 p.ah,.int .i64 p.A1,.int .i64 p.offset,.bool p.Jf]
instance:aJ cX:=⟨cX.cells,6,fun _=>rfl,fun _=>rfl,fun _=>rfl⟩
theorem T4 (p:cX):aJ.J p= [.int .i64 p.cB,.int .i64 p.rK,.int .i64 p.ah,.int .i64 p.A1,.int .i64 p.offset,.bool p.Jf]:=rfl
theorem aEX (B:Int)(b:Bool)(w:World)(h:js w 0 .i64 eM):Calls prog 257 #[.agg #[.int .i64 0,.int .i64 1,.int .i64 B,.int .i64 0,.int .i64 0,.bool b]] w fun e w'=>e= .returned (.bool (decide (1≤B∧B≤31)))∧(Below w.heap.size w w'∧w.drawn≤w'.drawn):=by
 have ad:=kW h (c:=0) rfl;have aI:0 < w.heap.size:=by obtain⟨_,_,h⟩:=h;exact (Array.getElem?_eq_some_iff.1 h).1
 clear h
 go_enter func257,ntmps257
 go_wp2
 ·rename_i ay
  go_ret
  exact⟨by simp[ay],⟨rfl,rfl,rfl,by simp,fun b af=>heap_alloc_old w _ af⟩,Nat.le_refl _⟩
 ·rename_i ay
  go_ret
  exact⟨by simp[show ¬(1≤B) from by omega],⟨rfl,rfl,rfl,by simp,fun b af=>heap_alloc_old w _ af⟩,Nat.le_refl _⟩
theorem aEY (B:Int)(b:Bool)(w:World)(h:js w 0 .i64 eM):Calls prog 257 #[.agg #[.int .i64 0,.int .i64 2,.int .i64 B,.int .i64 0,.int .i64 0,.bool b]] w fun e w'=>e= .returned (.bool (decide (1≤B∧B≤29)))∧(Below w.heap.size w w'∧w.drawn≤w'.drawn):=by
 have ad:=kW h (c:=1) rfl;have aI:0 < w.heap.size:=by obtain⟨_,_,h⟩:=h;exact (Array.getElem?_eq_some_iff.1 h).1
 clear h
 go_enter func257,ntmps257
 go_wp2
 ·rename_i ay
  go_ret
  exact⟨by simp[ay],⟨rfl,rfl,rfl,by simp,fun b af=>heap_alloc_old w _ af⟩,Nat.le_refl _⟩
 ·rename_i ay
  go_ret
  exact⟨by simp[show ¬(1≤B) from by omega],⟨rfl,rfl,rfl,by simp,fun b af=>heap_alloc_old w _ af⟩,Nat.le_refl _⟩
theorem aEZ (B:Int)(b:Bool)(w:World)(h:js w 0 .i64 eM):Calls prog 257 #[.agg #[.int .i64 0,.int .i64 3,.int .i64 B,.int .i64 0,.int .i64 0,.bool b]] w fun e w'=>e= .returned (.bool (decide (1≤B∧B≤31)))∧(Below w.heap.size w w'∧w.drawn≤w'.drawn):=by
 have ad:=kW h (c:=2) rfl;have aI:0 < w.heap.size:=by obtain⟨_,_,h⟩:=h;exact (Array.getElem?_eq_some_iff.1 h).1
 clear h
 go_enter func257,ntmps257
 go_wp2
 ·rename_i ay
  go_ret
  exact⟨by simp[ay],⟨rfl,rfl,rfl,by simp,fun b af=>heap_alloc_old w _ af⟩,Nat.le_refl _⟩
 ·rename_i ay
  go_ret
  exact⟨by simp[show ¬(1≤B) from by omega],⟨rfl,rfl,rfl,by simp,fun b af=>heap_alloc_old w _ af⟩,Nat.le_refl _⟩
theorem aE0 (B:Int)(b:Bool)(w:World)(h:js w 0 .i64 eM):Calls prog 257 #[.agg #[.int .i64 0,.int .i64 4,.int .i64 B,.int .i64 0,.int .i64 0,.bool b]] w fun e w'=>e= .returned (.bool (decide (1≤B∧B≤30)))∧(Below w.heap.size w w'∧w.drawn≤w'.drawn):=by
 have ad:=kW h (c:=3) rfl;have aI:0 < w.heap.size:=by obtain⟨_,_,h⟩:=h;exact (Array.getElem?_eq_some_iff.1 h).1
 clear h
 go_enter func257,ntmps257
 go_wp2
 ·rename_i ay
  go_ret
  exact⟨by simp[ay],⟨rfl,rfl,rfl,by simp,fun b af=>heap_alloc_old w _ af⟩,Nat.le_refl _⟩
 ·rename_i ay
  go_ret
  exact⟨by simp[show ¬(1≤B) from by omega],⟨rfl,rfl,rfl,by simp,fun b af=>heap_alloc_old w _ af⟩,Nat.le_refl _⟩
theorem aE1 (B:Int)(b:Bool)(w:World)(h:js w 0 .i64 eM):Calls prog 257 #[.agg #[.int .i64 0,.int .i64 5,.int .i64 B,.int .i64 0,.int .i64 0,.bool b]] w fun e w'=>e= .returned (.bool (decide (1≤B∧B≤31)))∧(Below w.heap.size w w'∧w.drawn≤w'.drawn):=by
 have ad:=kW h (c:=4) rfl;have aI:0 < w.heap.size:=by obtain⟨_,_,h⟩:=h;exact (Array.getElem?_eq_some_iff.1 h).1
 clear h
 go_enter func257,ntmps257
 go_wp2
 ·rename_i ay
  go_ret
  exact⟨by simp[ay],⟨rfl,rfl,rfl,by simp,fun b af=>heap_alloc_old w _ af⟩,Nat.le_refl _⟩
 ·rename_i ay
  go_ret
  exact⟨by simp[show ¬(1≤B) from by omega],⟨rfl,rfl,rfl,by simp,fun b af=>heap_alloc_old w _ af⟩,Nat.le_refl _⟩
theorem aE2 (B:Int)(b:Bool)(w:World)(h:js w 0 .i64 eM):Calls prog 257 #[.agg #[.int .i64 0,.int .i64 6,.int .i64 B,.int .i64 0,.int .i64 0,.bool b]] w fun e w'=>e= .returned (.bool (decide (1≤B∧B≤30)))∧(Below w.heap.size w w'∧w.drawn≤w'.drawn):=by
 have ad:=kW h (c:=5) rfl;have aI:0 < w.heap.size:=by obtain⟨_,_,h⟩:=h;exact (Array.getElem?_eq_some_iff.1 h).1
 clear h
 go_enter func257,ntmps257
 go_wp2
 ·rename_i ay
  go_ret
  exact⟨by simp[ay],⟨rfl,rfl,rfl,by simp,fun b af=>heap_alloc_old w _ af⟩,Nat.le_refl _⟩
 ·rename_i ay
  go_ret
  exact⟨by simp[show ¬(1≤B) from by omega],⟨rfl,rfl,rfl,by simp,fun b af=>heap_alloc_old w _ af⟩,Nat.le_refl _⟩
theorem aE3 (B:Int)(b:Bool)(w:World)(h:js w 0 .i64 eM):Calls prog 257 #[.agg #[.int .i64 0,.int .i64 7,.int .i64 B,.int .i64 0,.int .i64 0,.bool b]] w fun e w'=>e= .returned (.bool (decide (1≤B∧B≤31)))∧(Below w.heap.size w w'∧w.drawn≤w'.drawn):=by
 have ad:=kW h (c:=6) rfl;have aI:0 < w.heap.size:=by obtain⟨_,_,h⟩:=h;exact (Array.getElem?_eq_some_iff.1 h).1
 clear h
 go_enter func257,ntmps257
 go_wp2
 ·rename_i ay
  go_ret
  exact⟨by simp[ay],⟨rfl,rfl,rfl,by simp,fun b af=>heap_alloc_old w _ af⟩,Nat.le_refl _⟩
 ·rename_i ay
  go_ret
  exact⟨by simp[show ¬(1≤B) from by omega],⟨rfl,rfl,rfl,by simp,fun b af=>heap_alloc_old w _ af⟩,Nat.le_refl _⟩
theorem aE4 (B:Int)(b:Bool)(w:World)(h:js w 0 .i64 eM):Calls prog 257 #[.agg #[.int .i64 0,.int .i64 8,.int .i64 B,.int .i64 0,.int .i64 0,.bool b]] w fun e w'=>e= .returned (.bool (decide (1≤B∧B≤31)))∧(Below w.heap.size w w'∧w.drawn≤w'.drawn):=by
 have ad:=kW h (c:=7) rfl;have aI:0 < w.heap.size:=by obtain⟨_,_,h⟩:=h;exact (Array.getElem?_eq_some_iff.1 h).1
 clear h
 go_enter func257,ntmps257
 go_wp2
 ·rename_i ay
  go_ret
  exact⟨by simp[ay],⟨rfl,rfl,rfl,by simp,fun b af=>heap_alloc_old w _ af⟩,Nat.le_refl _⟩
 ·rename_i ay
  go_ret
  exact⟨by simp[show ¬(1≤B) from by omega],⟨rfl,rfl,rfl,by simp,fun b af=>heap_alloc_old w _ af⟩,Nat.le_refl _⟩
theorem aE5 (B:Int)(b:Bool)(w:World)(h:js w 0 .i64 eM):Calls prog 257 #[.agg #[.int .i64 0,.int .i64 9,.int .i64 B,.int .i64 0,.int .i64 0,.bool b]] w fun e w'=>e= .returned (.bool (decide (1≤B∧B≤30)))∧(Below w.heap.size w w'∧w.drawn≤w'.drawn):=by
 have ad:=kW h (c:=8) rfl;have aI:0 < w.heap.size:=by obtain⟨_,_,h⟩:=h;exact (Array.getElem?_eq_some_iff.1 h).1
 clear h
 go_enter func257,ntmps257
 go_wp2
 ·rename_i ay
  go_ret
  exact⟨by simp[ay],⟨rfl,rfl,rfl,by simp,fun b af=>heap_alloc_old w _ af⟩,Nat.le_refl _⟩
 ·rename_i ay
  go_ret
  exact⟨by simp[show ¬(1≤B) from by omega],⟨rfl,rfl,rfl,by simp,fun b af=>heap_alloc_old w _ af⟩,Nat.le_refl _⟩
theorem aE6 (B:Int)(b:Bool)(w:World)(h:js w 0 .i64 eM):Calls prog 257 #[.agg #[.int .i64 0,.int .i64 10,.int .i64 B,.int .i64 0,.int .i64 0,.bool b]] w fun e w'=>e= .returned (.bool (decide (1≤B∧B≤31)))∧(Below w.heap.size w w'∧w.drawn≤w'.drawn):=by
 have ad:=kW h (c:=9) rfl;have aI:0 < w.heap.size:=by obtain⟨_,_,h⟩:=h;exact (Array.getElem?_eq_some_iff.1 h).1
 clear h
 go_enter func257,ntmps257
 go_wp2
 ·rename_i ay
  go_ret
  exact⟨by simp[ay],⟨rfl,rfl,rfl,by simp,fun b af=>heap_alloc_old w _ af⟩,Nat.le_refl _⟩
 ·rename_i ay
  go_ret
  exact⟨by simp[show ¬(1≤B) from by omega],⟨rfl,rfl,rfl,by simp,fun b af=>heap_alloc_old w _ af⟩,Nat.le_refl _⟩
theorem aE7 (B:Int)(b:Bool)(w:World)(h:js w 0 .i64 eM):Calls prog 257 #[.agg #[.int .i64 0,.int .i64 11,.int .i64 B,.int .i64 0,.int .i64 0,.bool b]] w fun e w'=>e= .returned (.bool (decide (1≤B∧B≤30)))∧(Below w.heap.size w w'∧w.drawn≤w'.drawn):=by
 have ad:=kW h (c:=10) rfl;have aI:0 < w.heap.size:=by obtain⟨_,_,h⟩:=h;exact (Array.getElem?_eq_some_iff.1 h).1
 clear h
 go_enter func257,ntmps257
 go_wp2
 ·rename_i ay
  go_ret
  exact⟨by simp[ay],⟨rfl,rfl,rfl,by simp,fun b af=>heap_alloc_old w _ af⟩,Nat.le_refl _⟩
 ·rename_i ay
  go_ret
  exact⟨by simp[show ¬(1≤B) from by omega],⟨rfl,rfl,rfl,by simp,fun b af=>heap_alloc_old w _ af⟩,Nat.le_refl _⟩
theorem aE8 (B:Int)(b:Bool)(w:World)(h:js w 0 .i64 eM):Calls prog 257 #[.agg #[.int .i64 0,.int .i64 12,.int .i64 B,.int .i64 0,.int .i64 0,.bool b]] w fun e w'=>e= .returned (.bool (decide (1≤B∧B≤31)))∧(Below w.heap.size w w'∧w.drawn≤w'.drawn):=by
 have ad:=kW h (c:=11) rfl;have aI:0 < w.heap.size:=by obtain⟨_,_,h⟩:=h;exact (Array.getElem?_eq_some_iff.1 h).1
 clear h
 go_enter func257,ntmps257
 go_wp2
 ·rename_i ay
  go_ret
  exact⟨by simp[ay],⟨rfl,rfl,rfl,by simp,fun b af=>heap_alloc_old w _ af⟩,Nat.le_refl _⟩
 ·rename_i ay
  go_ret
  exact⟨by simp[show ¬(1≤B) from by omega],⟨rfl,rfl,rfl,by simp,fun b af=>heap_alloc_old w _ af⟩,Nat.le_refl _⟩
def pq (m:Int):Int:=if m=2 then 29 else eM.getD (m-1).toNat 0
def AW (h:cX):Bool:=
 if h.cB=0 then decide (1≤h.rK∧h.rK≤12∧h.A1=0∧h.offset=0∧1≤h.ah∧h.ah≤pq h.rK)
 else if h.cB=1 then decide (-100≤h.offset∧h.offset≤100∧h.rK=0∧h.ah=0∧h.A1=0)
 else if h.cB=2 then decide (1≤h.rK∧h.rK≤12∧(h.ah= -1∨1≤h.ah∧h.ah≤5)∧0≤h.A1∧h.A1≤6∧ -7≤h.offset∧h.offset≤7)
 else false
theorem aEW (m B:Int)(b:Bool)(h1:1≤m)(G:m≤12):aO prog 257 [.agg [.int .i64 0,.int .i64 m,.int .i64 B,.int .i64 0,.int .i64 0,.bool b]] [] (fun v rs=>v= .bool (decide (1≤B∧B≤pq m))∧rs= []):=by
 refine aO.D2 ?_;rintro C dA N aA ⟨_,_,ht⟩ dv;simp only[aE,Rep] at dv;obtain⟨v1,r1,rfl,⟨vs,rfl,an⟩,rfl⟩:=dv;obtain⟨a0,q0,g0,rfl,cH,q1,g1,rfl,ff,eQ,bR,rfl,a3,eF,dq,rfl,a4,iR,gP,rfl,a5,pW,uN,rfl,rfl⟩:=an;have kU:vs= #[.int .i64 0,.int .i64 m,.int .i64 B,.int .i64 0,.int .i64 0,.bool b]:=by
  cases vs;simp_all
 subst kU;have key: ∀ {M:Int},pq m=M→(Calls prog 257 #[.agg #[.int .i64 0,.int .i64 m,.int .i64 B,.int .i64 0,.int .i64 0,.bool b]] C.w fun e w'=>e= .returned (.bool (decide (1≤B∧B≤M)))∧(Below C.w.heap.size C.w w'∧C.w.drawn≤w'.drawn))→
  Calls prog 257 #[.agg #[.int .i64 0,.int .i64 m,.int .i64 B,.int .i64 0,.int .i64 0,.bool b]] C.w fun e w'=> ∃ aZ v,e= .returned aZ∧(Below C.w.heap.size C.w w'∧C.w.drawn≤w'.drawn)∧(∀ aB:bD,jB C aB→Rep aB v aZ)∧v= .bool (decide (1≤B∧B≤pq m))∧ []=([]:List Z):=by
  intro M ba h;refine h.mono ?_;rintro e w' ⟨rfl,af⟩;exact⟨_,.bool (decide (1≤B∧B≤M)),rfl,af,fun aB _=>by rw[Rep],by rw[ba],rfl⟩
 obtain rfl|rfl|rfl|rfl|rfl|rfl|rfl|rfl|rfl|rfl|rfl|rfl:m=1∨m=2∨m=3∨m=4∨m=5∨m=6∨m=7∨m=8∨m=9∨m=10∨m=11∨m=12:=by omega
 ·exact key (by simp[pq,eM]) (aEX B b C.w ht)
 ·exact key (by simp[pq,eM]) (aEY B b C.w ht)
 ·exact key (by simp[pq,eM]) (aEZ B b C.w ht)
 ·exact key (by simp[pq,eM]) (aE0 B b C.w ht)
 ·exact key (by simp[pq,eM]) (aE1 B b C.w ht)
 ·exact key (by simp[pq,eM]) (aE2 B b C.w ht)
 ·exact key (by simp[pq,eM]) (aE3 B b C.w ht)
 ·exact key (by simp[pq,eM]) (aE4 B b C.w ht)
 ·exact key (by simp[pq,eM]) (aE5 B b C.w ht)
 ·exact key (by simp[pq,eM]) (aE6 B b C.w ht)
 ·exact key (by simp[pq,eM]) (aE7 B b C.w ht)
 ·exact key (by simp[pq,eM]) (aE8 B b C.w ht)
theorem aih (k m B ic o:Int)(b:Bool):AW ⟨k,m,B,ic,o,b⟩=true↔(k=0∧1≤m∧m≤12∧ic=0∧o=0∧1≤B∧B≤pq m)∨(k=1∧ -100≤o∧o≤100∧m=0∧B=0∧ic=0)∨
 (k=2∧1≤m∧m≤12∧(B= -1∨1≤B∧B≤5)∧0≤ic∧ic≤6∧ -7≤o∧o≤7):=by
 unfold AW;simp only;split
 ·subst_vars;simp
 ·split
  ·subst_vars;simp
  ·split
   ·subst_vars;simp
   ·simp_all
theorem aET (h:cX):aO prog 257 [.agg (aJ.J h)] [] (fun v rs=>v= .bool (AW h)∧rs= []):=by
 obtain⟨k,m,B,ic,o,b⟩:=h;rw[T4]
 by_cases h0:k=0∧1≤m∧m≤12∧ic=0∧o=0
 ·obtain⟨rfl,h1,G,rfl,rfl⟩:=h0;refine (aEW m B b h1 G).mono ?_;rintro _ _ ⟨rfl,rfl⟩;simp[AW,h1,G]
 ·refine cu func257 afG (by simp[Nc,T5]) ?_;simp only[go_sem,Nc,T5]
  repeat' ((first|refine gv ?_ ?_|refine gw ?_ ?_|refine cf ?_ ?_|refine dj ?_ ?_)<;>intro aw<;>(have ak:=aw;try simp only[bC] at ak)<;>(first|omega| (simp only[go_sem,aw,];clear aw)))
  all_goals first
   | (exfalso;simp only[bC] at *;omega)
   | (refine E.bg rfl ⟨congrArg F.bool ?_,rfl⟩;rw[Bool.eq_iff_iff,aih];simp only[bC,Bool.false_eq_true,false_iff,true_iff,iff_true,iff_false,and_true,true_and] at *;omega)
def oD (l:List cX):Bool:=l.all AW
def ng (l:List cX):Int:=if 1024 < l.length then 3 else if oD l=true then 0 else 1
theorem ahQ (l:List cX)(hl:l.length≤9223372036854775806):aO prog 198 [.pure 6 (ai l)] [] (fun v rs=>v= .int .i64 (ng l)∧rs= []):=by
 refine cu func198 aeQ (by simp[yD,A0]) ?_;simp only[go_sem,yD,A0];refine cf ?_ ?_<;>intro dI<;>simp only[bC] at dI<;>simp only[go_sem,yD,A0]
 ·exact E.bg rfl ⟨by rw[ng,if_pos (by omega)],rfl⟩
 have pM:ng l=if oD l=true then 0 else 1:=by rw[ng,if_neg (by omega)]
 refine dN (fun D r=> ∃ (c:Nat),c≤l.length∧oD l=oD (l.drop c)∧D= [(8,.pure 6 (ai l)),(9,.int .i64 l.length),(10,.int .i64 c)]∧r= [])
  (fun D _=>match bs D 10 with| .int _ j=>(l.length-j).toNat|_=>0) ?_ ?_
 ·exact E.ac ⟨0,by omega,by simp,rfl,rfl⟩
 ·rintro D r ⟨c,av,af,rfl,rfl⟩;simp only[go_sem,yD,A0];refine cf ?_ ?_<;>intro ct<;>simp only[bC] at ct<;>simp only[go_sem,yD,A0]
  ·have aI:c < l.length:=by omega
   refine⟨by omega,by omega,?_⟩
   try simp only[Int.toNat_natCast]
   rw[cT aI];rw[List.drop_eq_getElem_cons aI,oD,oD,List.all_cons] at af;generalize l[c]=p at af ⊢;have aP:=dB (c:=c) (by omega);simp only[go_sem,yD,A0,T4];refine bM (aET p) rfl rfl ?_;simp only[go_sem];refine cf ?_ ?_<;>intro pd<;>simp only[bC] at pd<;>simp only[go_sem,yD,A0,aP]
   ·exact E.bg rfl ⟨by rw[pM,if_neg (by rw[oD,af,pd];simp)],rfl⟩
   ·(refine E.bB [] ?_;simp only[go_sem])
    refine E.ac ⟨⟨c+1,by omega,?_,rfl,rfl⟩,?_⟩
    ·rw[oD,af,pd,Bool.true_and,oD]
    ·simp only[go_sem];omega
  ·have yF:c=l.length:=by omega
   rw[yF,List.drop_length] at af;exact E.bg rfl ⟨by rw[pM,af];rfl,rfl⟩
theorem ahM {l:List cX}(h:oD l=true){c:Nat}(av:c < l.length):AW l[c]=true:=List.all_eq_true.1 h _ (List.getElem_mem av)
theorem TQ (h:cX):List.take 6 (aJ.J h)=aJ.J h:=rfl
theorem TR (h:cX): (aJ.J h).length=6:=rfl
theorem ahN (h:cX): (aJ.J h).all Abs.cV=true:=rfl
structure dP where
 name:ByteArray
 ir:ByteArray
 jU:Int
 R:Int
 ab:Int
 ic:Int
 eN:Int
def dP.cells (p:dP):List F:= [.str p.name,.str p.ir,.int .i64 p.jU,.int .i64 p.R,.int .i64 p.ab,.int .i64 p.ic,.int .i64 p.eN]
instance:aJ dP:=⟨dP.cells,7,fun _=>rfl,fun _=>rfl,fun _=>rfl⟩
theorem A4 (p:dP):aJ.J p= [.str p.name,.str p.ir,.int .i64 p.jU,.int .i64 p.R,.int .i64 p.ab,.int .i64 p.ic,.int .i64 p.eN]:=rfl
theorem aFK:aJ.U dP=7:=rfl
attribute [go_sem] aFK
def jV (I:ByteArray)(c:Nat):Nat:=(I.data.getD c 0).toNat
def C9 (J:Nat):Bool:=(decide (97≤J)&&decide (J≤122))||(decide (48≤J)&&decide (J≤57))||decide (J=95)
def xc (I:ByteArray)(n:Nat):Bool:=(List.range n).all fun c=>C9 (jV I c)
def rO (I:ByteArray):Bool:=decide (1≤I.size)&&decide (I.size≤24)&&decide (97≤jV I 0)&&decide (jV I 0≤122)&&xc I I.size
theorem aFX (I:ByteArray)(n:Nat):xc I (n+1)=(xc I n&&C9 (jV I n)):=by
 unfold xc;rw[List.range_succ,List.all_append];simp
theorem aFY {I:ByteArray}{c n:Nat}(av:c < n)(h:C9 (jV I c)=false):xc I n=false:=by
 unfold xc;rw[List.all_eq_false];exact⟨c,List.mem_range.2 av,by simp[h]⟩
theorem CZ (I:ByteArray):aO prog 258 [.str I] [] (fun v rs=>v= .bool (rO I)∧rs= []):=by
 refine cu func258 afH (by simp[AH,Da]) ?_;have af: ((I.data.getD 0 0).toNat:Int)=(jV I 0:Int):=rfl;unfold rO;simp only[go_sem,AH,Da]
 by_cases h1: (I.size:Int) < 1
 ·simp only[go_sem,h1];exact E.bg rfl ⟨by rw[show decide (1≤I.size)=false from decide_eq_false (by omega)];rfl,rfl⟩
 have ii: (0:Int) < I.size:=by omega
 by_cases G: (I.size:Int)>24
 ·simp only[go_sem,h1,G];exact E.bg rfl ⟨by rw[show decide (I.size≤24)=false by simp;omega];simp,rfl⟩
 simp only[go_sem,h1,G,ii,Int.toNat_zero,af]
 by_cases au: (jV I 0:Int) < 97
 ·simp only[go_sem,au,ii,Int.toNat_zero,af];exact E.bg rfl ⟨by rw[show decide (97≤jV I 0)=false by simp;omega];simp,rfl⟩
 simp only[go_sem,au,ii,Int.toNat_zero,af]
 by_cases bv: (jV I 0:Int)>122
 ·simp only[go_sem,bv];exact E.bg rfl ⟨by rw[show decide (jV I 0≤122)=false by simp;omega];simp,rfl⟩
 simp only[go_sem,bv];have aj: (decide (1≤I.size)&&decide (I.size≤24)&&decide (97≤jV I 0)&&decide (jV I 0≤122)&&xc I I.size)=xc I I.size:=by
  rw[show decide (1≤I.size)=true by simp;omega,show decide (I.size≤24)=true by simp;omega,show decide (97≤jV I 0)=true by simp;omega,show decide (jV I 0≤122)=true by simp;omega];simp
 rw[aj];refine dN (fun D r=> ∃ (c:Nat),c≤I.size∧xc I c=true∧D= [(0,.str I),(24,.int .i64 I.size),(25,.int .i64 c)]∧r= [])
  (fun D _=>match bs D 25 with| .int _ j=>(I.size-j).toNat|_=>0) ?_ ?_
 ·exact E.ac ⟨0,by omega,rfl,rfl,rfl⟩
 ·rintro D r ⟨c,av,hall,rfl,rfl⟩;have aP:=dB (c:=c) (by omega);simp only[go_sem,AH,Da];refine cf ?_ ?_<;>intro ct<;>simp only[bC] at ct<;>simp only[go_sem,AH,Da]
  ·have aI:c < I.size:=by omega
   have N3: ((I.data.getD c 0).toNat:Int)=(jV I c:Int):=rfl;have OX: (0:Int)≤c:=by omega
   have gm: (c:Int) < I.size:=by omega
   have ao:=aFX I c;rw[hall,Bool.true_and] at ao;simp only[go_sem,OX,gm,Int.toNat_natCast,N3];have aFZ:C9 (jV I c)=false→xc I I.size=false:=aFY aI
   by_cases n1:C9 (jV I c)=true
   ·rw[n1] at ao;unfold C9 at n1;have eo: ¬(((jV I c:Int) < 97∨(jV I c:Int)>122)∧((jV I c:Int) < 48∨(jV I c:Int)>57)∧(jV I c:Int)≠95):=by
     simp only[Bool.or_eq_true,Bool.and_eq_true,decide_eq_true_eq] at n1;omega
    repeat' ((first|refine gv ?_ ?_|refine gw ?_ ?_|refine cf ?_ ?_|refine dj ?_ ?_)<;>intro aw<;>(have ak:=aw;try simp only[bC] at ak)<;>(first|omega| (simp only[go_sem,aw,AH,Da,aP];clear aw)))
    all_goals (try simp only[bC] at *)
    all_goals first
     | (exfalso;omega)
     | (refine E.ac ⟨⟨c+1,by omega,ao,rfl,rfl⟩,?_⟩;simp only[go_sem];omega)
   ·have T3:=aFZ (by simpa using n1);rw[T3];unfold C9 at n1;have eo: ((jV I c:Int) < 97∨(jV I c:Int)>122)∧((jV I c:Int) < 48∨(jV I c:Int)>57)∧(jV I c:Int)≠95:=by
     simp only[Bool.or_eq_true,Bool.and_eq_true,decide_eq_true_eq] at n1;omega
    repeat' ((first|refine gv ?_ ?_|refine gw ?_ ?_|refine cf ?_ ?_|refine dj ?_ ?_)<;>intro aw<;>(have ak:=aw;try simp only[bC] at ak)<;>(first|omega| (simp only[go_sem,aw,AH,Da,aP];clear aw)))
    all_goals (try simp only[bC] at *)
    all_goals first
     | (exfalso;omega)
     |exact E.bg rfl ⟨rfl,rfl⟩
  ·obtain rfl:c=I.size:=by omega
   exact E.bg rfl ⟨by rw[hall],rfl⟩
def ez (a b:ByteArray):Bool:=a.toList==b.toList
def lW (w:dP):Bool:=ez w.ir ⟨#[]⟩
def A6 (w:dP):Bool:=rO w.name&&(lW w||rO w.ir)&&decide (0≤w.jU∧w.jU≤1000∧0≤w.R∧w.R < 1440∧0≤w.ab∧w.ab≤1440∧0≤w.ic∧w.ic≤127∧0≤w.eN∧w.eN≤2)
set_option maxHeartbeats 2000000 in
theorem aFT (w:dP):aO prog 199 [.agg (aJ.J w)] [] (fun v rs=>v= .bool (A6 w)∧rs= []):=by
 refine cu func199 aeR (by simp[pX,qX]) ?_;unfold A6;simp only[go_sem,pX,qX,A4];refine bM (CZ w.name) rfl rfl ?_
 by_cases h1:rO w.name=true
 rotate_left
 ·have ii:rO w.name=false:=by simpa using h1
  rw[ii];simp only[go_sem,pX,qX];exact E.bg rfl ⟨by simp,rfl⟩
 rw[h1];simp only[go_sem,pX,qX];have dp: (w.ir.toList==({data:= #[]}:ByteArray).toList)=lW w:=rfl;rw[dp]
 by_cases fS: (lW w||rO w.ir)=true
 rotate_left
 ·have G:lW w=false:=by
   cases h:lW w
   ·rfl
   ·rw[h] at fS;simp at fS
  have au:rO w.ir=false:=by
   cases h:rO w.ir
   ·rfl
   ·rw[h] at fS;simp at fS
  rw[G,au];simp only[go_sem,pX,qX];refine bM (CZ w.ir) rfl rfl ?_;rw[au];simp only[go_sem,pX,qX];exact E.bg rfl ⟨rfl,rfl⟩
 rw[fS,Bool.true_and]
 by_cases aA:0≤w.jU∧w.jU≤1000∧0≤w.R∧w.R < 1440∧0≤w.ab∧w.ab≤1440∧0≤w.ic∧w.ic≤127∧0≤w.eN∧w.eN≤2
 ·rw[decide_eq_true aA];obtain⟨bO,cd,fk,hB,jE,jF,Nk,IP,aF0,aiM⟩:=aA;have rh:w.jU≥0:=bO;have N5:w.R≥0:=fk;have N6:w.ab≥0:=jE;have aiN:w.ic≥0:=Nk;have aiO:w.eN≥0:=aF0;cases G:lW w
  ·rw[G,Bool.false_or] at fS;simp only[go_sem,pX,qX];refine bM (CZ w.ir) rfl rfl ?_;rw[fS];simp only[go_sem,pX,qX,rh,cd,N5,hB,N6,jF,aiN,IP,aiO,aiM];exact E.bg rfl ⟨rfl,rfl⟩
  ·simp only[go_sem,pX,qX,rh,cd,N5,hB,N6,jF,aiN,IP,aiO,aiM];exact E.bg rfl ⟨rfl,rfl⟩
 ·rw[decide_eq_false aA];cases G:lW w
  ·rw[G,Bool.false_or] at fS;simp only[go_sem,pX,qX];refine bM (CZ w.ir) rfl rfl ?_;rw[fS];simp only[go_sem,pX,qX]
   repeat' ((first|refine gv ?_ ?_|refine gw ?_ ?_|refine cf ?_ ?_|refine dj ?_ ?_)<;>intro aw<;>(have ak:=aw;try simp only[bC] at ak)<;>(first|omega| (simp only[go_sem,aw,pX,qX];clear aw)))
   all_goals (try simp only[bC] at *)
   all_goals first
    | (exfalso;omega)
    |exact E.bg rfl ⟨rfl,rfl⟩
    |exact E.bg rfl ⟨congrArg F.bool (decide_eq_false (by omega)),rfl⟩
  ·simp only[go_sem,pX,qX]
   repeat' ((first|refine gv ?_ ?_|refine gw ?_ ?_|refine cf ?_ ?_|refine dj ?_ ?_)<;>intro aw<;>(have ak:=aw;try simp only[bC] at ak)<;>(first|omega| (simp only[go_sem,aw,pX,qX];clear aw)))
   all_goals (try simp only[bC] at *)
   all_goals first
    | (exfalso;omega)
    |exact E.bg rfl ⟨rfl,rfl⟩
    |exact E.bg rfl ⟨congrArg F.bool (decide_eq_false (by omega)),rfl⟩
def qW (al:List dP):Bool:=al.all A6
def vm (M:cc)(h:List cX)(al:List dP):Int:=if fe M=0 then (if ng h=0 then (if 16 < al.length then 3 else if qW al=true then 0 else 1) else ng h) else fe M
theorem agv (M:cc)(h:List cX)(hl:h.length≤9223372036854775806)(al:List dP)(aP:al.length≤1000000):aO prog 113 [M.v,.pure 6 (ai h),.pure 7 (ai al)] [] (fun v rs=>v= .int .i64 (vm M h al)∧rs= []):=by
 refine cu func113 adE (by simp[CQ,F1]) ?_;unfold vm;simp only[go_sem,CQ,F1,cc.v];refine bM (Ch M) rfl rfl ?_;simp only[go_sem]
 by_cases ba:fe M=0
 rotate_left
 ·have aFS: (fe M != 0)=true:=by simp[ba]
  simp only[go_sem,aFS];exact E.bg rfl ⟨by rw[if_neg ba],rfl⟩
 rw[ba,if_pos rfl];simp only[go_sem];refine bM (ahQ h hl) rfl rfl ?_;simp only[go_sem]
 by_cases an:ng h=0
 rotate_left
 ·have df: (ng h != 0)=true:=by simp[an]
  simp only[go_sem,df];exact E.bg rfl ⟨by rw[if_neg an],rfl⟩
 rw[an,if_pos rfl];simp only[go_sem]
 by_cases h1: (al.length:Int)>16
 ·simp only[go_sem,h1];exact E.bg rfl ⟨by rw[if_pos (by omega)],rfl⟩
 simp only[go_sem,h1];rw[if_neg (by omega)];refine dN (fun D r=> ∃ (c:Nat),c≤al.length∧qW al=qW (al.drop c)∧D= [(24,.pure 7 (ai al)),(25,.int .i64 al.length),(26,.int .i64 c)]∧r= [])
  (fun D _=>match bs D 26 with| .int _ j=>(al.length-j).toNat|_=>0) ?_ ?_
 ·(refine E.bB [] ?_;simp only[go_sem])
  exact E.ac ⟨0,by omega,by simp,rfl,rfl⟩
 ·rintro D r ⟨c,av,af,rfl,rfl⟩;simp only[go_sem,CQ,F1];refine cf ?_ ?_<;>intro ct<;>simp only[bC] at ct<;>simp only[go_sem,CQ,F1]
  ·have aI:c < al.length:=by omega
   refine⟨by omega,by omega,?_⟩
   try simp only[Int.toNat_natCast]
   rw[cT aI];rw[List.drop_eq_getElem_cons aI,qW,qW,List.all_cons] at af;generalize al[c]=p at af ⊢;have aP:=dB (c:=c) (by omega);simp only[go_sem,CQ,F1,A4];refine bM (aFT p) rfl rfl ?_;simp only[go_sem];cases ak:A6 p
   ·simp only[go_sem];exact E.bg rfl ⟨by rw[if_neg (by rw[qW,af,ak];simp)],rfl⟩
   ·simp only[go_sem,aP]
    (refine E.bB [] ?_;simp only[go_sem])
    refine E.ac ⟨⟨c+1,by omega,?_,rfl,rfl⟩,?_⟩
    ·rw[qW,af,ak,Bool.true_and,qW]
    ·simp only[go_sem];omega
  ·have yF:c=al.length:=by omega
   rw[yF,List.drop_length] at af;exact E.bg rfl ⟨by rw[af];rfl,rfl⟩
theorem FX {a b:ByteArray}:ez a b=true↔a.toList=b.toList:=by unfold ez;simp
theorem FI (a:ByteArray):ez a a=true:=FX.2 rfl
end Go.Proofs.YtpincjkjoeopkaaGreatDoor.Pm
