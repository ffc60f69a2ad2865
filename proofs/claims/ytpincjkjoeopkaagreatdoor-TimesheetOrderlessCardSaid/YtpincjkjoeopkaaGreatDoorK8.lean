/- The abstract machine. -/
import Derived.Test.YtpincjkjoeopkaaGreatDoorK5
import Derived.Shelf.SlSortCmp.NoneTotal
set_option linter.unusedSimpArgs false
set_option linter.unusedVariables false
set_option linter.unusedSectionVars false
namespace Go.Abs
open Go.Sort Go.Proofs Go.Shelf Go.RowKit
variable [dw]
def AT:z→Value
 | .int k n=> .int k n
 | .bool b=> .bool b
 | .str E=> .string E
 |_=>undef
def yx:z→Bool
 | .int .. | .bool _| .str _=>true
 |_=>false
class tR (bd:Type) [aG bd]:Prop where
 lt: ∀ x:bd,(aG.F x).all yx=true
def fg {bd:Type}[aG bd](x:bd):List Value:=(aG.F x).map AT
theorem VT {C:bv}{a:z}{v:Value}(h:yx a=true):Rep C a v↔v=AT a:=by
 cases a<;>simp[yx] at h<;>simp[Rep,AT]
theorem aqi {a:z}(h:yx a=true): (AT a).oneCell'=true:=by
 cases a<;>simp[yx] at h<;>rfl
theorem CQ {C:bv}: ∀ {ai:List z} {vs:List Value},ai.all yx=true→(ay C ai vs↔vs=ai.map AT)
 | [],vs,_=>by simp[ay]
 |a::ai,vs,h=>by
  simp only[List.all_cons,Bool.and_eq_true] at h;rw[ay,List.map_cons];constructor
  ·rintro⟨v,bW,rfl,h1,B⟩;rw[(VT h.1).1 h1,(CQ h.2).1 B]
  ·rintro rfl;exact⟨_,_,_root_.id rfl,(VT h.1).2 (_root_.id rfl),(CQ h.2).2 (_root_.id rfl)⟩
section
variable {bd:Type} [aG bd] [tR bd]
theorem VU (x:bd): (fg x).length=aG.N bd:=by rw[fg,List.length_map,aG.len]
theorem VV (x:bd): ∀ v∈fg x,v.oneCell'=true:=by
 intro v ag;obtain⟨a,aw,rfl⟩:=List.mem_map.1 ag;exact aqi (List.all_eq_true.1 (tR.lt x) a aw)
theorem Pb: ∀ (l:List bd),((ac l).flatten).all yx=true
 | []=>_root_.id rfl
 |x::l=>by
  show ((aG.F x++(ac l).flatten).all yx)=true;rw[List.all_append,tR.lt x,Pb l];exact _root_.id rfl
theorem JH: ∀ (l:List bd),((ac l).flatten).map AT=(l.map fg).flatten
 | []=>_root_.id rfl
 |x::l=>by
  show (aG.F x++(ac l).flatten).map AT=fg x++(l.map fg).flatten;rw[List.map_append,JH l];exact _root_.id rfl
theorem VW {C:bv}(l:List bd):fj C (aG.N bd) (ac l) ((l.map fg).flatten):=by
 refine⟨?_,?_,?_⟩
 ·intro e he;obtain⟨x,_,rfl⟩:=List.mem_map.1 he;exact aG.len x
 ·rw[←JH];exact (CQ (Pb l)).2 (_root_.id rfl)
 ·intro v ag;obtain⟨e,he,ag⟩:=List.mem_flatten.1 ag;obtain⟨x,_,rfl⟩:=List.mem_map.1 he;exact VV x v ag
theorem VX [Inhabited bd]{k:Nat}(I: ∀ x:bd,(fg x).length=k): ∀ (l:List bd) (t:Nat),t < l.length*k→((l.map fg).flatten)[t]? =(fg (l.getD (t / k) default))[t%k]?
 | [],t,h=>by simp at h
 |x::l,t,h=>by
  rw[List.length_cons,Nat.add_mul,Nat.one_mul] at h;show (fg x++(l.map fg).flatten)[t]? =_;have JI:0 < k:=by
   rcases Nat.eq_zero_or_pos k with h0|h0
   ·subst h0;simp at h
   ·exact h0
  rw[List.getElem?_append,I];split
  ·rename_i aC;rw[Nat.div_eq_of_lt aC,Nat.mod_eq_of_lt aC];rfl
  ·rename_i Ad;obtain⟨u,rfl⟩: ∃ u,t=u+k:=⟨t-k,by omega⟩;rw[Nat.add_sub_cancel,Nat.add_div_right _ JI,Nat.add_mod_right,VX I l u (by omega)];simp
theorem VY [Inhabited bd](l:List bd): (Sort.flatK fg (aG.N bd) l.toArray).toList=(l.map fg).flatten:=by
 have I:=VU (bd:=bd);have hl: ((l.map fg).flatten).length=l.length*aG.N bd:=by
  rw[←JH,List.length_map];exact (xY fun e he=>by obtain⟨x,_,rfl⟩:=List.mem_map.1 he;exact aG.len x).trans (by rw[bO])
 apply List.ext_getElem?;intro t
 by_cases ht:t < l.length*aG.N bd
 ·have JI:0 < aG.N bd:=by
   rcases Nat.eq_zero_or_pos (aG.N bd) with h0|h0
   ·rw[h0] at ht;simp at ht
   ·exact h0
  rw[VX I l t ht];have aq:t / aG.N bd < l.length:=by rw[Nat.div_lt_iff_lt_mul JI];exact ht
  have hm:t%aG.N bd < (fg (l.getD (t / aG.N bd) default)).length:=by rw[I];exact Nat.mod_lt _ JI
  rw[Array.getElem?_toList,Array.getElem?_eq_getElem (by rw[size_flatK];simpa using ht),List.getElem?_eq_getElem hm];simp only[Sort.flatK,Array.getElem_map,Array.getElem_range];congr 1;have bF:l.toArray[t / aG.N bd]! =l.getD (t / aG.N bd) default:=by simp[aq]
  rw[bF];exact getElem!_pos (fg (l.getD (t / aG.N bd) default)) _ hm
 ·rw[List.getElem?_eq_none (by rw[Array.length_toList,size_flatK];simpa using ht),List.getElem?_eq_none (by rw[hl];omega)]
end
theorem aqj {W w':World}(bi:w'.os=W.os)(ht:w'.tape=W.tape)(ae:w'.output=W.output)(ak:W.heap.size≤w'.heap.size)(Z: ∀ b,b < W.heap.size→w'.heap[b]? =W.heap[b]?)(aq:W.drawn≤w'.drawn):
 ∃ q aqk,w'=grow (W.drewN q) aqk:=by
 refine⟨w'.drawn-W.drawn,w'.heap.extract W.heap.size w'.heap.size,?_⟩;obtain⟨h,t,o,L,p⟩:=w';simp only at bi ht ae ak Z aq;subst bi;subst ht;subst ae;unfold grow World.drewN;simp only[World.mk.injEq,and_true,true_and];refine⟨?_,by omega⟩;apply Array.ext_getElem?;intro c
 by_cases an:c < W.heap.size
 ·rw[Array.getElem?_append_left an];exact Z c an
 ·rw[Array.getElem?_append_right (by omega)]
  by_cases B:c < h.size
  ·rw[Array.getElem?_eq_getElem B,Array.getElem?_eq_getElem (by simp;omega)];simp only[Array.getElem_extract];congr 2;omega
  ·rw[Array.getElem?_eq_none (by omega),Array.getElem?_eq_none (by simp;omega)]
theorem aK.FV (yy:Dr.o){bd:Type}[aG bd][tR bd][Inhabited bd]{P:Program}{ρ:Ren}{f g:FuncId}{aP:TypeId}(aU:SlLaysF0.n6 P ρ)(hf:ρ.f 6=f)(aql: ∀ w,(isAgg (ρ.t 24)).run P w= .ok true w)(aqm: ∀ w,(Go.sizeOf (ρ.t 24)).run P w= .ok (aG.N bd) w)
 (sB:bd→bd→Int) (rp:SWO (ltOf sB)) (hA: ∀ x y:bd,aK P g [.agg (aG.F x),.agg (aG.F y)] [] fun v rs=>v= .int .i64 (sB x y)∧rs= []) (AU: ∀ args w,(callFunc g args).run P w= .ok (.enter g args) w)
 (l:List bd) (hl:l.length < 4611686018427387904):
 aK P f [.own 0 l.length 0 l.length,.fn g []] [.aa aP (aG.N bd) (ac l)] fun v rs=>v= .bg []∧ ∃ bX:List bd,bX.Perm l∧bX.Pairwise (fun x y=> ¬sB y x < 0)∧rs= [.aa aP (aG.N bd) (ac bX)]:=by
 subst hf;intro C du G ar hG dk;rw[ay] at dk;obtain⟨v0,bW,rfl,ag,aB⟩:=dk;rw[ay] at aB;obtain⟨v1,bW,rfl,mR,aB⟩:=aB;rw[ay] at aB;subst aB;rw[Rep] at mR;obtain⟨aqn,rfl,VZ⟩:=mR;rw[ay] at VZ;have aqo:aqn= #[]:=Array.toList_eq_nil_iff.1 VZ;subst aqo;have hM:C.d[0]? =some (.aa aP (aG.N bd) (ac l)):=by rw[G];rfl
 by_cases h0:l= []
 ·subst h0;rw[Rep] at ag;obtain⟨_,⟨ct,F,rfl⟩,_⟩:=ag;refine (AnyF.slices_SortFunc_none aU ct F _ C.w).mono ?_;rintro e w' ⟨rfl,rfl⟩;exact⟨_,.bg [],C,rfl,rfl,by rw[Rep];exact⟨#[],rfl,by simp[ay]⟩,ar,by rw[G.symm];exact cd.refl C,rfl,[],List.Perm.refl _,List.Pairwise.nil,G⟩
 have ip:0 < l.length:=List.length_pos_iff.2 h0;rcases ar.aa hM with ⟨_,nV⟩|⟨b,cap,aj,ae,wO,lF,es,tA,ed,cY⟩
 ·have:=bO (l:=l);rw[nV] at this;simp at this;omega
 rw[Rep] at ag;obtain⟨gV,_,_,ag⟩:=ag;obtain⟨_,ag⟩:=ag _ _ _ hM;obtain⟨_,p,hC,ag⟩:=ag (by rw[bO]);obtain rfl:=Option.some.inj (ae.symm.trans hC);obtain⟨a,F,rfl,_,AN,CO,O7,_⟩:=ag;obtain⟨aqc,rfl⟩:=O7 rfl;have O8:a=⟨b,0,none⟩:=by cases a;simp_all
 subst O8;obtain⟨vs,iV,nT⟩:=cY.sm;have jz:vs=(l.map fg).flatten:=by rw[(CQ (Pb l)).1 iV.ks,JH]
 subst jz;have so:b < C.w.heap.size:=(Array.getElem?_eq_some_iff.1 lF).1;have rB:HoldsK fg (aG.N bd) C.w b 0 l.toArray:=by
  intro j aT;have nA:j < (Sort.flatK fg (aG.N bd) l.toArray).toList.length:=by simpa using aT
  refine⟨?_,by simp[World.frozen?,lF]⟩;have h1:=nT j ((Sort.flatK fg (aG.N bd) l.toArray)[j]!) (by
   rw[←VY l,Array.getElem?_toList,Array.getElem?_eq_getElem (by simpa using aT)];congr 1;exact (getElem!_pos _ _ _).symm)
  exact h1
 have aqp: ∀ k,k < dw.n→k≠b:=fun k I he=>by subst he;exact hG.2.1 k I 0 F ae
 have aqq:CmpLays P g #[] fg (aG.N bd) sB b 0 l.toArray.size C.w:=by
  intro m os JJ AV x y;have aqr: ∀ k,k < C.w.heap.size→k≠b→(sortWorldK fg (aG.N bd) C.w b 0 m JJ os).heap[k]? =C.w.heap[k]? :=by
   intro k I NF;show ((C.w.heap.modify b _)++os)[k]? =_;rw[Array.getElem?_append_left (by simpa using I),Array.getElem?_modify,if_neg (fun e=>NF e.symm)]
  have JK:C.w.heap.size≤(sortWorldK fg (aG.N bd) C.w b 0 m JJ os).heap.size:=by
   show _≤((C.w.heap.modify b _)++os).size;simp
  have aqs:GOk (ctx0 (sortWorldK fg (aG.N bd) C.w b 0 m JJ os)):=
   ⟨Nat.le_trans hG.1 JK,fun k I i F h=>by simp[ctx0] at h,dw.nP _ _ (fun k I=>aqr k (Nat.lt_of_lt_of_le I hG.1) (aqp k I)) hG.2.2⟩
  have ad:=hA x y (ctx0 (sortWorldK fg (aG.N bd) C.w b 0 m JJ os)) [.agg (fg x).toArray,.agg (fg y).toArray] rfl (Vt _) aqs
   (repL_cons (by rw[Rep];exact⟨_,rfl,(CQ (tR.lt x)).2 (by rw[fg])⟩) (repL_cons (by rw[Rep];exact⟨_,rfl,(CQ (tR.lt y)).2 (by rw[fg])⟩) repL_nil))
  have hargs: #[Value.agg (fg x).toArray,.agg (fg y).toArray]++ #[]= [Value.agg (fg x).toArray,.agg (fg y).toArray].toArray:=by simp
  rw[hargs];refine Calls.mono ad ?_;rintro e w' ⟨aV,v,av,rfl,rfl,h1,B,am,rfl,_⟩;rw[Rep] at h1;subst h1;exact⟨rfl,aqj am.os am.tape am.output am.size (fun k I=>am.block k I fun i F h=>by simp[ctx0] at h) (am.drawn yy)⟩
 have IM:=AnyQ.slices_SortFunc aU (aG.N bd) aql aqm fg VU VV sB rp g #[] b 0 F l.toArray C.w AU aqq rB so (by simpa using hl);rw[show l.toArray.size=l.length from by simp] at IM;refine Calls.mono IM ?_;rintro e w' ⟨rfl,ig,n,os,⟨kN,_,uX⟩,JL,rfl⟩;obtain⟨bX,rfl⟩: ∃ bX:List bd,ig=bX.toArray:=⟨ig.toList,by simp⟩;have cB:bX.length=l.length:=by simpa using kN
 have jN:bX.Perm l:=by
  have bF: (bX.toArray.extract 0 l.length).toList=bX:=by simp[←cB]
  have bJ: (l.toArray.extract 0 l.length).toList=l:=by simp
  rw[bF,bJ] at uX;exact uX
 have JM:bX.Pairwise (fun x y=> ¬sB y x < 0):=by
  rw[List.pairwise_iff_getElem];intro c j an aT aqt;have:=JL c j (Nat.zero_le _) aqt (by rw[←cB];exact aT);simpa[ltOf,an,aT] using this
 have lw:=VY bX;have JF: (sortWorldK fg (aG.N bd) C.w b 0 n bX.toArray os).heap[b]? =some (.cells (putCells id 0 (Sort.flatK fg (aG.N bd) bX.toArray) aj) aP (0,0)):=by
  show (((C.w.heap.modify b (onCells (putCells id 0 (Sort.flatK fg (aG.N bd) bX.toArray))))++os)[b]?)=_;rw[Array.getElem?_append_left (by simpa using so),Array.getElem?_modify];simp[lF,onCells]
 have dt: (putCells id 0 (Sort.flatK fg (aG.N bd) bX.toArray) aj).size=F*aG.N bd:=by unfold putCells;simpa using es
 have aqu: (Sort.flatK fg (aG.N bd) bX.toArray).size=l.length*aG.N bd:=by rw[size_flatK];simp[cB]
 have gB:l.length*aG.N bd≤aj.size:=by
  rw[es];exact Nat.mul_le_mul_right _ (by simpa[bO] using ed)
 have ht: (putCells id 0 (Sort.flatK fg (aG.N bd) bX.toArray) aj).toList.take ((bX.map fg).flatten).length=(bX.map fg).flatten:=by
  rw[←lw];clear lw JF dt;generalize Sort.flatK fg (aG.N bd) bX.toArray=be at aqu ⊢;apply List.ext_getElem?;intro c
  by_cases an:c < be.size
  ·have O9:c < aj.size:=by omega
   simp only[Array.length_toList,List.getElem?_take,if_pos an,Array.getElem?_toList,putCells,Array.getElem?_mapIdx,Array.getElem?_eq_getElem O9,Option.map_some,Array.getElem?_eq_getElem an];rw[if_pos ⟨Nat.zero_le _,by omega⟩];congr 1;exact getElem!_pos be c an
  ·rw[List.getElem?_eq_none (by simp at an ⊢;omega),List.getElem?_eq_none (by simpa using an)]
 have aqv:C.w.grownBy (sortWorldK fg (aG.N bd) C.w b 0 n bX.toArray os) (some b):=by
  refine⟨rfl,rfl,rfl,?_,fun k I hne=> ?_⟩
  ·show _≤((C.w.heap.modify b _)++os).size;simp
  ·show ((C.w.heap.modify b _)++os)[k]? =_;rw[Array.getElem?_append_left (by simpa using I),Array.getElem?_modify,if_neg (fun e=>hne (by rw[e]))]
 obtain⟨h1,B⟩:=ya ar hM ae b F (putCells id 0 (Sort.flatK fg (aG.N bd) bX.toArray) aj) (ac bX) ((bX.map fg).flatten) _ aqv (.inl rfl) JF dt tA
  (by simpa[bO,cB] using ed) (VW bX) ht (by simp[bO,cB]) (fun _=>rfl) (Nat.le_add_right _ _)
 refine⟨_,.bg [],_,rfl,rfl,by rw[Rep];exact⟨#[],rfl,by simp[ay]⟩,h1,?_,rfl,bX,jN,JM,?_⟩
 ·rw[G] at B ⊢;exact B
 ·rw[G];rfl
end Go.Abs
