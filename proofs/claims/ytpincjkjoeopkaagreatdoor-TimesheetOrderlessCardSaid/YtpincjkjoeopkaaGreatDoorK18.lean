/- Time evaluation. -/
import Derived.Test.YtpincjkjoeopkaaGreatDoorK17
import Derived.Shelf.SlIterI.Sorted
import Derived.Shelf.SlIterI.Keys
import Derived.Test.YtpincjkjoeopkaaGreatDoorK15
import Derived.Test.YtpincjkjoeopkaaGreatDoorK5
set_option linter.unusedSimpArgs false
set_option linter.unusedVariables false
set_option linter.unusedSectionVars false
namespace Go.Proofs.YtpincjkjoeopkaaGreatDoor
open Go Go.Abs Go.Maps Go.Proofs.Tryz
open Go.RowKit (Below)
def Z8:Go.Shelf.Ren:=
 {f:=fun x=>match x with|6=>47|8=>126|9=>127|11=>210|13=>158|12=>211|23=>241|24=>242|14=>263|15=>264|16=>265|17=>266|18=>267|19=>268|20=>269|21=>270|22=>271|25=>333|26=>290|27=>291|28=>334|29=>335|30=>159|31=>357|n=>n,
  t:=fun x=>match x with|26=>3|28=>125|24=>47|0=>0|3=>3|37=>284|48=>347|50=>349|4=>4|40=>341|39=>340|45=>206|5=>5|9=>9|51=>376|55=>380|57=>412|58=>308|33=>244|n=>n,
  g:=fun n=>n}
set_option maxRecDepth 100000 in
theorem Rj:SlLaysZI.n6 prog Z8 where
 mixed:=by kernel_rfl
 f6:=⟨"slices.Sorted[int]",by decide,Eq.trans func47 (congrArg some (by kernel_rfl))⟩
 f8:=⟨"slices.Collect[int]",by decide,Eq.trans func126 (congrArg some (by kernel_rfl))⟩
 f11:=⟨"slices.AppendSeq[[]int,int]",by decide,Eq.trans func210 (congrArg some (by kernel_rfl))⟩
 t0:=underlying0
 a0:=isAgg0
 z0:=sizeOf0
 v0:=zeroValue0
 t24:=underlying47
 a24:=isAgg47
 z24:=sizeOf47
 v24:=zeroValue47
 t26:=underlying3
 a26:=isAgg3
 z26:=sizeOf3
 v26:=zeroValue3
 t28:=underlying125
 a28:=isAgg125
 z28:=sizeOf125
 v28:=zeroValue125
 i26:=by kernel_rfl
theorem Lm {C:bv}{b:Nat}: ∀ (bQ:List Int) (L:Nat),(∀ c (h:c < bQ.length),C.w.cell? ⟨b,L+c,none⟩=some (.int .i64 bQ[c]))→cT C b L 1 (cC .i64 bQ)
 | [],L,_=>by simp[cC,cT]
 |D::bQ,L,h=>by
  rw[cC,List.map_cons,cT];refine⟨rfl,?_,Lm bQ (L+1) fun c an=> ?_⟩
  ·rw[dn];refine⟨⟨.int .i64 D,h 0 (Nat.zero_lt_succ _),rfl,by rw[Rep]⟩,by rw[dn];trivial⟩
  ·have:=h (c+1) (by simpa using an);rw[show L+1+c=L+(c+1) by omega];simpa using this
theorem AS {C:bv}: ∀ {bQ:List Int} {vs:List Value},ay C (bQ.map (z.int .i64 ·)) vs→vs=bQ.map (Value.int .i64 ·)
 | [],vs,h=>by simpa[ay] using h
 |D::bQ,vs,h=>by
  rw[List.map_cons,ay] at h;obtain⟨v,bW,rfl,ag,G⟩:=h;rw[Rep] at ag;rw[List.map_cons,←AS G,ag]
theorem Rk (m:Nat):AnyZI.SortsIn prog Z8 Fence.wide m:=
 ⟨fun mn off cap bN W rB so dt=>callsIn_wide.2 (Any.slices_Sort_int Ks mn off cap bN W rB so dt),
  fun p cap W=>callsIn_wide.2 (calls_of_every_depth fun ax=>AnyS.slices_Sort_int_none_in Ks ax p cap W)⟩
def Rl:Value→Int
 | .int _ D=>D
 |_=>0
def Z9:Go.Shelf.Ren:=
 {f:=fun x=>match x with|7=>48|10=>128|n=>n,
  t:=fun x=>match x with|23=>116|26=>3|3=>76|28=>125|0=>0|27=>124|33=>244|4=>4|n=>n,
  g:=fun n=>n}
set_option maxRecDepth 100000 in
theorem avV:SlLaysZI.n7 prog Z9 where
 mixed:=by kernel_rfl
 f7:=⟨"maps.Keys[map[int]payroll/api.DayResult,int,payroll/api.DayResult]",by decide,Eq.trans func48 (congrArg some (by kernel_rfl))⟩
 f10:=⟨"maps.Keys[map[int]payroll/api.DayResult,int,payroll/api.DayResult]$1",by decide,Eq.trans func128 (congrArg some (by kernel_rfl))⟩
 t0:=underlying0
 a0:=isAgg0
 z0:=sizeOf0
 v0:=zeroValue0
 t4:=underlying4
 a4:=isAgg4
 z4:=sizeOf4
 v4:=zeroValue4
 t23:=underlying116
 a23:=isAgg116
 z23:=sizeOf116
 v23:=zeroValue116
 t26:=underlying3
 a26:=isAgg3
 z26:=sizeOf3
 v26:=zeroValue3
 t27:=underlying124
 a27:=isAgg124
 z27:=sizeOf124
 v27:=zeroValue124
 t28:=underlying125
 a28:=isAgg125
 z28:=sizeOf125
 v28:=zeroValue125
 t33:=underlying244
 a33:=isAgg244
 z33:=sizeOf244
 v33:=zeroValue244
theorem ZI {d:List R}{a b:Nat}{aP:TypeId}{ents:List (z×z)}{M:List Int}(aw:d[a]? =some (.aY (.map false [.int .i64] ents)))(Z:d[b]? =some (.aa aP 1 [[.bu a]]))(I:ents.map (·.1)=M.map (z.int .i64 ·))(pU:M.Nodup)(je: ∀ x∈M,(Lit.int .i64 x).wf=true)(cB:M.length≤1000000):
 aK prog 47 [.fn 128 [.aW b 1 0 0]] d
  (fun v rs=>v= .pure 1 (cC .i64 (fh M))∧rs=d):=by
 refine aK.JE (fun h=>h) ?_;intro C du G ar hG dk;have hM:C.d[a]? =some (.aY (.map false [.int .i64] ents)):=by rw[G];exact aw
 have iA:C.d[b]? =some (.aa aP 1 [[.bu a]]):=by rw[G];exact Z
 rw[ay] at dk;obtain⟨v0,bW,rfl,ag,aB⟩:=dk;rw[ay] at aB;subst aB;rw[Rep] at ag;obtain⟨vs,rfl,jz⟩:=ag;rw[ay] at jz;obtain⟨KY,bW,xm,ae,aB⟩:=jz;rw[ay] at aB;subst aB;rw[Rep] at ae;obtain⟨gV,_,_,hall⟩:=ae;obtain⟨_,B⟩:=hall _ _ _ iA;obtain⟨_,Bm,F,oP,rfl⟩:=B rfl;obtain rfl:vs= #[.pointer (some ⟨Bm,0,none⟩)]:=by
  apply Array.toList_inj.1;rw[xm]
 rcases ar.aa iA with ⟨_,nV⟩|⟨b1,cap,aj,hn,wO,lF,es,tA,ed,cY⟩
 ·cases nV
 rw[oP] at hn;simp only[Option.some.injEq,Prod.mk.injEq] at hn;obtain⟨rfl,rfl⟩:=hn;rw[cT,dn] at cY;obtain⟨⟨KZ,lz,_,iC⟩,_⟩:=cY.2.1;rw[Rep] at iC;obtain⟨_,_,_,iC⟩:=iC;obtain⟨b0,c0,xn,rfl⟩:=iC _ hM;have kD:=ar.d _ _ hM;rw[dA] at kD;obtain⟨K0,K1,al,nc,K2,lY,oJ,ty,Cf,Cg⟩:=kD;rw[xn] at nc;simp only[Option.some.injEq,Prod.mk.injEq] at nc;obtain⟨rfl,rfl⟩:=nc;have fP:al.toList.map (·.key)=M.map (Value.int .i64 ·):=AS (by rw[←I];exact ty);have dt:al.size=M.length:=by
  have:=congrArg List.length fP;simpa using this
 let az:Value→Option (DataW Unit×List MemPlace):=fun _=>some (.nil,[])
 have BC:prog.underlying 3=some (.int .i64):=underlying3;have qc: ∀ x∈al.toList,∃ D:Int,x.key= .int .i64 D∧D∈M∧Go.WideElems.rd prog 3 az x=some (.int .i64 D,.nil):=by
  intro x ad;have:x.key∈M.map (Value.int .i64 ·):=by rw[←fP];exact List.mem_map_of_mem ad
  obtain⟨D,aS,pg⟩:=List.mem_map.1 this;refine⟨D,pg.symm,aS,?_⟩;unfold Go.WideElems.rd;rw[←pg,keyOf_int_mk BC (je D aS)];rfl
 have rl:Go.WideElems.Fit prog 3 az al al.size:=by
  refine⟨by rw[dt];unfold maxLen;omega,⟨fun x ad=> ?_,?_,?_⟩,fun x ad=> ?_⟩
  ·obtain⟨c,an,rfl⟩:=List.getElem_of_mem ad;have:=oJ c _ (by rw[←Array.getElem?_toList,List.getElem?_eq_getElem an]);rw[this];simpa using an
  ·have:al.toList.map (·.born)=List.range al.size:=by
    refine List.ext_getElem? fun c=> ?_
    by_cases an:c < al.size
    ·rw[List.getElem?_map,Array.getElem?_toList,Array.getElem?_eq_getElem an,List.getElem?_range an];simp[oJ c _ (Array.getElem?_eq_getElem an)]
    ·rw[List.getElem?_eq_none (by simp;omega),List.getElem?_eq_none (by simp;omega)]
   rw[this];exact List.nodup_range
  ·rw[fP];exact List.pairwise_map.2 (pU.imp fun h e=>h (by simpa using e))
  ·obtain⟨D,_,_,h⟩:=qc x ad;exact⟨_,h⟩
 let dM:=al.toList.map (Go.WideElems.rg prog 3 az)
 let ax:DataW Unit:= .map (dM.foldr DataW.insert [])
 have nB:C.w.ownsMap prog 3 az b0 al.size ax:=⟨al,al.size,lY,rl,Nat.le_refl _,rfl⟩;have sX:dM.map (fun p=>Go.intOf p.1)=M:=by
  have: ∀ x∈al.toList,((fun p:Lit×DataW Unit=>Go.intOf p.1)∘Go.WideElems.rg prog 3 az) x=(Rl∘fun x:MapEntry=>x.key) x:=by
   intro x ad;obtain⟨D,h1,_,B⟩:=qc x ad;simp only[Function.comp_apply];rw[Go.WideElems.rg_of B,h1];rfl
  show List.map _ (List.map _ al.toList)=M;rw[List.map_map,List.map_congr_left this,←List.map_map,fP,List.map_map];exact List.map_id' M
 have jN: (intKeys ax).Perm M:=by
  rw[←sX];exact (Go.WideShapes.sorted_perm dM).map _
 have fu:Maps.size ax=M.length:=by
  show (dM.foldr DataW.insert []).length=_;rw[length_sorted,List.length_map,Array.length_toList,dt]
 have rN:SeqGives Fence.wide 2 prog 128 #[.pointer (some ⟨Bm,0,none⟩)] encZ (fun bN:List Int=>bN.Perm (intKeys ax)) (Maps.size ax) C.w:=
  AnyZI.keys_gives (ρ:=Z9) {avV with} Fence.wide _ trivial rfl (by omega) Bm b0 al.size ax C.w (Array.getElem?_eq_some_iff.1 lF).1 lz nB
 have xo:=AnyZI.sorted_in Rj Fence.wide 5 trivial trivial trivial trivial rfl (by omega) (Rk _) (enters_of func127 (by kernel_rfl) rfl) 128 #[.pointer (some ⟨Bm,0,none⟩)] trivial (enters_of func128 (by kernel_rfl) rfl) _ _ (by rw[fu];unfold maxLen;omega) (by rw[fu];omega) _ rN;refine (callsIn_wide.1 xo).mono ?_;rintro e w' ⟨v,bN,rfl,de,hrow,iq,Z⟩;have vy: (bN.mergeSort leI)=fh M:=mergeSort_of_perm_i (de.trans jN);have fd:bN.length=(fh M).length:=by rw[yO];exact (de.trans jN).length_eq
 refine⟨v,_,rfl,Z,fun Ai=> ?_,rfl,by rw[←G]⟩;rw[Rep];rcases hrow.2 with ⟨rfl,aS⟩|⟨g,cap,mS,rfl,Hd,qN,r1,cO,fN,eG⟩
 ·exact⟨none,0,by rw[mm,←fd,aS],by rw[mm,←fd,aS];exact Nat.le_refl _,.inl (by rw[mm,←fd,aS])⟩
 ·refine⟨_,cap,by rw[mm,←fd],by rw[mm,←fd];exact r1,.inr ⟨g,0,rfl,⟨(Array.getElem?_eq_some_iff.1 qN).1,fun bi=> ?_,fun i F h=> ?_⟩,?_⟩⟩
  ·have:=ar.bS _ bi;omega
  ·have:=ar.lt h;omega
  ·refine Lm (C:=bv.p _) _ _ fun c an=> ?_;have h1: (mS.toList.take (bN.length*1))[c]? =((bN.mergeSort leI).map encZ)[c]? :=by rw[eG]
   rw[List.getElem?_take_of_lt (by rw[Nat.mul_one,fd];exact an),List.getElem?_map,vy,List.getElem?_eq_getElem an,Array.getElem?_toList] at h1;show World.cell? w' _=_;simp only[World.cell?,qN,Nat.zero_add];simpa using h1
def aaa:Go.Shelf.Ren:=
 {f:=fun x=>match x with|7=>82|10=>168|n=>n,
  t:=fun x=>match x with|23=>169|26=>3|3=>4|28=>125|0=>0|27=>124|33=>244|4=>4|n=>n,
  g:=fun n=>n}
set_option maxRecDepth 100000 in
theorem avW:SlLaysZI.n7 prog aaa where
 mixed:=by kernel_rfl
 f7:=⟨"maps.Keys[map[int]bool,int,bool]",by decide,Eq.trans func82 (congrArg some (by kernel_rfl))⟩
 f10:=⟨"maps.Keys[map[int]bool,int,bool]$1",by decide,Eq.trans func168 (congrArg some (by kernel_rfl))⟩
 t0:=underlying0
 a0:=isAgg0
 z0:=sizeOf0
 v0:=zeroValue0
 t4:=underlying4
 a4:=isAgg4
 z4:=sizeOf4
 v4:=zeroValue4
 t23:=underlying169
 a23:=isAgg169
 z23:=sizeOf169
 v23:=zeroValue169
 t26:=underlying3
 a26:=isAgg3
 z26:=sizeOf3
 v26:=zeroValue3
 t27:=underlying124
 a27:=isAgg124
 z27:=sizeOf124
 v27:=zeroValue124
 t28:=underlying125
 a28:=isAgg125
 z28:=sizeOf125
 v28:=zeroValue125
 t33:=underlying244
 a33:=isAgg244
 z33:=sizeOf244
 v33:=zeroValue244
theorem avX {d:List R}{a b:Nat}{aP:TypeId}{ents:List (z×z)}{M:List Int}(aw:d[a]? =some (.aY (.map false [.int .i64] ents)))(Z:d[b]? =some (.aa aP 1 [[.bu a]]))(I:ents.map (·.1)=M.map (z.int .i64 ·))(pU:M.Nodup)(je: ∀ x∈M,(Lit.int .i64 x).wf=true)(cB:M.length≤1000000):
 aK prog 47 [.fn 168 [.aW b 1 0 0]] d
  (fun v rs=>v= .pure 1 (cC .i64 (fh M))∧rs=d):=by
 refine aK.JE (fun h=>h) ?_;intro C du G ar hG dk;have hM:C.d[a]? =some (.aY (.map false [.int .i64] ents)):=by rw[G];exact aw
 have iA:C.d[b]? =some (.aa aP 1 [[.bu a]]):=by rw[G];exact Z
 rw[ay] at dk;obtain⟨v0,bW,rfl,ag,aB⟩:=dk;rw[ay] at aB;subst aB;rw[Rep] at ag;obtain⟨vs,rfl,jz⟩:=ag;rw[ay] at jz;obtain⟨KY,bW,xm,ae,aB⟩:=jz;rw[ay] at aB;subst aB;rw[Rep] at ae;obtain⟨gV,_,_,hall⟩:=ae;obtain⟨_,B⟩:=hall _ _ _ iA;obtain⟨_,Bm,F,oP,rfl⟩:=B rfl;obtain rfl:vs= #[.pointer (some ⟨Bm,0,none⟩)]:=by
  apply Array.toList_inj.1;rw[xm]
 rcases ar.aa iA with ⟨_,nV⟩|⟨b1,cap,aj,hn,wO,lF,es,tA,ed,cY⟩
 ·cases nV
 rw[oP] at hn;simp only[Option.some.injEq,Prod.mk.injEq] at hn;obtain⟨rfl,rfl⟩:=hn;rw[cT,dn] at cY;obtain⟨⟨KZ,lz,_,iC⟩,_⟩:=cY.2.1;rw[Rep] at iC;obtain⟨_,_,_,iC⟩:=iC;obtain⟨b0,c0,xn,rfl⟩:=iC _ hM;have kD:=ar.d _ _ hM;rw[dA] at kD;obtain⟨K0,K1,al,nc,K2,lY,oJ,ty,Cf,Cg⟩:=kD;rw[xn] at nc;simp only[Option.some.injEq,Prod.mk.injEq] at nc;obtain⟨rfl,rfl⟩:=nc;have fP:al.toList.map (·.key)=M.map (Value.int .i64 ·):=AS (by rw[←I];exact ty);have dt:al.size=M.length:=by
  have:=congrArg List.length fP;simpa using this
 let az:Value→Option (DataW Unit×List MemPlace):=fun _=>some (.nil,[])
 have BC:prog.underlying 3=some (.int .i64):=underlying3;have qc: ∀ x∈al.toList,∃ D:Int,x.key= .int .i64 D∧D∈M∧Go.WideElems.rd prog 3 az x=some (.int .i64 D,.nil):=by
  intro x ad;have:x.key∈M.map (Value.int .i64 ·):=by rw[←fP];exact List.mem_map_of_mem ad
  obtain⟨D,aS,pg⟩:=List.mem_map.1 this;refine⟨D,pg.symm,aS,?_⟩;unfold Go.WideElems.rd;rw[←pg,keyOf_int_mk BC (je D aS)];rfl
 have rl:Go.WideElems.Fit prog 3 az al al.size:=by
  refine⟨by rw[dt];unfold maxLen;omega,⟨fun x ad=> ?_,?_,?_⟩,fun x ad=> ?_⟩
  ·obtain⟨c,an,rfl⟩:=List.getElem_of_mem ad;have:=oJ c _ (by rw[←Array.getElem?_toList,List.getElem?_eq_getElem an]);rw[this];simpa using an
  ·have:al.toList.map (·.born)=List.range al.size:=by
    refine List.ext_getElem? fun c=> ?_
    by_cases an:c < al.size
    ·rw[List.getElem?_map,Array.getElem?_toList,Array.getElem?_eq_getElem an,List.getElem?_range an];simp[oJ c _ (Array.getElem?_eq_getElem an)]
    ·rw[List.getElem?_eq_none (by simp;omega),List.getElem?_eq_none (by simp;omega)]
   rw[this];exact List.nodup_range
  ·rw[fP];exact List.pairwise_map.2 (pU.imp fun h e=>h (by simpa using e))
  ·obtain⟨D,_,_,h⟩:=qc x ad;exact⟨_,h⟩
 let dM:=al.toList.map (Go.WideElems.rg prog 3 az)
 let ax:DataW Unit:= .map (dM.foldr DataW.insert [])
 have nB:C.w.ownsMap prog 3 az b0 al.size ax:=⟨al,al.size,lY,rl,Nat.le_refl _,rfl⟩;have sX:dM.map (fun p=>Go.intOf p.1)=M:=by
  have: ∀ x∈al.toList,((fun p:Lit×DataW Unit=>Go.intOf p.1)∘Go.WideElems.rg prog 3 az) x=(Rl∘fun x:MapEntry=>x.key) x:=by
   intro x ad;obtain⟨D,h1,_,B⟩:=qc x ad;simp only[Function.comp_apply];rw[Go.WideElems.rg_of B,h1];rfl
  show List.map _ (List.map _ al.toList)=M;rw[List.map_map,List.map_congr_left this,←List.map_map,fP,List.map_map];exact List.map_id' M
 have jN: (intKeys ax).Perm M:=by
  rw[←sX];exact (Go.WideShapes.sorted_perm dM).map _
 have fu:Maps.size ax=M.length:=by
  show (dM.foldr DataW.insert []).length=_;rw[length_sorted,List.length_map,Array.length_toList,dt]
 have rN:SeqGives Fence.wide 2 prog 168 #[.pointer (some ⟨Bm,0,none⟩)] encZ (fun bN:List Int=>bN.Perm (intKeys ax)) (Maps.size ax) C.w:=
  AnyZI.keys_gives (ρ:=aaa) {avW with} Fence.wide _ trivial rfl (by omega) Bm b0 al.size ax C.w (Array.getElem?_eq_some_iff.1 lF).1 lz nB
 have xo:=AnyZI.sorted_in Rj Fence.wide 5 trivial trivial trivial trivial rfl (by omega) (Rk _) (enters_of func127 (by kernel_rfl) rfl) 168 #[.pointer (some ⟨Bm,0,none⟩)] trivial (enters_of func168 (by kernel_rfl) rfl) _ _ (by rw[fu];unfold maxLen;omega) (by rw[fu];omega) _ rN;refine (callsIn_wide.1 xo).mono ?_;rintro e w' ⟨v,bN,rfl,de,hrow,iq,Z⟩;have vy: (bN.mergeSort leI)=fh M:=mergeSort_of_perm_i (de.trans jN);have fd:bN.length=(fh M).length:=by rw[yO];exact (de.trans jN).length_eq
 refine⟨v,_,rfl,Z,fun Ai=> ?_,rfl,by rw[←G]⟩;rw[Rep];rcases hrow.2 with ⟨rfl,aS⟩|⟨g,cap,mS,rfl,Hd,qN,r1,cO,fN,eG⟩
 ·exact⟨none,0,by rw[mm,←fd,aS],by rw[mm,←fd,aS];exact Nat.le_refl _,.inl (by rw[mm,←fd,aS])⟩
 ·refine⟨_,cap,by rw[mm,←fd],by rw[mm,←fd];exact r1,.inr ⟨g,0,rfl,⟨(Array.getElem?_eq_some_iff.1 qN).1,fun bi=> ?_,fun i F h=> ?_⟩,?_⟩⟩
  ·have:=ar.bS _ bi;omega
  ·have:=ar.lt h;omega
  ·refine Lm (C:=bv.p _) _ _ fun c an=> ?_;have h1: (mS.toList.take (bN.length*1))[c]? =((bN.mergeSort leI).map encZ)[c]? :=by rw[eG]
   rw[List.getElem?_take_of_lt (by rw[Nat.mul_one,fd];exact an),List.getElem?_map,vy,List.getElem?_eq_getElem an,Array.getElem?_toList] at h1;show World.cell? w' _=_;simp only[World.cell?,qN,Nat.zero_add];simpa using h1
def PW:Go.Shelf.Ren:=
 {f:=fun x=>match x with|7=>116|10=>204|n=>n,
  t:=fun x=>match x with|23=>224|26=>3|3=>227|28=>125|0=>0|27=>124|33=>244|4=>4|n=>n,
  g:=fun n=>n}
set_option maxRecDepth 100000 in
theorem XG:SlLaysZI.n7 prog PW where
 mixed:=by kernel_rfl
 f7:=⟨"maps.Keys[map[int][16]int,int,[16]int]",by decide,Eq.trans func116 (congrArg some (by kernel_rfl))⟩
 f10:=⟨"maps.Keys[map[int][16]int,int,[16]int]$1",by decide,Eq.trans func204 (congrArg some (by kernel_rfl))⟩
 t0:=underlying0
 a0:=isAgg0
 z0:=sizeOf0
 v0:=zeroValue0
 t4:=underlying4
 a4:=isAgg4
 z4:=sizeOf4
 v4:=zeroValue4
 t23:=underlying224
 a23:=isAgg224
 z23:=sizeOf224
 v23:=zeroValue224
 t26:=underlying3
 a26:=isAgg3
 z26:=sizeOf3
 v26:=zeroValue3
 t27:=underlying124
 a27:=isAgg124
 z27:=sizeOf124
 v27:=zeroValue124
 t28:=underlying125
 a28:=isAgg125
 z28:=sizeOf125
 v28:=zeroValue125
 t33:=underlying244
 a33:=isAgg244
 z33:=sizeOf244
 v33:=zeroValue244
theorem XH {d:List R}{a b:Nat}{aP:TypeId}{ents:List (z×z)}{M:List Int}(aw:d[a]? =some (.aY (.map false [.int .i64] ents)))(Z:d[b]? =some (.aa aP 1 [[.bu a]]))(I:ents.map (·.1)=M.map (z.int .i64 ·))(pU:M.Nodup)(je: ∀ x∈M,(Lit.int .i64 x).wf=true)(cB:M.length≤1000000):
 aK prog 47 [.fn 204 [.aW b 1 0 0]] d
  (fun v rs=>v= .pure 1 (cC .i64 (fh M))∧rs=d):=by
 refine aK.JE (fun h=>h) ?_;intro C du G ar hG dk;have hM:C.d[a]? =some (.aY (.map false [.int .i64] ents)):=by rw[G];exact aw
 have iA:C.d[b]? =some (.aa aP 1 [[.bu a]]):=by rw[G];exact Z
 rw[ay] at dk;obtain⟨v0,bW,rfl,ag,aB⟩:=dk;rw[ay] at aB;subst aB;rw[Rep] at ag;obtain⟨vs,rfl,jz⟩:=ag;rw[ay] at jz;obtain⟨KY,bW,xm,ae,aB⟩:=jz;rw[ay] at aB;subst aB;rw[Rep] at ae;obtain⟨gV,_,_,hall⟩:=ae;obtain⟨_,B⟩:=hall _ _ _ iA;obtain⟨_,Bm,F,oP,rfl⟩:=B rfl;obtain rfl:vs= #[.pointer (some ⟨Bm,0,none⟩)]:=by
  apply Array.toList_inj.1;rw[xm]
 rcases ar.aa iA with ⟨_,nV⟩|⟨b1,cap,aj,hn,wO,lF,es,tA,ed,cY⟩
 ·cases nV
 rw[oP] at hn;simp only[Option.some.injEq,Prod.mk.injEq] at hn;obtain⟨rfl,rfl⟩:=hn;rw[cT,dn] at cY;obtain⟨⟨KZ,lz,_,iC⟩,_⟩:=cY.2.1;rw[Rep] at iC;obtain⟨_,_,_,iC⟩:=iC;obtain⟨b0,c0,xn,rfl⟩:=iC _ hM;have kD:=ar.d _ _ hM;rw[dA] at kD;obtain⟨K0,K1,al,nc,K2,lY,oJ,ty,Cf,Cg⟩:=kD;rw[xn] at nc;simp only[Option.some.injEq,Prod.mk.injEq] at nc;obtain⟨rfl,rfl⟩:=nc;have fP:al.toList.map (·.key)=M.map (Value.int .i64 ·):=AS (by rw[←I];exact ty);have dt:al.size=M.length:=by
  have:=congrArg List.length fP;simpa using this
 let az:Value→Option (DataW Unit×List MemPlace):=fun _=>some (.nil,[])
 have BC:prog.underlying 3=some (.int .i64):=underlying3;have qc: ∀ x∈al.toList,∃ D:Int,x.key= .int .i64 D∧D∈M∧Go.WideElems.rd prog 3 az x=some (.int .i64 D,.nil):=by
  intro x ad;have:x.key∈M.map (Value.int .i64 ·):=by rw[←fP];exact List.mem_map_of_mem ad
  obtain⟨D,aS,pg⟩:=List.mem_map.1 this;refine⟨D,pg.symm,aS,?_⟩;unfold Go.WideElems.rd;rw[←pg,keyOf_int_mk BC (je D aS)];rfl
 have rl:Go.WideElems.Fit prog 3 az al al.size:=by
  refine⟨by rw[dt];unfold maxLen;omega,⟨fun x ad=> ?_,?_,?_⟩,fun x ad=> ?_⟩
  ·obtain⟨c,an,rfl⟩:=List.getElem_of_mem ad;have:=oJ c _ (by rw[←Array.getElem?_toList,List.getElem?_eq_getElem an]);rw[this];simpa using an
  ·have:al.toList.map (·.born)=List.range al.size:=by
    refine List.ext_getElem? fun c=> ?_
    by_cases an:c < al.size
    ·rw[List.getElem?_map,Array.getElem?_toList,Array.getElem?_eq_getElem an,List.getElem?_range an];simp[oJ c _ (Array.getElem?_eq_getElem an)]
    ·rw[List.getElem?_eq_none (by simp;omega),List.getElem?_eq_none (by simp;omega)]
   rw[this];exact List.nodup_range
  ·rw[fP];exact List.pairwise_map.2 (pU.imp fun h e=>h (by simpa using e))
  ·obtain⟨D,_,_,h⟩:=qc x ad;exact⟨_,h⟩
 let dM:=al.toList.map (Go.WideElems.rg prog 3 az)
 let ax:DataW Unit:= .map (dM.foldr DataW.insert [])
 have nB:C.w.ownsMap prog 3 az b0 al.size ax:=⟨al,al.size,lY,rl,Nat.le_refl _,rfl⟩;have sX:dM.map (fun p=>Go.intOf p.1)=M:=by
  have: ∀ x∈al.toList,((fun p:Lit×DataW Unit=>Go.intOf p.1)∘Go.WideElems.rg prog 3 az) x=(Rl∘fun x:MapEntry=>x.key) x:=by
   intro x ad;obtain⟨D,h1,_,B⟩:=qc x ad;simp only[Function.comp_apply];rw[Go.WideElems.rg_of B,h1];rfl
  show List.map _ (List.map _ al.toList)=M;rw[List.map_map,List.map_congr_left this,←List.map_map,fP,List.map_map];exact List.map_id' M
 have jN: (intKeys ax).Perm M:=by
  rw[←sX];exact (Go.WideShapes.sorted_perm dM).map _
 have fu:Maps.size ax=M.length:=by
  show (dM.foldr DataW.insert []).length=_;rw[length_sorted,List.length_map,Array.length_toList,dt]
 have rN:SeqGives Fence.wide 2 prog 204 #[.pointer (some ⟨Bm,0,none⟩)] encZ (fun bN:List Int=>bN.Perm (intKeys ax)) (Maps.size ax) C.w:=
  AnyZI.keys_gives (ρ:=PW) {XG with} Fence.wide _ trivial rfl (by omega) Bm b0 al.size ax C.w (Array.getElem?_eq_some_iff.1 lF).1 lz nB
 have xo:=AnyZI.sorted_in Rj Fence.wide 5 trivial trivial trivial trivial rfl (by omega) (Rk _) (enters_of func127 (by kernel_rfl) rfl) 204 #[.pointer (some ⟨Bm,0,none⟩)] trivial (enters_of func204 (by kernel_rfl) rfl) _ _ (by rw[fu];unfold maxLen;omega) (by rw[fu];omega) _ rN;refine (callsIn_wide.1 xo).mono ?_;rintro e w' ⟨v,bN,rfl,de,hrow,iq,Z⟩;have vy: (bN.mergeSort leI)=fh M:=mergeSort_of_perm_i (de.trans jN);have fd:bN.length=(fh M).length:=by rw[yO];exact (de.trans jN).length_eq
 refine⟨v,_,rfl,Z,fun Ai=> ?_,rfl,by rw[←G]⟩;rw[Rep];rcases hrow.2 with ⟨rfl,aS⟩|⟨g,cap,mS,rfl,Hd,qN,r1,cO,fN,eG⟩
 ·exact⟨none,0,by rw[mm,←fd,aS],by rw[mm,←fd,aS];exact Nat.le_refl _,.inl (by rw[mm,←fd,aS])⟩
 ·refine⟨_,cap,by rw[mm,←fd],by rw[mm,←fd];exact r1,.inr ⟨g,0,rfl,⟨(Array.getElem?_eq_some_iff.1 qN).1,fun bi=> ?_,fun i F h=> ?_⟩,?_⟩⟩
  ·have:=ar.bS _ bi;omega
  ·have:=ar.lt h;omega
  ·refine Lm (C:=bv.p _) _ _ fun c an=> ?_;have h1: (mS.toList.take (bN.length*1))[c]? =((bN.mergeSort leI).map encZ)[c]? :=by rw[eG]
   rw[List.getElem?_take_of_lt (by rw[Nat.mul_one,fd];exact an),List.getElem?_map,vy,List.getElem?_eq_getElem an,Array.getElem?_toList] at h1;show World.cell? w' _=_;simp only[World.cell?,qN,Nat.zero_add];simpa using h1
def atb:Go.Shelf.Ren:=PW
theorem atc:SlLaysZI.n7 prog atb:=XG
theorem atd (aP:TypeId)(ents:List (z×z))(M:List Int)(I:ents.map (·.1)=M.map (z.int .i64 ·))(pU:M.Nodup)(je: ∀ x∈M,(Lit.int .i64 x).wf=true)(cB:M.length≤1000000):
 aK prog 47 [.fn 204 [.aW 1 1 0 0]] [.aY (.map false [.int .i64] ents),.aa aP 1 [[.bu 0]]]
  (fun v rs=>v= .pure 1 (cC .i64 (fh M))∧rs= [.aY (.map false [.int .i64] ents),.aa aP 1 [[.bu 0]]]):=
 XH rfl rfl I pU je cB
def fx (l:List Int)(a:Int):R:=dK 143 l a
theorem Dn (v n:Int)(aB:0 < n)(FH:n≤9223372036854775807):aK prog 10 [.int .i64 v,.int .i64 n] [] (fun i d=>i= .int .i64 (mod v n)∧d= []):=by
 refine cr func10 Kb (by simp[tW,rC]) ?_;simp only[go_sem,tW,rC];refine⟨by omega,?_⟩;have h1:=Int.tmod_lt_of_pos v aB;refine cg ?_ ?_<;>intro ao<;>simp only[go_sem,tW,rC]<;>refine s.bb rfl ⟨?_,rfl⟩<;>simp only[decide_eq_true_eq,decide_eq_false_iff_not] at ao
 ·have B: -n < v.tmod n:=by
   have:=Int.lt_tmod_of_pos v aB;omega
  rw[bf (by omega) (by omega),mod,if_pos ao]
 ·rw[mod,if_neg ao]
theorem arT (l:List Int):aK prog 16 [.pure 1 (cC .i64 l)] [] (fun i d=>i= .aW 0 1 0 0∧d= [fx l 0]):=by
 refine cr func16 W0 (by simp[Kc,PD]) ?_;simp only[go_sem,Kc,PD];exact s.U ⟨rfl,rfl⟩
theorem fB (l:List Int)(hl:kx l)(n:Int)(aB:n≤9223372036854775807):vd prog 143 64 [.int .i64 n] l (ON n):=by
 intro aD h0 h1;refine cr func64 Kd (by simp[tX,vn]) ?_;simp only[go_sem,tX,vn,dK];have cB:=hl.len
 repeat' ((first|refine gF ?_ ?_|refine gP ?_ ?_|refine cg ?_ ?_|refine dg ?_ ?_)<;>intro ao<;>(have ae:=ao;try simp only[bA] at ae)<;>(first|omega| (simp only[go_sem,ao,tX,vn];clear ao)))
 ·exact s.tape rfl h0 h1 ⟨0,rfl,by omega,by omega⟩
 ·exact s.tape rfl h0 h1 ⟨0,rfl,by omega,by omega⟩
 ·simp (disch:=omega) only[bf,sA,Int.add_sub_cancel];refine⟨by omega,by omega,by simp,?_⟩;simp only[go_sem];refine jd (Dn _ _ (by omega) aB) rfl rfl ?_;simp only[go_sem];have Z:=OO (v:=l.getD aD.toNat 0) (n:=n) (by omega);exact s.tape rfl (by omega) (by omega) ⟨_,rfl,by omega,by omega⟩
theorem gG (l:List Int)(hl:kx l)(ai:List Int)(ad:0 < ai.length)(rj:ai.length≤1000):AO prog 143 3 59 l ai (fun v=> ∃ x,x∈ai∧v= .int .i64 x):=by
 intro aD h0 h1;refine cr func59 Ke (by simp[yF,A9]) ?_;simp only[go_sem,yF,A9];refine wL (fB l hl _ (by omega)) rfl (by simp) h0 h1 ?_;rintro v a B am ⟨x,rfl,bp,cn⟩;simp only[go_sem];refine⟨by omega,by omega,?_⟩;rw[sA (by omega)];simp only[go_sem];refine s.U ⟨a,rfl,B,am,rfl,_,?_,rfl⟩;rw[List.getD_eq_getElem?_getD,List.getElem?_eq_getElem (by omega)];simp
theorem arU {v n:Int}(aB:0 < n):0≤mod v n∧mod v n < n:=by
 have h1:=Int.tmod_lt_of_pos v aB;have B: -n < v.tmod n:=by have:=Int.lt_tmod_of_pos v aB;omega
 unfold mod;split<;>omega
end Go.Proofs.YtpincjkjoeopkaaGreatDoor
