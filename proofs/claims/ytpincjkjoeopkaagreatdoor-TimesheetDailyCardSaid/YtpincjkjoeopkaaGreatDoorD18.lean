/- Time evaluation. -/
import Derived.Test.YtpincjkjoeopkaaGreatDoorD17
import Derived.Shelf.SlIterI.Sorted
import Derived.Shelf.SlIterI.Keys
import Derived.Test.YtpincjkjoeopkaaGreatDoorD15
import Derived.Test.YtpincjkjoeopkaaGreatDoorD5
set_option linter.all false
namespace Go.Proofs.YtpincjkjoeopkaaGreatDoor
open Go Go.Abs Go.Maps Go.Proofs.Tryz
open Go.RowKit (Below)
def abv:Go.Shelf.Ren:=
 {f:=fun x=>match x with|6=>47|8=>126|9=>127|11=>210|13=>158|12=>211|23=>241|24=>242|14=>263|15=>264|16=>265|17=>266|18=>267|19=>268|20=>269|21=>270|22=>271|25=>333|26=>290|27=>291|28=>334|29=>335|30=>159|31=>357|n=>n,
  t:=fun x=>match x with|26=>3|28=>125|24=>47|0=>0|3=>3|37=>284|48=>347|50=>349|4=>4|40=>341|39=>340|45=>206|5=>5|9=>9|51=>376|55=>380|57=>412|58=>308|33=>244|n=>n,
  g:=fun n=>n}
set_option maxRecDepth 100000 in
theorem Sr:SlLaysZI.n6 prog abv where
 mixed:=by kernel_rfl
 f6:=⟨"slices.Sorted[int]",by decide,Eq.trans func47 (congrArg some (by kernel_rfl))⟩
 f8:=⟨"slices.Collect[int]",by decide,Eq.trans func126 (congrArg some (by kernel_rfl))⟩
 f11:=⟨"slices.AppendSeq[[]int,int]",by decide,Eq.trans func210 (congrArg some (by kernel_rfl))⟩
 t0:=underlying0
 a0:=isAgg0
 z0:=sizeOf0
 v0:=zeroValue0
 t24:=underlying47
 a24:=isAgg47
 z24:=sizeOf47
 v24:=zeroValue47
 t26:=underlying3
 a26:=isAgg3
 z26:=sizeOf3
 v26:=zeroValue3
 t28:=underlying125
 a28:=isAgg125
 z28:=sizeOf125
 v28:=zeroValue125
 i26:=by kernel_rfl
theorem My {C:bD}{b:Nat}: ∀ (ce:List Int) (V:Nat),(∀ c (h:c < ce.length),C.w.cell? ⟨b,V+c,none⟩=some (.int .i64 ce[c]))→dh C b V 1 (cJ .i64 ce)
 | [],V,_=>by simp[cJ,dh]
 |M::ce,V,h=>by
  rw[cJ,List.map_cons,dh];refine⟨rfl,?_,My ce (V+1) fun c av=> ?_⟩
  ·rw[dC];refine⟨⟨.int .i64 M,h 0 (Nat.zero_lt_succ _),rfl,by rw[Rep]⟩,by rw[dC];trivial⟩
  ·have:=h (c+1) (by simpa using av);rw[show V+1+c=V+(c+1) by omega];simpa using this
theorem BZ {C:bD}: ∀ {ce:List Int} {vs:List Value},aE C (ce.map (F.int .i64 ·)) vs→vs=ce.map (Value.int .i64 ·)
 | [],vs,h=>by simpa[aE] using h
 |M::ce,vs,h=>by
  rw[List.map_cons,aE] at h;obtain⟨v,bS,rfl,an,N⟩:=h;rw[Rep] at an;rw[List.map_cons,←BZ N,an]
theorem Ss (m:Nat):AnyZI.SortsIn prog abv Fence.wide m:=
 ⟨fun oq off cap bV W uQ vL dJ=>callsIn_wide.2 (Any.slices_Sort_int LJ oq off cap bV W uQ vL dJ),
  fun p cap W=>callsIn_wide.2 (calls_of_every_depth fun aD=>AnyS.slices_Sort_int_none_in LJ aD p cap W)⟩
def Su:Value→Int
 | .int _ M=>M
 |_=>0
def abw:Go.Shelf.Ren:=
 {f:=fun x=>match x with|7=>48|10=>128|n=>n,
  t:=fun x=>match x with|23=>116|26=>3|3=>76|28=>125|0=>0|27=>124|33=>244|4=>4|n=>n,
  g:=fun n=>n}
set_option maxRecDepth 100000 in
theorem axw:SlLaysZI.n7 prog abw where
 mixed:=by kernel_rfl
 f7:=⟨"maps.Keys[map[int]payroll/api.DayResult,int,payroll/api.DayResult]",by decide,Eq.trans func48 (congrArg some (by kernel_rfl))⟩
 f10:=⟨"maps.Keys[map[int]payroll/api.DayResult,int,payroll/api.DayResult]$1",by decide,Eq.trans func128 (congrArg some (by kernel_rfl))⟩
 t0:=underlying0
 a0:=isAgg0
 z0:=sizeOf0
 v0:=zeroValue0
 t4:=underlying4
 a4:=isAgg4
 z4:=sizeOf4
 v4:=zeroValue4
 t23:=underlying116
 a23:=isAgg116
 z23:=sizeOf116
 v23:=zeroValue116
 t26:=underlying3
 a26:=isAgg3
 z26:=sizeOf3
 v26:=zeroValue3
 t27:=underlying124
 a27:=isAgg124
 z27:=sizeOf124
 v27:=zeroValue124
 t28:=underlying125
 a28:=isAgg125
 z28:=sizeOf125
 v28:=zeroValue125
 t33:=underlying244
 a33:=isAgg244
 z33:=sizeOf244
 v33:=zeroValue244
theorem aba {r:List Z}{a b:Nat}{aW:TypeId}{ents:List (F×F)}{Y:List Int}(aC:r[a]? =some (.be (.map false [.int .i64] ents)))(hb:r[b]? =some (.ag aW 1 [[.bE a]]))(O:ents.map (·.1)=Y.map (F.int .i64 ·))(ss:Y.Nodup)(ki: ∀ x∈Y,(Lit.int .i64 x).wf=true)(cK:Y.length≤1000000):
 aO prog 47 [.fn 128 [.bd b 1 0 0]] r
  (fun v rs=>v= .pure 1 (cJ .i64 (fq Y))∧rs=r):=by
 refine aO.P5 (fun h=>h) ?_;intro C dA N aA hG dv;have iV:C.r[a]? =some (.be (.map false [.int .i64] ents)):=by rw[N];exact aC
 have jS:C.r[b]? =some (.ag aW 1 [[.bE a]]):=by rw[N];exact hb
 rw[aE] at dv;obtain⟨v0,bS,rfl,an,aH⟩:=dv;rw[aE] at aH;subst aH;rw[Rep] at an;obtain⟨vs,rfl,kU⟩:=an;rw[aE] at kU;obtain⟨RX,bS,Cz,ak,aH⟩:=kU;rw[aE] at aH;subst aH;rw[Rep] at ak;obtain⟨hC,_,_,hall⟩:=ak;obtain⟨_,G⟩:=hall _ _ _ jS;obtain⟨_,Bm,J,rl,rfl⟩:=G rfl;obtain rfl:vs= #[.pointer (some ⟨Bm,0,none⟩)]:=by
  apply Array.toList_inj.1;rw[Cz]
 rcases aA.ag jS with ⟨_,qo⟩|⟨b1,cap,ap,iK,zG,nE,eK,vK,eA,dp⟩
 ·cases qo
 rw[rl] at iK;simp only[Option.some.injEq,Prod.mk.injEq] at iK;obtain⟨rfl,rfl⟩:=iK;rw[dh,dC] at dp;obtain⟨⟨RY,nw,_,kD⟩,_⟩:=dp.2.1;rw[Rep] at kD;obtain⟨_,_,_,kD⟩:=kD;obtain⟨b0,c0,CA,rfl⟩:=kD _ iV;have mr:=aA.r _ _ iV;rw[dQ] at mr;obtain⟨RZ,R0,ar,qK,R1,lZ,sb,xq,Gh,Gi⟩:=mr;rw[CA] at qK;simp only[Option.some.injEq,Prod.mk.injEq] at qK;obtain⟨rfl,rfl⟩:=qK;have gO:ar.toList.map (·.key)=Y.map (Value.int .i64 ·):=BZ (by rw[←O];exact xq);have dJ:ar.size=Y.length:=by
  have:=congrArg List.length gO;simpa using this
 let aF:Value→Option (DataW Unit×List MemPlace):=fun _=>some (.nil,[])
 have Io:prog.underlying 3=some (.int .i64):=underlying3;have tP: ∀ x∈ar.toList,∃ M:Int,x.key= .int .i64 M∧M∈Y∧Go.WideElems.rd prog 3 aF x=some (.int .i64 M,.nil):=by
  intro x aj;have:x.key∈Y.map (Value.int .i64 ·):=by rw[←gO];exact List.mem_map_of_mem aj
  obtain⟨M,ba,sD⟩:=List.mem_map.1 this;refine⟨M,sD.symm,ba,?_⟩;unfold Go.WideElems.rd;rw[←sD,keyOf_int_mk Io (ki M ba)];rfl
 have uA:Go.WideElems.Fit prog 3 aF ar ar.size:=by
  refine⟨by rw[dJ];unfold maxLen;omega,⟨fun x aj=> ?_,?_,?_⟩,fun x aj=> ?_⟩
  ·obtain⟨c,av,rfl⟩:=List.getElem_of_mem aj;have:=sb c _ (by rw[←Array.getElem?_toList,List.getElem?_eq_getElem av]);rw[this];simpa using av
  ·have:ar.toList.map (·.born)=List.range ar.size:=by
    refine List.ext_getElem? fun c=> ?_
    by_cases av:c < ar.size
    ·rw[List.getElem?_map,Array.getElem?_toList,Array.getElem?_eq_getElem av,List.getElem?_range av];simp[sb c _ (Array.getElem?_eq_getElem av)]
    ·rw[List.getElem?_eq_none (by simp;omega),List.getElem?_eq_none (by simp;omega)]
   rw[this];exact List.nodup_range
  ·rw[gO];exact List.pairwise_map.2 (ss.imp fun h e=>h (by simpa using e))
  ·obtain⟨M,_,_,h⟩:=tP x aj;exact⟨_,h⟩
 let el:=ar.toList.map (Go.WideElems.rg prog 3 aF)
 let aD:DataW Unit:= .map (el.foldr DataW.insert [])
 have pK:C.w.ownsMap prog 3 aF b0 ar.size aD:=⟨ar,ar.size,lZ,uA,Nat.le_refl _,rfl⟩;have wF:el.map (fun p=>Go.intOf p.1)=Y:=by
  have: ∀ x∈ar.toList,((fun p:Lit×DataW Unit=>Go.intOf p.1)∘Go.WideElems.rg prog 3 aF) x=(Su∘fun x:MapEntry=>x.key) x:=by
   intro x aj;obtain⟨M,h1,_,G⟩:=tP x aj;simp only[Function.comp_apply];rw[Go.WideElems.rg_of G,h1];rfl
  show List.map _ (List.map _ ar.toList)=Y;rw[List.map_map,List.map_congr_left this,←List.map_map,gO,List.map_map];exact List.map_id' Y
 have kV: (intKeys aD).Perm Y:=by
  rw[←wF];exact (Go.WideShapes.sorted_perm el).map _
 have fS:Maps.size aD=Y.length:=by
  show (el.foldr DataW.insert []).length=_;rw[length_sorted,List.length_map,Array.length_toList,dJ]
 have vf:SeqGives Fence.wide 2 prog 128 #[.pointer (some ⟨Bm,0,none⟩)] encZ (fun bV:List Int=>bV.Perm (intKeys aD)) (Maps.size aD) C.w:=
  AnyZI.keys_gives (ρ:=abw) {axw with} Fence.wide _ trivial rfl (by omega) Bm b0 ar.size aD C.w (Array.getElem?_eq_some_iff.1 nE).1 nw pK
 have CB:=AnyZI.sorted_in Sr Fence.wide 5 trivial trivial trivial trivial rfl (by omega) (Ss _) (enters_of func127 (by kernel_rfl) rfl) 128 #[.pointer (some ⟨Bm,0,none⟩)] trivial (enters_of func128 (by kernel_rfl) rfl) _ _ (by rw[fS];unfold maxLen;omega) (by rw[fS];omega) _ vf;refine (callsIn_wide.1 CB).mono ?_;rintro e w' ⟨v,bV,rfl,du,hrow,iW,hb⟩;have CC: (bV.mergeSort leI)=fq Y:=mergeSort_of_perm_i (du.trans kV);have fF:bV.length=(fq Y).length:=by rw[zY];exact (du.trans kV).length_eq
 refine⟨v,_,rfl,hb,fun Dp=> ?_,rfl,by rw[←N]⟩;rw[Rep];rcases hrow.2 with ⟨rfl,ba⟩|⟨g,cap,oZ,rfl,Mz,ve,r1,cY,fY,fc⟩
 ·exact⟨none,0,by rw[mV,←fF,ba],by rw[mV,←fF,ba];exact Nat.le_refl _,.inl (by rw[mV,←fF,ba])⟩
 ·refine⟨_,cap,by rw[mV,←fF],by rw[mV,←fF];exact r1,.inr ⟨g,0,rfl,⟨(Array.getElem?_eq_some_iff.1 ve).1,fun bp=> ?_,fun z J h=> ?_⟩,?_⟩⟩
  ·have:=aA.bY _ bp;omega
  ·have:=aA.lt h;omega
  ·refine My (C:=bD.p _) _ _ fun c av=> ?_;have h1: (oZ.toList.take (bV.length*1))[c]? =((bV.mergeSort leI).map encZ)[c]? :=by rw[fc]
   rw[List.getElem?_take_of_lt (by rw[Nat.mul_one,fF];exact av),List.getElem?_map,CC,List.getElem?_eq_getElem av,Array.getElem?_toList] at h1;show World.cell? w' _=_;simp only[World.cell?,ve,Nat.zero_add];simpa using h1
def abx:Go.Shelf.Ren:=
 {f:=fun x=>match x with|7=>82|10=>168|n=>n,
  t:=fun x=>match x with|23=>169|26=>3|3=>4|28=>125|0=>0|27=>124|33=>244|4=>4|n=>n,
  g:=fun n=>n}
set_option maxRecDepth 100000 in
theorem axx:SlLaysZI.n7 prog abx where
 mixed:=by kernel_rfl
 f7:=⟨"maps.Keys[map[int]bool,int,bool]",by decide,Eq.trans func82 (congrArg some (by kernel_rfl))⟩
 f10:=⟨"maps.Keys[map[int]bool,int,bool]$1",by decide,Eq.trans func168 (congrArg some (by kernel_rfl))⟩
 t0:=underlying0
 a0:=isAgg0
 z0:=sizeOf0
 v0:=zeroValue0
 t4:=underlying4
 a4:=isAgg4
 z4:=sizeOf4
 v4:=zeroValue4
 t23:=underlying169
 a23:=isAgg169
 z23:=sizeOf169
 v23:=zeroValue169
 t26:=underlying3
 a26:=isAgg3
 z26:=sizeOf3
 v26:=zeroValue3
 t27:=underlying124
 a27:=isAgg124
 z27:=sizeOf124
 v27:=zeroValue124
 t28:=underlying125
 a28:=isAgg125
 z28:=sizeOf125
 v28:=zeroValue125
 t33:=underlying244
 a33:=isAgg244
 z33:=sizeOf244
 v33:=zeroValue244
theorem axy {r:List Z}{a b:Nat}{aW:TypeId}{ents:List (F×F)}{Y:List Int}(aC:r[a]? =some (.be (.map false [.int .i64] ents)))(hb:r[b]? =some (.ag aW 1 [[.bE a]]))(O:ents.map (·.1)=Y.map (F.int .i64 ·))(ss:Y.Nodup)(ki: ∀ x∈Y,(Lit.int .i64 x).wf=true)(cK:Y.length≤1000000):
 aO prog 47 [.fn 168 [.bd b 1 0 0]] r
  (fun v rs=>v= .pure 1 (cJ .i64 (fq Y))∧rs=r):=by
 refine aO.P5 (fun h=>h) ?_;intro C dA N aA hG dv;have iV:C.r[a]? =some (.be (.map false [.int .i64] ents)):=by rw[N];exact aC
 have jS:C.r[b]? =some (.ag aW 1 [[.bE a]]):=by rw[N];exact hb
 rw[aE] at dv;obtain⟨v0,bS,rfl,an,aH⟩:=dv;rw[aE] at aH;subst aH;rw[Rep] at an;obtain⟨vs,rfl,kU⟩:=an;rw[aE] at kU;obtain⟨RX,bS,Cz,ak,aH⟩:=kU;rw[aE] at aH;subst aH;rw[Rep] at ak;obtain⟨hC,_,_,hall⟩:=ak;obtain⟨_,G⟩:=hall _ _ _ jS;obtain⟨_,Bm,J,rl,rfl⟩:=G rfl;obtain rfl:vs= #[.pointer (some ⟨Bm,0,none⟩)]:=by
  apply Array.toList_inj.1;rw[Cz]
 rcases aA.ag jS with ⟨_,qo⟩|⟨b1,cap,ap,iK,zG,nE,eK,vK,eA,dp⟩
 ·cases qo
 rw[rl] at iK;simp only[Option.some.injEq,Prod.mk.injEq] at iK;obtain⟨rfl,rfl⟩:=iK;rw[dh,dC] at dp;obtain⟨⟨RY,nw,_,kD⟩,_⟩:=dp.2.1;rw[Rep] at kD;obtain⟨_,_,_,kD⟩:=kD;obtain⟨b0,c0,CA,rfl⟩:=kD _ iV;have mr:=aA.r _ _ iV;rw[dQ] at mr;obtain⟨RZ,R0,ar,qK,R1,lZ,sb,xq,Gh,Gi⟩:=mr;rw[CA] at qK;simp only[Option.some.injEq,Prod.mk.injEq] at qK;obtain⟨rfl,rfl⟩:=qK;have gO:ar.toList.map (·.key)=Y.map (Value.int .i64 ·):=BZ (by rw[←O];exact xq);have dJ:ar.size=Y.length:=by
  have:=congrArg List.length gO;simpa using this
 let aF:Value→Option (DataW Unit×List MemPlace):=fun _=>some (.nil,[])
 have Io:prog.underlying 3=some (.int .i64):=underlying3;have tP: ∀ x∈ar.toList,∃ M:Int,x.key= .int .i64 M∧M∈Y∧Go.WideElems.rd prog 3 aF x=some (.int .i64 M,.nil):=by
  intro x aj;have:x.key∈Y.map (Value.int .i64 ·):=by rw[←gO];exact List.mem_map_of_mem aj
  obtain⟨M,ba,sD⟩:=List.mem_map.1 this;refine⟨M,sD.symm,ba,?_⟩;unfold Go.WideElems.rd;rw[←sD,keyOf_int_mk Io (ki M ba)];rfl
 have uA:Go.WideElems.Fit prog 3 aF ar ar.size:=by
  refine⟨by rw[dJ];unfold maxLen;omega,⟨fun x aj=> ?_,?_,?_⟩,fun x aj=> ?_⟩
  ·obtain⟨c,av,rfl⟩:=List.getElem_of_mem aj;have:=sb c _ (by rw[←Array.getElem?_toList,List.getElem?_eq_getElem av]);rw[this];simpa using av
  ·have:ar.toList.map (·.born)=List.range ar.size:=by
    refine List.ext_getElem? fun c=> ?_
    by_cases av:c < ar.size
    ·rw[List.getElem?_map,Array.getElem?_toList,Array.getElem?_eq_getElem av,List.getElem?_range av];simp[sb c _ (Array.getElem?_eq_getElem av)]
    ·rw[List.getElem?_eq_none (by simp;omega),List.getElem?_eq_none (by simp;omega)]
   rw[this];exact List.nodup_range
  ·rw[gO];exact List.pairwise_map.2 (ss.imp fun h e=>h (by simpa using e))
  ·obtain⟨M,_,_,h⟩:=tP x aj;exact⟨_,h⟩
 let el:=ar.toList.map (Go.WideElems.rg prog 3 aF)
 let aD:DataW Unit:= .map (el.foldr DataW.insert [])
 have pK:C.w.ownsMap prog 3 aF b0 ar.size aD:=⟨ar,ar.size,lZ,uA,Nat.le_refl _,rfl⟩;have wF:el.map (fun p=>Go.intOf p.1)=Y:=by
  have: ∀ x∈ar.toList,((fun p:Lit×DataW Unit=>Go.intOf p.1)∘Go.WideElems.rg prog 3 aF) x=(Su∘fun x:MapEntry=>x.key) x:=by
   intro x aj;obtain⟨M,h1,_,G⟩:=tP x aj;simp only[Function.comp_apply];rw[Go.WideElems.rg_of G,h1];rfl
  show List.map _ (List.map _ ar.toList)=Y;rw[List.map_map,List.map_congr_left this,←List.map_map,gO,List.map_map];exact List.map_id' Y
 have kV: (intKeys aD).Perm Y:=by
  rw[←wF];exact (Go.WideShapes.sorted_perm el).map _
 have fS:Maps.size aD=Y.length:=by
  show (el.foldr DataW.insert []).length=_;rw[length_sorted,List.length_map,Array.length_toList,dJ]
 have vf:SeqGives Fence.wide 2 prog 168 #[.pointer (some ⟨Bm,0,none⟩)] encZ (fun bV:List Int=>bV.Perm (intKeys aD)) (Maps.size aD) C.w:=
  AnyZI.keys_gives (ρ:=abx) {axx with} Fence.wide _ trivial rfl (by omega) Bm b0 ar.size aD C.w (Array.getElem?_eq_some_iff.1 nE).1 nw pK
 have CB:=AnyZI.sorted_in Sr Fence.wide 5 trivial trivial trivial trivial rfl (by omega) (Ss _) (enters_of func127 (by kernel_rfl) rfl) 168 #[.pointer (some ⟨Bm,0,none⟩)] trivial (enters_of func168 (by kernel_rfl) rfl) _ _ (by rw[fS];unfold maxLen;omega) (by rw[fS];omega) _ vf;refine (callsIn_wide.1 CB).mono ?_;rintro e w' ⟨v,bV,rfl,du,hrow,iW,hb⟩;have CC: (bV.mergeSort leI)=fq Y:=mergeSort_of_perm_i (du.trans kV);have fF:bV.length=(fq Y).length:=by rw[zY];exact (du.trans kV).length_eq
 refine⟨v,_,rfl,hb,fun Dp=> ?_,rfl,by rw[←N]⟩;rw[Rep];rcases hrow.2 with ⟨rfl,ba⟩|⟨g,cap,oZ,rfl,Mz,ve,r1,cY,fY,fc⟩
 ·exact⟨none,0,by rw[mV,←fF,ba],by rw[mV,←fF,ba];exact Nat.le_refl _,.inl (by rw[mV,←fF,ba])⟩
 ·refine⟨_,cap,by rw[mV,←fF],by rw[mV,←fF];exact r1,.inr ⟨g,0,rfl,⟨(Array.getElem?_eq_some_iff.1 ve).1,fun bp=> ?_,fun z J h=> ?_⟩,?_⟩⟩
  ·have:=aA.bY _ bp;omega
  ·have:=aA.lt h;omega
  ·refine My (C:=bD.p _) _ _ fun c av=> ?_;have h1: (oZ.toList.take (bV.length*1))[c]? =((bV.mergeSort leI).map encZ)[c]? :=by rw[fc]
   rw[List.getElem?_take_of_lt (by rw[Nat.mul_one,fF];exact av),List.getElem?_map,CC,List.getElem?_eq_getElem av,Array.getElem?_toList] at h1;show World.cell? w' _=_;simp only[World.cell?,ve,Nat.zero_add];simpa using h1
def QU:Go.Shelf.Ren:=
 {f:=fun x=>match x with|7=>116|10=>204|n=>n,
  t:=fun x=>match x with|23=>224|26=>3|3=>227|28=>125|0=>0|27=>124|33=>244|4=>4|n=>n,
  g:=fun n=>n}
set_option maxRecDepth 100000 in
theorem YV:SlLaysZI.n7 prog QU where
 mixed:=by kernel_rfl
 f7:=⟨"maps.Keys[map[int][16]int,int,[16]int]",by decide,Eq.trans func116 (congrArg some (by kernel_rfl))⟩
 f10:=⟨"maps.Keys[map[int][16]int,int,[16]int]$1",by decide,Eq.trans func204 (congrArg some (by kernel_rfl))⟩
 t0:=underlying0
 a0:=isAgg0
 z0:=sizeOf0
 v0:=zeroValue0
 t4:=underlying4
 a4:=isAgg4
 z4:=sizeOf4
 v4:=zeroValue4
 t23:=underlying224
 a23:=isAgg224
 z23:=sizeOf224
 v23:=zeroValue224
 t26:=underlying3
 a26:=isAgg3
 z26:=sizeOf3
 v26:=zeroValue3
 t27:=underlying124
 a27:=isAgg124
 z27:=sizeOf124
 v27:=zeroValue124
 t28:=underlying125
 a28:=isAgg125
 z28:=sizeOf125
 v28:=zeroValue125
 t33:=underlying244
 a33:=isAgg244
 z33:=sizeOf244
 v33:=zeroValue244
theorem YW {r:List Z}{a b:Nat}{aW:TypeId}{ents:List (F×F)}{Y:List Int}(aC:r[a]? =some (.be (.map false [.int .i64] ents)))(hb:r[b]? =some (.ag aW 1 [[.bE a]]))(O:ents.map (·.1)=Y.map (F.int .i64 ·))(ss:Y.Nodup)(ki: ∀ x∈Y,(Lit.int .i64 x).wf=true)(cK:Y.length≤1000000):
 aO prog 47 [.fn 204 [.bd b 1 0 0]] r
  (fun v rs=>v= .pure 1 (cJ .i64 (fq Y))∧rs=r):=by
 refine aO.P5 (fun h=>h) ?_;intro C dA N aA hG dv;have iV:C.r[a]? =some (.be (.map false [.int .i64] ents)):=by rw[N];exact aC
 have jS:C.r[b]? =some (.ag aW 1 [[.bE a]]):=by rw[N];exact hb
 rw[aE] at dv;obtain⟨v0,bS,rfl,an,aH⟩:=dv;rw[aE] at aH;subst aH;rw[Rep] at an;obtain⟨vs,rfl,kU⟩:=an;rw[aE] at kU;obtain⟨RX,bS,Cz,ak,aH⟩:=kU;rw[aE] at aH;subst aH;rw[Rep] at ak;obtain⟨hC,_,_,hall⟩:=ak;obtain⟨_,G⟩:=hall _ _ _ jS;obtain⟨_,Bm,J,rl,rfl⟩:=G rfl;obtain rfl:vs= #[.pointer (some ⟨Bm,0,none⟩)]:=by
  apply Array.toList_inj.1;rw[Cz]
 rcases aA.ag jS with ⟨_,qo⟩|⟨b1,cap,ap,iK,zG,nE,eK,vK,eA,dp⟩
 ·cases qo
 rw[rl] at iK;simp only[Option.some.injEq,Prod.mk.injEq] at iK;obtain⟨rfl,rfl⟩:=iK;rw[dh,dC] at dp;obtain⟨⟨RY,nw,_,kD⟩,_⟩:=dp.2.1;rw[Rep] at kD;obtain⟨_,_,_,kD⟩:=kD;obtain⟨b0,c0,CA,rfl⟩:=kD _ iV;have mr:=aA.r _ _ iV;rw[dQ] at mr;obtain⟨RZ,R0,ar,qK,R1,lZ,sb,xq,Gh,Gi⟩:=mr;rw[CA] at qK;simp only[Option.some.injEq,Prod.mk.injEq] at qK;obtain⟨rfl,rfl⟩:=qK;have gO:ar.toList.map (·.key)=Y.map (Value.int .i64 ·):=BZ (by rw[←O];exact xq);have dJ:ar.size=Y.length:=by
  have:=congrArg List.length gO;simpa using this
 let aF:Value→Option (DataW Unit×List MemPlace):=fun _=>some (.nil,[])
 have Io:prog.underlying 3=some (.int .i64):=underlying3;have tP: ∀ x∈ar.toList,∃ M:Int,x.key= .int .i64 M∧M∈Y∧Go.WideElems.rd prog 3 aF x=some (.int .i64 M,.nil):=by
  intro x aj;have:x.key∈Y.map (Value.int .i64 ·):=by rw[←gO];exact List.mem_map_of_mem aj
  obtain⟨M,ba,sD⟩:=List.mem_map.1 this;refine⟨M,sD.symm,ba,?_⟩;unfold Go.WideElems.rd;rw[←sD,keyOf_int_mk Io (ki M ba)];rfl
 have uA:Go.WideElems.Fit prog 3 aF ar ar.size:=by
  refine⟨by rw[dJ];unfold maxLen;omega,⟨fun x aj=> ?_,?_,?_⟩,fun x aj=> ?_⟩
  ·obtain⟨c,av,rfl⟩:=List.getElem_of_mem aj;have:=sb c _ (by rw[←Array.getElem?_toList,List.getElem?_eq_getElem av]);rw[this];simpa using av
  ·have:ar.toList.map (·.born)=List.range ar.size:=by
    refine List.ext_getElem? fun c=> ?_
    by_cases av:c < ar.size
    ·rw[List.getElem?_map,Array.getElem?_toList,Array.getElem?_eq_getElem av,List.getElem?_range av];simp[sb c _ (Array.getElem?_eq_getElem av)]
    ·rw[List.getElem?_eq_none (by simp;omega),List.getElem?_eq_none (by simp;omega)]
   rw[this];exact List.nodup_range
  ·rw[gO];exact List.pairwise_map.2 (ss.imp fun h e=>h (by simpa using e))
  ·obtain⟨M,_,_,h⟩:=tP x aj;exact⟨_,h⟩
 let el:=ar.toList.map (Go.WideElems.rg prog 3 aF)
 let aD:DataW Unit:= .map (el.foldr DataW.insert [])
 have pK:C.w.ownsMap prog 3 aF b0 ar.size aD:=⟨ar,ar.size,lZ,uA,Nat.le_refl _,rfl⟩;have wF:el.map (fun p=>Go.intOf p.1)=Y:=by
  have: ∀ x∈ar.toList,((fun p:Lit×DataW Unit=>Go.intOf p.1)∘Go.WideElems.rg prog 3 aF) x=(Su∘fun x:MapEntry=>x.key) x:=by
   intro x aj;obtain⟨M,h1,_,G⟩:=tP x aj;simp only[Function.comp_apply];rw[Go.WideElems.rg_of G,h1];rfl
  show List.map _ (List.map _ ar.toList)=Y;rw[List.map_map,List.map_congr_left this,←List.map_map,gO,List.map_map];exact List.map_id' Y
 have kV: (intKeys aD).Perm Y:=by
  rw[←wF];exact (Go.WideShapes.sorted_perm el).map _
 have fS:Maps.size aD=Y.length:=by
  show (el.foldr DataW.insert []).length=_;rw[length_sorted,List.length_map,Array.length_toList,dJ]
 have vf:SeqGives Fence.wide 2 prog 204 #[.pointer (some ⟨Bm,0,none⟩)] encZ (fun bV:List Int=>bV.Perm (intKeys aD)) (Maps.size aD) C.w:=
  AnyZI.keys_gives (ρ:=QU) {YV with} Fence.wide _ trivial rfl (by omega) Bm b0 ar.size aD C.w (Array.getElem?_eq_some_iff.1 nE).1 nw pK
 have CB:=AnyZI.sorted_in Sr Fence.wide 5 trivial trivial trivial trivial rfl (by omega) (Ss _) (enters_of func127 (by kernel_rfl) rfl) 204 #[.pointer (some ⟨Bm,0,none⟩)] trivial (enters_of func204 (by kernel_rfl) rfl) _ _ (by rw[fS];unfold maxLen;omega) (by rw[fS];omega) _ vf;refine (callsIn_wide.1 CB).mono ?_;rintro e w' ⟨v,bV,rfl,du,hrow,iW,hb⟩;have CC: (bV.mergeSort leI)=fq Y:=mergeSort_of_perm_i (du.trans kV);have fF:bV.length=(fq Y).length:=by rw[zY];exact (du.trans kV).length_eq
 refine⟨v,_,rfl,hb,fun Dp=> ?_,rfl,by rw[←N]⟩;rw[Rep];rcases hrow.2 with ⟨rfl,ba⟩|⟨g,cap,oZ,rfl,Mz,ve,r1,cY,fY,fc⟩
 ·exact⟨none,0,by rw[mV,←fF,ba],by rw[mV,←fF,ba];exact Nat.le_refl _,.inl (by rw[mV,←fF,ba])⟩
 ·refine⟨_,cap,by rw[mV,←fF],by rw[mV,←fF];exact r1,.inr ⟨g,0,rfl,⟨(Array.getElem?_eq_some_iff.1 ve).1,fun bp=> ?_,fun z J h=> ?_⟩,?_⟩⟩
  ·have:=aA.bY _ bp;omega
  ·have:=aA.lt h;omega
  ·refine My (C:=bD.p _) _ _ fun c av=> ?_;have h1: (oZ.toList.take (bV.length*1))[c]? =((bV.mergeSort leI).map encZ)[c]? :=by rw[fc]
   rw[List.getElem?_take_of_lt (by rw[Nat.mul_one,fF];exact av),List.getElem?_map,CC,List.getElem?_eq_getElem av,Array.getElem?_toList] at h1;show World.cell? w' _=_;simp only[World.cell?,ve,Nat.zero_add];simpa using h1
def auM:Go.Shelf.Ren:=QU
theorem auN:SlLaysZI.n7 prog auM:=YV
theorem auO (aW:TypeId)(ents:List (F×F))(Y:List Int)(O:ents.map (·.1)=Y.map (F.int .i64 ·))(ss:Y.Nodup)(ki: ∀ x∈Y,(Lit.int .i64 x).wf=true)(cK:Y.length≤1000000):
 aO prog 47 [.fn 204 [.bd 1 1 0 0]] [.be (.map false [.int .i64] ents),.ag aW 1 [[.bE 0]]]
  (fun v rs=>v= .pure 1 (cJ .i64 (fq Y))∧rs= [.be (.map false [.int .i64] ents),.ag aW 1 [[.bE 0]]]):=
 YW rfl rfl O ss ki cK
def gp (l:List Int)(a:Int):Z:=dX 143 l a
theorem ED (v n:Int)(aH:0 < n)(GS:n≤9223372036854775807):aO prog 10 [.int .i64 v,.int .i64 n] [] (fun z r=>z= .int .i64 (mod v n)∧r= []):=by
 refine cu func10 Ls (by simp[uW,sn]) ?_;simp only[go_sem,uW,sn];refine⟨by omega,?_⟩;have h1:=Int.tmod_lt_of_pos v aH;refine cf ?_ ?_<;>intro aw<;>simp only[go_sem,uW,sn]<;>refine E.bg rfl ⟨?_,rfl⟩<;>simp only[decide_eq_true_eq,decide_eq_false_iff_not] at aw
 ·have G: -n < v.tmod n:=by
   have:=Int.lt_tmod_of_pos v aH;omega
  rw[bl (by omega) (by omega),mod,if_pos aw]
 ·rw[mod,if_neg aw]
theorem atG (l:List Int):aO prog 16 [.pure 1 (cJ .i64 l)] [] (fun z r=>z= .bd 0 1 0 0∧r= [gp l 0]):=by
 refine cu func16 Ye (by simp[Lt,QC]) ?_;simp only[go_sem,Lt,QC];exact E.ac ⟨rfl,rfl⟩
theorem hi (l:List Int)(hl:mW l)(n:Int)(aH:n≤9223372036854775807):BU prog 143 64 [.int .i64 n] l (PR n):=by
 intro az h0 h1;refine cu func64 Lu (by simp[uX,wu]) ?_;simp only[go_sem,uX,wu,dX];have cK:=hl.len
 repeat' ((first|refine gv ?_ ?_|refine gw ?_ ?_|refine cf ?_ ?_|refine dj ?_ ?_)<;>intro aw<;>(have ak:=aw;try simp only[bC] at ak)<;>(first|omega| (simp only[go_sem,aw,uX,wu];clear aw)))
 ·exact E.tape rfl h0 h1 ⟨0,rfl,by omega,by omega⟩
 ·exact E.tape rfl h0 h1 ⟨0,rfl,by omega,by omega⟩
 ·simp (disch:=omega) only[bl,tw,Int.add_sub_cancel];refine⟨by omega,by omega,by simp,?_⟩;simp only[go_sem];refine gG (ED _ _ (by omega) aH) rfl rfl ?_;simp only[go_sem];have hb:=PS (v:=l.getD az.toNat 0) (n:=n) (by omega);exact E.tape rfl (by omega) (by omega) ⟨_,rfl,by omega,by omega⟩
theorem hj (l:List Int)(hl:mW l)(aq:List Int)(aj:0 < aq.length)(rY:aq.length≤1000):BV prog 143 3 59 l aq (fun v=> ∃ x,x∈aq∧v= .int .i64 x):=by
 intro az h0 h1;refine cu func59 Lv (by simp[zP,Cg]) ?_;simp only[go_sem,zP,Cg];refine KP (hi l hl _ (by omega)) rfl (by simp) h0 h1 ?_;rintro v a G au ⟨x,rfl,bv,cx⟩;simp only[go_sem];refine⟨by omega,by omega,?_⟩;rw[tw (by omega)];simp only[go_sem];refine E.ac ⟨a,rfl,G,au,rfl,_,?_,rfl⟩;rw[List.getD_eq_getElem?_getD,List.getElem?_eq_getElem (by omega)];simp
theorem atH {v n:Int}(aH:0 < n):0≤mod v n∧mod v n < n:=by
 have h1:=Int.tmod_lt_of_pos v aH;have G: -n < v.tmod n:=by have:=Int.lt_tmod_of_pos v aH;omega
 unfold mod;split<;>omega
end Go.Proofs.YtpincjkjoeopkaaGreatDoor
