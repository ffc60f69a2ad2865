/- Time evaluation. -/
import Derived.Test.YtpincjkjoeopkaaGreatDoorW19
import Derived.KernelRfl
import Derived.Test.YtpincjkjoeopkaaGreatDoorW8
import Derived.Test.YtpincjkjoeopkaaGreatDoorW15
import Derived.WalkKit
import Derived.Test.YtpincjkjoeopkaaGreatDoorW16
import Derived.Test.YtpincjkjoeopkaaGreatDoorW6
import Derived.Test.YtpincjkjoeopkaaGreatDoorW5
set_option linter.all false
namespace Go.Proofs.YtpincjkjoeopkaaGreatDoor
open Go Go.Abs Go.Maps Go.Proofs.Tryz
open Go.RowKit Go.Sort Go.Shelf
set_option maxRecDepth 100000
set_option maxHeartbeats 2000000 in
theorem awm (bm:Fence)(n:Nat)(RV:bm.fn 261)(mr:bm.round=none)(aH:2≤n)(g:Nat)(qy:Array Value)(RW:bm.fn g)(B1: ∀ args w,(callFunc g args).run prog w= .ok (.enter g args) w)
 (S:List Value→Prop) (cs:Nat) (fS:cs≤maxLen) (HV:cs*24≤140737488355328) (w:World) (vf:Qj prog 235 bm (n-1) g qy S cs w):
 CallsIn bm n prog 261 #[.slice none 0 0,.func (.func g) #[] qy] w fun e w'=> ∃ (v:Value) (bV:List Value),e= .returned v∧S bV∧w'.ownsRow w.heap.size 235 2 v bV.length (uT bV)∧(v= .slice none 0 0↔bV= [])∧Below w.heap.size w w':=by
 have h1:1≤n:=by omega
 have mixed:prog.follows .mixedOrders=true:=by kernel_rfl
 have t0:=underlying0;have a0:=isAgg0;have z0:=sizeOf0;have v0:=zeroValue0;have t4:=underlying4;have a4:=isAgg4;have z4:=sizeOf4;have v4:=zeroValue4;have t23:=underlying232;have a23:=isAgg232;have z23:=sizeOf232;have v23:=zeroValue232;have t24:=underlying236;have a24:=isAgg236;have z24:=sizeOf236;have v24:=zeroValue236;have t28:=underlying239;have a28:=isAgg239;have z28:=sizeOf239;have v28:=zeroValue239;have t33:=underlying322;have a33:=isAgg322;have z33:=sizeOf322;have v33:=zeroValue322;have t26:=underlying235;have a26:=isAgg235;have z26:=sizeOf235;have v26:=zeroValue235;have HR:=run_underlying t0;have Bp:=run_underlying t4;have Rl:=run_underlying t23;have Rm:=run_underlying t33;have Rn:=run_underlying t24;have Ro:=run_underlying t28;have Rp:=run_underlying t26;refine callsIn_of_wp_marks func261 rfl RV ?_ mr;simp only[ntmps261,List.size_toArray,List.length_cons,List.length_nil,Nat.reduceAdd,Nat.reduceSub,Array.replicate_succ,Array.replicate_zero,List.push_toArray,List.append_toArray,List.nil_append,List.cons_append]
 gi_wp2
 refine wpIn_rangeFunc ?_;intro fn hfn;rw[mr];obtain⟨jw,E6⟩: ∃ jw,w.alloc (.cells #[.slice none 0 0] 236)=jw:=⟨_,rfl⟩;have oK:jw.heap.size=w.heap.size+1:=by rw[←E6];simp
 have jZ:jw.heap[w.heap.size]? =some (.cells #[.slice none 0 0] 236 (0,0)):=by rw[←E6];exact World.alloc_heap_new w _
 have lZ:Below w.heap.size w jw:=by rw[←E6];exact (Below.refl _ w).alloc (Nat.le_refl _) _
 rw[E6];obtain⟨hx,tK⟩: ∃ hx,(jw.alloc (.deferred (some []))).alloc (.loop (tJ fn (.func (.func g) #[] qy) w.heap.size jw.heap.size .ready none))=hx:=⟨_,rfl⟩;have mQ: ∀ k,k < jw.heap.size→hx.heap[k]? =jw.heap[k]? :=fun k O=>by
  rw[←tK];exact (Below.heap_alloc _ _ k (by simp;omega)).trans (Below.heap_alloc _ _ k O)
 have uv:Below w.heap.size w hx:=by rw[←tK];exact (lZ.alloc lZ.size _).alloc (by have:=lZ.size;simp;omega) _
 have lo:hx.heap.size=jw.heap.size+2:=by rw[←tK];simp
 have Cn:Cq w fn (.func (.func g) #[] qy) w.heap.size (jw.heap.size+1) jw.heap.size [] hx:=
  ⟨⟨_,(mQ w.heap.size (by omega)).trans jZ,⟨rfl,.inl ⟨rfl,rfl⟩⟩,by simp⟩,
   by rw[←tK];have:=World.alloc_heap_new (jw.alloc (.deferred (some []))) (.loop (tJ fn (.func (.func g) #[] qy) w.heap.size jw.heap.size .ready none));rwa [World.size_alloc] at this,
   by rw[←tK];exact (Below.heap_alloc _ _ _ (by simp)).trans (World.alloc_heap_new jw _),uv⟩
 refine⟨jw.heap.size+1,[{target:= .collected jw.heap.size,args:= #[]}],hx,{target:= .fn (.func g) qy,args:= #[.func (.yield (jw.heap.size+1)) #[] #[]]},hx,g,
  #[.func (.yield (jw.heap.size+1)) #[] #[]]++qy,hx,?_,?_,?_,?_,fun _=>h1,?_⟩
 ·rw[←tK];exact run_enterLoop_outer _ _ _ _ _
 ·simp[resolve,go_sem]
 ·intro VZ hf';simp[Target.leads] at hf';subst hf';exact RW
 ·simp[invoke,go_sem,B1]
 ·refine (vf (jw.heap.size+1) (Cq w fn (.func (.func g) #[] qy) w.heap.size (jw.heap.size+1) jw.heap.size) hx uv (Cq.avD _ _ _ _ _ _ _ uv.size)
   (fun pre x W ju hl O=>avE bm (n-1-1) w fn hfn _ w.heap.size (jw.heap.size+1) jw.heap.size (by omega) (by omega) (by omega) (Nat.le_refl _) (by omega) cs fS HV pre x O W ju hl) Cn).mono ?_
  rintro e gg ⟨⟨v0,rfl⟩,bV,du,G⟩;obtain⟨v,an,y,iW⟩:=G.box;have ww:=run_endLoop (P:=prog) G.aY (by simp[tJ]);obtain⟨tH,H9⟩: ∃ tH,gg.putObj (jw.heap.size+1) (.loop {tJ fn (.func (.func g) #[] qy) w.heap.size jw.heap.size .ready none with state:= .exhausted})=tH:=⟨_,rfl⟩;rw[H9] at ww;have fH:gg.grownBy tH (some (jw.heap.size+1)):=by rw[←H9];exact grownBy_putObj_a _ _ _
  have E1:tH.heap[w.heap.size]? =some (.cells #[v] 236 (0,0)):=by rw[←H9];exact (World.putObj_heap_other (by omega)).trans an
  have HX:tH.heap[jw.heap.size]? =some (.deferred (some [])):=by rw[←H9];exact (World.putObj_heap_other (by omega)).trans G.K
  have Z1:=y.kept fH (ownsRow_ne_a y G.aY (fun oZ e=>by first|cases e|exact hne (Obj.cells.inj e).2.1));have EU:Below w.heap.size w tH:=G.below.grown fH G.below.size (fun k e=>by cases e;omega);obtain⟨avM,avN⟩:=cell_of_box_a E1;clear H9;refine⟨none,tH,ww,?_⟩
  gi_wp2
  rw[←oK];refine⟨by simp,.inl ⟨_,_,rfl,run_takeDeferred HX,?_⟩⟩;exact⟨_,results_tmp rfl _ _ _,v,bV,rfl,du,Z1.kept (grownBy_putObj_a _ _ _) (ownsRow_ne_a Z1 HX (fun oZ e=>by first|cases e|exact hne (Obj.cells.inj e).2.1)),iW,EU.grown (grownBy_putObj_a _ _ _) EU.size (fun k e=>by cases e;omega)⟩
set_option maxHeartbeats 1000000 in
theorem awn (bm:Fence)(n:Nat)(Ia:bm.fn 205)(RV:bm.fn 261)(mr:bm.round=none)(aH:3≤n)(g:Nat)(qy:Array Value)(RW:bm.fn g)(B1: ∀ args w,(callFunc g args).run prog w= .ok (.enter g args) w)
 (S:List Value→Prop) (cs:Nat) (fS:cs≤maxLen) (HV:cs*24≤140737488355328) (w:World) (vf:Qj prog 235 bm (n-1-1) g qy S cs w):
 CallsIn bm n prog 205 #[.func (.func g) #[] qy] w fun e w'=> ∃ (v:Value) (bV:List Value),e= .returned v∧S bV∧w'.ownsRow w.heap.size 235 2 v bV.length (uT bV)∧(v= .slice none 0 0↔bV= [])∧Below w.heap.size w w':=by
 have h1:1≤n:=by omega
 have aJP: ∀ args w,(callFunc 261 args).run prog w= .ok (.enter 261 args) w:=enters_of func261 (by kernel_rfl) rfl;have mixed:prog.follows .mixedOrders=true:=by kernel_rfl
 have t0:=underlying0;have a0:=isAgg0;have z0:=sizeOf0;have v0:=zeroValue0;have t4:=underlying4;have a4:=isAgg4;have z4:=sizeOf4;have v4:=zeroValue4;have t23:=underlying232;have a23:=isAgg232;have z23:=sizeOf232;have v23:=zeroValue232;have t24:=underlying236;have a24:=isAgg236;have z24:=sizeOf236;have v24:=zeroValue236;have t28:=underlying239;have a28:=isAgg239;have z28:=sizeOf239;have v28:=zeroValue239;have t33:=underlying322;have a33:=isAgg322;have z33:=sizeOf322;have v33:=zeroValue322;have t26:=underlying235;have a26:=isAgg235;have z26:=sizeOf235;have v26:=zeroValue235;have HR:=run_underlying t0;have Bp:=run_underlying t4;have Rl:=run_underlying t23;have Rm:=run_underlying t33;have Rn:=run_underlying t24;have Ro:=run_underlying t28;have Rp:=run_underlying t26;refine callsIn_of_wp func205 rfl Ia ?_ mr;simp only[ntmps205,List.size_toArray,List.length_cons,List.length_nil,Nat.reduceAdd,Nat.reduceSub,Array.replicate_succ,Array.replicate_zero,List.push_toArray,List.append_toArray,List.nil_append,List.cons_append]
 gi_wp2_with (gi_at_fn 261;refine (awm bm (n-1) RV mr (by omega) g qy RW B1 S cs fS HV _ vf).mono ?_;rintro e w' ⟨v,bV,rfl,du,y,iW,af⟩)
 go_ret
 exact⟨v,bV,rfl,du,y,iW,af⟩
def qJ (k:cv):Value:= .agg #[.int .i64 k.B,.string k.n]
theorem Me {a b:cv}(h:qJ a=qJ b):a=b:=by
 cases a;cases b;unfold qJ at h;simp only[Value.agg.injEq,Array.mk.injEq,List.cons.injEq,Value.int.injEq,Value.string.injEq,true_and,and_true] at h;obtain⟨rfl,rfl⟩:=h;rfl
def Ak (Y:List cv):List F:=Y.map fun k=> .agg (aJ.J k)
theorem Z2 {C:bD}: ∀ {Y:List cv} {vs:List Value},aE C (Ak Y) vs→vs=Y.map qJ
 | [],vs,h=>by simpa[Ak,aE] using h
 |k::Y,vs,h=>by
  unfold Ak at h;rw[List.map_cons,aE] at h;obtain⟨v,bS,rfl,an,N⟩:=h;simp only[Rep] at an;obtain⟨ap,rfl,eK⟩:=an;rw[LP,aE] at eK;obtain⟨v1,r1,bF,h1,eK⟩:=eK;rw[aE] at eK;obtain⟨rU,cY,rfl,G,eK⟩:=eK;rw[aE] at eK;subst eK;simp only[Rep] at h1 G;subst h1;subst G;rw[List.map_cons,←Z2 (Y:=Y) N];congr 1;unfold qJ;congr 1;exact Array.toList_inj.1 bF
theorem Z3: ∀ (l:List cv),uT (l.map qJ)=(l.map fp).flatten
 | []=>rfl
 |k::l=>by
  have ih:=Z3 l;unfold uT at *;rw[List.map_cons,List.flatMap_cons,List.map_cons,List.flatten_cons,ih];rfl
instance:uR cv:=⟨fun _=>rfl⟩
theorem awo {r:List Z}{a b:Nat}{aW:TypeId}{s:List (F×F)}{Y:List cv}(aC:r[a]? =some (.be (.map true [.int .i64,.str] s)))(af:r[b]? =some (.ag aW 1 [[.bE a]]))(O:s.map (·.1)=Ak Y)(ss:Y.Nodup)
 (ki: ∀ x∈Y,(Lit.int .i64 x.B).wf=true∧x.n.size≤maxLen) (cK:Y.length≤1000000):
 aO prog 205 [.fn 207 [.bd b 1 0 0]] r
  (fun v rs=> ∃ l:List cv,l.Perm Y∧v= .own r.length l.length 0 l.length∧rs=r++ [.ag 235 2 (ai l)]):=by
 refine aO.asQ (fun h=>h) ?_;intro C dA N aA hG dv;have iV:C.r[a]? =some (.be (.map true [.int .i64,.str] s)):=by rw[N];exact aC
 have jS:C.r[b]? =some (.ag aW 1 [[.bE a]]):=by rw[N];exact af
 rw[aE] at dv;obtain⟨v0,bS,rfl,an,aH⟩:=dv;rw[aE] at aH;subst aH;rw[Rep] at an;obtain⟨vs,rfl,kU⟩:=an;rw[aE] at kU;obtain⟨RX,bS,Cz,ak,aH⟩:=kU;rw[aE] at aH;subst aH;rw[Rep] at ak;obtain⟨hC,_,_,hall⟩:=ak;obtain⟨_,G⟩:=hall _ _ _ jS;obtain⟨_,Bm,J,rl,rfl⟩:=G rfl;obtain rfl:vs= #[.pointer (some ⟨Bm,0,none⟩)]:=by
  apply Array.toList_inj.1;rw[Cz]
 rcases aA.ag jS with ⟨_,qo⟩|⟨b1,cap,ap,iK,zG,nE,eK,vK,eA,dp⟩
 ·cases qo
 rw[rl] at iK;simp only[Option.some.injEq,Prod.mk.injEq] at iK;obtain⟨rfl,rfl⟩:=iK;rw[dh,dC] at dp;obtain⟨⟨RY,nw,_,kD⟩,_⟩:=dp.2.1;rw[Rep] at kD;obtain⟨_,_,_,kD⟩:=kD;obtain⟨b0,c0,CA,rfl⟩:=kD _ iV;have mr:=aA.r _ _ iV;rw[dQ] at mr;obtain⟨RZ,R0,ar,qK,R1,lZ,sb,xq,Gh,Gi⟩:=mr;rw[CA] at qK;simp only[Option.some.injEq,Prod.mk.injEq] at qK;obtain⟨rfl,rfl⟩:=qK;have gO:ar.toList.map (·.key)=Y.map qJ:=Z2 (by rw[←O];exact xq);have dJ:ar.size=Y.length:=by
  have:=congrArg List.length gO;simpa using this
 let aF:Value→Option (DataW Unit×List MemPlace):=fun _=>some (.nil,[])
 have tP: ∀ x∈ar.toList,∃ k,x.key=qJ k∧k∈Y∧Go.WideElems.rd prog 235 aF x=some (.string (keyBytes [.int .i64 k.B,.string k.n.data.toList]),.nil):=by
  intro x aj;have:x.key∈Y.map qJ:=by rw[←gO];exact List.mem_map_of_mem aj
  obtain⟨k,ba,sD⟩:=List.mem_map.1 this;refine⟨k,sD.symm,ba,?_⟩;unfold Go.WideElems.rd;rw[←sD];unfold qJ;rw[Ic (ki k ba).1 (ki k ba).2];rfl
 have uA:Go.WideElems.Fit prog 235 aF ar ar.size:=by
  refine⟨by rw[dJ];unfold maxLen;omega,⟨fun x aj=> ?_,?_,?_⟩,fun x aj=> ?_⟩
  ·obtain⟨c,av,rfl⟩:=List.getElem_of_mem aj;have:=sb c _ (by rw[←Array.getElem?_toList,List.getElem?_eq_getElem av]);rw[this];simpa using av
  ·have:ar.toList.map (·.born)=List.range ar.size:=by
    refine List.ext_getElem? fun c=> ?_
    by_cases av:c < ar.size
    ·rw[List.getElem?_map,Array.getElem?_toList,Array.getElem?_eq_getElem av,List.getElem?_range av];simp[sb c _ (Array.getElem?_eq_getElem av)]
    ·rw[List.getElem?_eq_none (by simp;omega),List.getElem?_eq_none (by simp;omega)]
   rw[this];exact List.nodup_range
  ·rw[gO];exact List.pairwise_map.2 (ss.imp fun h e=>h (Me e))
  ·obtain⟨k,_,_,h⟩:=tP x aj;exact⟨_,h⟩
 let el:=ar.toList.map (Go.WideElems.rg prog 235 aF)
 let aD:DataW Unit:= .map (el.foldr DataW.insert [])
 have pK:C.w.ownsMap prog 235 aF b0 ar.size aD:=⟨ar,ar.size,lZ,uA,Nat.le_refl _,rfl⟩;have R2: (el.foldr DataW.insert []).Perm el:=Go.WideShapes.sorted_perm el;have fS:Maps.size aD=Y.length:=by
  show (el.foldr DataW.insert []).length=_;rw[R2.length_eq,List.length_map,Array.length_toList,dJ]
 have Z4: ∀ k:cv,(Lit.int .i64 k.B).wf=true→k.n.size≤maxLen→(has aD (.string (keyBytes [.int .i64 k.B,.string k.n.data.toList]))=true↔k∈Y):=by
  intro k jG jH;rw[show has aD _=(el.foldr DataW.insert []).any (fun p=>p.1.sameKey (.string (keyBytes [.int .i64 k.B,.string k.n.data.toList]))) from has_eq _ _,List.any_eq_true];constructor
  ·rintro⟨p,ak,ao⟩;have hT:=R2.mem_iff.1 ak;obtain⟨x,aj,rfl⟩:=List.mem_map.1 hT;obtain⟨br,h1,G,au⟩:=tP x aj;rw[Go.WideElems.rg_of au] at ao;have:=WideAt.sameKey_eq ao;have e:=Rq.inj (Ic (ki br G).1 (ki br G).2) (this▸Ic jG jH);rw[←Me e];exact G
  ·intro gj;have:qJ k∈ar.toList.map (·.key):=by rw[gO];exact List.mem_map_of_mem gj
   obtain⟨x,aj,he⟩:=List.mem_map.1 this;refine⟨Go.WideElems.rg prog 235 aF x,R2.mem_iff.2 (List.mem_map_of_mem aj),?_⟩;obtain⟨br,h1,G,au⟩:=tP x aj;rw[Go.WideElems.rg_of au];have e:br=k:=Me (h1.symm.trans he);subst e;exact WideAt.sameKey_self (Rq.key (Ic jG jH))
 have vf:=avy (H:=Unit) (aF:=aF) Fence.wide 1 trivial rfl (by omega) Bm b0 ar.size aD C.w (Array.getElem?_eq_some_iff.1 nE).1 nw pK;have CB:=awn Fence.wide 3 trivial trivial rfl (by omega) 207 #[.pointer (some ⟨Bm,0,none⟩)] trivial
  (enters_of func207 (by kernel_rfl) rfl) _ (Maps.size aD) (by rw[fS];unfold maxLen;omega) (by rw[fS];omega) C.w vf
 refine (callsIn_wide.1 CB).mono ?_;rintro e w' ⟨v,bV,rfl,du,y,iW,nK⟩;have CC: ∃ l:List cv,bV=l.map qJ∧l.Perm Y:=by
  have hall: ∀ x∈bV,∃ k,x=qJ k∧k∈Y:=fun x aj=>by
   obtain⟨lt,h1,G,_⟩:=(du.2 x).1 aj;obtain⟨B,n,rfl,jG,jH,rfl⟩:=Rs x lt h1;exact⟨⟨B,n⟩,rfl,(Z4 ⟨B,n⟩ jG jH).1 G⟩
  obtain⟨l,hl,hw⟩:=P1 (f:=qJ) (bh:=(·∈Y)) bV hall;refine⟨l,hl,?_⟩;have oa:l.Nodup:=by
   have Id:=du.1;rw[hl] at Id;exact (List.pairwise_map.1 Id).imp fun h e=>h (by rw[e])
  rw[List.perm_ext_iff_of_nodup oa ss];intro k;refine⟨hw k,fun gj=> ?_⟩;have:=(du.2 (qJ k)).2 ⟨_,Ic (ki k gj).1 (ki k gj).2,(Z4 k (ki k gj).1 (ki k gj).2).2 gj,rfl⟩;rw[hl] at this;obtain⟨br,h1,G⟩:=List.mem_map.1 this;rw[←Me G];exact h1
 obtain⟨l,rfl,kV⟩:=CC;refine⟨v,235,2,ai l,(l.map fp).flatten,rfl,nK,?_,Xe l,l,kV,by rw[bT],by rw[←N]⟩;rw[bT,←Z3];simpa using y
open Go.Sort (SWO)
def azc:Go.Shelf.Ren:=
 {f:=fun x=>match x with|6=>206|15=>158|14=>262|28=>241|29=>242|20=>325|21=>326|22=>327|23=>328|24=>329|25=>330|26=>331|27=>332|46=>354|47=>290|48=>291|49=>355|50=>356|57=>367|n=>n,
  t:=fun x=>match x with|22=>236|24=>235|25=>242|3=>3|39=>284|0=>0|53=>347|55=>349|4=>4|46=>341|45=>340|50=>206|5=>5|9=>9|66=>376|70=>380|76=>412|77=>308|n=>n,
  g:=fun n=>n}
set_option maxRecDepth 100000 in
theorem azd:SlLaysF0.n6 prog azc where
 mixed:=by kernel_rfl
 f6:=⟨"slices.SortFunc[[]payroll/timesheet.key,payroll/timesheet.key]",by decide,Eq.trans func206 (congrArg some (by kernel_rfl))⟩
 f14:=⟨"slices.pdqsortCmpFunc[payroll/timesheet.key]",by decide,Eq.trans func262 (congrArg some (by kernel_rfl))⟩
 f15:=Eq.trans func158 (congrArg some (by kernel_rfl))
 f20:=⟨"slices.insertionSortCmpFunc[payroll/timesheet.key]",by decide,Eq.trans func325 (congrArg some (by kernel_rfl))⟩
 f21:=⟨"slices.heapSortCmpFunc[payroll/timesheet.key]",by decide,Eq.trans func326 (congrArg some (by kernel_rfl))⟩
 f22:=⟨"slices.breakPatternsCmpFunc[payroll/timesheet.key]",by decide,Eq.trans func327 (congrArg some (by kernel_rfl))⟩
 f23:=⟨"slices.choosePivotCmpFunc[payroll/timesheet.key]",by decide,Eq.trans func328 (congrArg some (by kernel_rfl))⟩
 f24:=⟨"slices.reverseRangeCmpFunc[payroll/timesheet.key]",by decide,Eq.trans func329 (congrArg some (by kernel_rfl))⟩
 f25:=⟨"slices.partialInsertionSortCmpFunc[payroll/timesheet.key]",by decide,Eq.trans func330 (congrArg some (by kernel_rfl))⟩
 f26:=⟨"slices.partitionEqualCmpFunc[payroll/timesheet.key]",by decide,Eq.trans func331 (congrArg some (by kernel_rfl))⟩
 f27:=⟨"slices.partitionCmpFunc[payroll/timesheet.key]",by decide,Eq.trans func332 (congrArg some (by kernel_rfl))⟩
 f28:=Eq.trans func241 (congrArg some (by kernel_rfl))
 f29:=Eq.trans func242 (congrArg some (by kernel_rfl))
 f46:=⟨"slices.siftDownCmpFunc[payroll/timesheet.key]",by decide,Eq.trans func354 (congrArg some (by kernel_rfl))⟩
 f47:=Eq.trans func290 (congrArg some (by kernel_rfl))
 f48:=Eq.trans func291 (congrArg some (by kernel_rfl))
 f49:=⟨"slices.medianAdjacentCmpFunc[payroll/timesheet.key]",by decide,Eq.trans func355 (congrArg some (by kernel_rfl))⟩
 f50:=⟨"slices.medianCmpFunc[payroll/timesheet.key]",by decide,Eq.trans func356 (congrArg some (by kernel_rfl))⟩
 f57:=⟨"slices.order2CmpFunc[payroll/timesheet.key]",by decide,Eq.trans func367 (congrArg some (by kernel_rfl))⟩
 t0:=underlying0
 a0:=isAgg0
 z0:=sizeOf0
 v0:=zeroValue0
 t3:=underlying3
 a3:=isAgg3
 z3:=sizeOf3
 v3:=zeroValue3
 t4:=underlying4
 a4:=isAgg4
 z4:=sizeOf4
 v4:=zeroValue4
 t5:=underlying5
 a5:=isAgg5
 z5:=sizeOf5
 v5:=zeroValue5
 t9:=underlying9
 a9:=isAgg9
 z9:=sizeOf9
 v9:=zeroValue9
 t22:=underlying236
 a22:=isAgg236
 z22:=sizeOf236
 v22:=zeroValue236
 t25:=underlying242
 a25:=isAgg242
 z25:=sizeOf242
 v25:=zeroValue242
 t39:=underlying284
 a39:=isAgg284
 z39:=sizeOf284
 v39:=zeroValue284
 t45:=underlying340
 a45:=isAgg340
 z45:=sizeOf340
 v45:=zeroValue340
 t46:=underlying341
 a46:=isAgg341
 z46:=sizeOf341
 v46:=zeroValue341
 t50:=underlying206
 a50:=isAgg206
 z50:=sizeOf206
 v50:=zeroValue206
 t53:=underlying347
 a53:=isAgg347
 z53:=sizeOf347
 v53:=zeroValue347
 t55:=underlying349
 a55:=isAgg349
 z55:=sizeOf349
 v55:=zeroValue349
 t66:=underlying376
 a66:=isAgg376
 z66:=sizeOf376
 v66:=zeroValue376
 t70:=underlying380
 a70:=isAgg380
 z70:=sizeOf380
 v70:=zeroValue380
 t76:=underlying412
 a76:=isAgg412
 z76:=sizeOf412
 v76:=zeroValue412
 t77:=underlying308
 a77:=isAgg308
 z77:=sizeOf308
 v77:=zeroValue308
theorem ID {bj:Type}{tx:bj→bj→Int}{aF:bj→bj→Prop}(h: ∀ a b,tx a b < 0↔aF a b)(h1: ∀ a,¬aF a a)(G: ∀ a b J,aF a b→aF b J→aF a J)(au: ∀ a b J,¬aF a b→ ¬aF b J→ ¬aF a J):SWO (ltOf tx):=by
 refine⟨fun x=> ?_,fun x d M=> ?_,fun x d M=> ?_⟩<;>simp only[ltOf,decide_eq_true_eq,decide_eq_false_iff_not,h]
 ·exact h1 x
 ·exact G x d M
 ·exact au x d M
theorem aze:SWO (ltOf If):=by
 refine ID (aF:=pN) (fun a b=>aah) (fun a=> ?_) (fun a b J=> ?_) (fun a b J=> ?_)<;>unfold pN
 ·rintro (h|⟨_,h⟩)
  ·omega
  ·exact Ie _ h
 ·rintro (h|⟨e,h⟩) (k|⟨cO,k⟩)
  ·exact .inl (by omega)
  ·exact .inl (by omega)
  ·exact .inl (by omega)
  ·exact .inr ⟨by omega,Z8 h k⟩
 ·intro h k tt;rcases tt with tt|⟨e,tt⟩
  ·have h1: ¬a.B < b.B:=fun e=>h (.inl e);have G: ¬b.B < J.B:=fun e=>k (.inl e);omega
  ·have h1: ¬a.B < b.B:=fun e=>h (.inl e);have G: ¬b.B < J.B:=fun e=>k (.inl e);have bF:a.B=b.B:=by omega
   have bK:b.B=J.B:=by omega
   have au: ¬a.n.toList < b.n.toList:=fun e=>h (.inr ⟨bF,e⟩);have bv: ¬b.n.toList < J.n.toList:=fun e=>k (.inr ⟨bK,e⟩);rcases Mh au with gX|gX
   ·rw[gX] at tt;exact bv tt
   ·exact bv (Z8 gX tt)
theorem ayV (l:List cv)(hl:l.length < 4611686018427387904):aO prog 206 [.own 0 l.length 0 l.length,.fn 122 []] [.ag 235 2 (ai l)]
 (fun v rs=>v= .bo []∧ ∃ cb:List cv,cb.Perm l∧cb.Pairwise (fun x d=> ¬pN d x)∧rs= [.ag 235 2 (ai cb)]):=by
 refine aO.Hg inferInstance ?_;refine @aO.mono (dE.aD inferInstance) _ _ _ _ _ _ (@aO.G5 (dE.aD inferInstance) trivial cv _ _ _ _ _ _ _ 235 azd rfl isAgg235 sizeOf235 If aze (@awv (dE.aD inferInstance)) (enters_of func122 (by kernel_rfl) rfl) l hl) ?_;rintro v rs ⟨rfl,cb,h1,G,rfl⟩;exact⟨rfl,cb,h1,G.imp fun h e=>h (aah.2 e),rfl⟩
theorem Mp {a b:ByteArray}(h:a.toList=b.toList):a=b:=by
 have e: ∀ x:ByteArray,x.toList=x.data.toList:=fun x=>ByteArray.toList_eq x;rw[e,e] at h;cases a;cases b;congr 1;exact Array.toList_inj.1 h
theorem ayU {a b:cv}(h: ¬pN a b)(hne:a≠b):pN b a:=by
 unfold pN at *;rcases Int.lt_trichotomy a.B b.B with h1|h1|h1
 ·exact absurd (.inl h1) h
 ·by_cases G:a.n.toList < b.n.toList
  ·exact absurd (.inr ⟨h1,G⟩) h
  ·rcases Mh G with au|au
   ·refine absurd ?_ hne;cases a;cases b;simp only at h1 au;rw[h1,Mp au]
   ·exact .inr ⟨h1.symm,au⟩
 ·exact .inl h1
theorem Zf {r:List Z}{a b:Nat}{aW:TypeId}{s:List (F×F)}{Y:List cv}(N:jP r)(aC:r[a]? =some (.be (.map true [.int .i64,.str] s)))(af:r[b]? =some (.ag aW 1 [[.bE a]]))(O:s.map (·.1)=Ak Y)(ss:Y.Nodup)
 (ki: ∀ x∈Y,(Lit.int .i64 x.B).wf=true∧x.n.size≤maxLen) (cK:Y.length≤1000000):
 aO prog 120 [.fn 207 [.bd b 1 0 0],.fn 122 []] r
  (fun v rs=> ∃ l:List cv,l.Perm Y∧l.Pairwise pN∧v= .own r.length l.length 0 l.length∧rs=r++ [.ag 235 2 (ai l)]):=by
 refine cu func120 acg (by simp[MP,SQ]) ?_;have nK:b < r.length:=(List.getElem?_eq_some_iff.1 af).1;simp only[go_sem,MP,SQ];refine uV N (by simp[gx,dt,nK]) (awo aC af O ss ki cK) ?_;rintro _ _ ⟨l,hl,rfl,rfl⟩;refine⟨by simp,?_⟩;simp only[go_sem];refine om [r.length] [] (by simp) (by simp only[go_sem,dH]<;>rfl) (by simp only[go_sem]<;>rfl) (ayV l (by rw[hl.length_eq];omega)) ?_;rintro _ _ ⟨rfl,cb,h1,G,rfl⟩;refine⟨.inl rfl,?_⟩;simp only[go_sem,ec];have aH:cb.Nodup:=(h1.trans hl).nodup_iff.2 ss;refine E.ac ⟨cb,h1.trans hl,?_,by rw[h1.length_eq];rfl,rfl⟩;exact (G.and aH).imp fun h=>ayU h.1 (fun e=>h.2 e.symm)
theorem aO.rZ {f g:FuncId}{aW:TypeId}(h: ∀ (oy:Nat) (w:World),Calls prog f #[.map (some oy)] w fun e w'=>e= .returned (.func (.func g) #[] #[.pointer (some ⟨w.heap.size,0,none⟩)])∧w'=w.alloc (.cells #[.map (some oy)] aW)){r:List Z}{a:Nat}:
 aO prog f [.bE a] r (fun v rs=>v= .fn g [.bd r.length 1 0 0]∧rs=r++ [.ag aW 1 [[.bE a]]]):=by
 intro C dA N aA hG dv;rw[aE] at dv;obtain⟨v0,bS,rfl,an,aH⟩:=dv;rw[aE] at aH;subst aH;have df:=an;rw[Rep] at an;obtain⟨hC,⟨oy,rfl⟩,_,_⟩:=an;refine (h oy C.w).mono ?_;rintro e w' ⟨rfl,rfl⟩;obtain⟨bO,cd⟩:=DJ df (rfl: (cp (.bE a)).all Abs.cV=true);have ak:=Bf aA aW 1 1 #[.map (some oy)] [[.bE a]] [.map (some oy)] (C.w.alloc (.cells #[.map (some oy)] aW)) ⟨rfl,rfl,rfl,rfl⟩ (by simp) (by simp[maxLen]) (by simp) (DX rfl bO cd) rfl;refine⟨_,.fn g [.bd r.length 1 0 0],_,rfl,rfl,?_,ak.1,by rw[←N];exact ak.2,rfl,by rw[N]⟩;rw[Rep];refine⟨_,rfl,?_⟩;rw[aE];refine⟨_,[],rfl,?_,by rw[aE]⟩;have h1:=Ln (r:=C.r) (bu:=C.bu) (bY:=C.bY) (w:=C.w.alloc (.cells #[.map (some oy)] aW)) (e:=aW) (U:=1) (b:=C.w.heap.size) (cap:=1) (cells:= [.bE a]) aA.dw;rw[aA.bZ,←N];exact h1
theorem Ze {r:List Z}{a:Nat}:aO prog 121 [.bE a] r
 (fun v rs=>v= .fn 207 [.bd r.length 1 0 0]∧rs=r++ [.ag 232 1 [[.bE a]]]):=by
 refine aO.rZ fun oy w=> ?_
 go_enter func121,ntmps121
 go_wp2
 go_ret
 exact⟨rfl,rfl⟩
theorem aaZ {r:List Z}{a:Nat}:aO prog 48 [.bE a] r
 (fun v rs=>v= .fn 128 [.bd r.length 1 0 0]∧rs=r++ [.ag 116 1 [[.bE a]]]):=by
 refine aO.rZ fun oy w=> ?_
 go_enter func48,ntmps48
 go_wp2
 go_ret
 exact⟨rfl,rfl⟩
def MD:List (F×F)→Option (List Int)
 | []=>some []
 | (.int .i64 n,_)::l=>match MD l with|some jJ=>some (n::jJ)|none=>none
 |_::_=>none
theorem ME: ∀ {l:List (F×F)} {jJ:List Int},MD l=some jJ→l.map (·.1)=jJ.map (F.int .i64 ·)
 | [],jJ,h=>by cases h;rfl
 |p::l,jJ,h=>by
  unfold MD at h;split at h
  ·cases ‹_::_= []›
  ·rename_i n v cb nx;cases nx;split at h
   ·rename_i lk zo;cases h;rw[List.map_cons,ME zo];rfl
   ·cases h
  ·cases h
def CM (x:Int):List Int→List Int
 | []=> [x]
 |d::i=>if x≤d then x::d::i else d::CM x i
def Iu:List Int→List Int
 | []=> []
 |x::aq=>CM x (Iu aq)
theorem Sz (x:Int): ∀ l:List Int,(CM x l).Perm (x::l)
 | []=>List.Perm.refl _
 |d::i=>by
  rw[CM];split
  ·exact List.Perm.refl _
  ·exact ((Sz x i).cons d).trans (List.Perm.swap x d i)
theorem abK: ∀ l:List Int,(Iu l).Perm l
 | []=>List.Perm.refl _
 |x::aq=>(Sz x (Iu aq)).trans ((abK aq).cons x)
theorem abL (x:Int): ∀ l:List Int,l.Pairwise (·≤ ·)→(CM x l).Pairwise (·≤ ·)
 | [],_=>by simp[CM]
 |d::i,h=>by
  rw[List.pairwise_cons] at h;rw[CM];split
  ·rename_i Fd;rw[List.pairwise_cons,List.pairwise_cons];exact⟨fun M ba=>by rcases List.mem_cons.1 ba with rfl|ba;(·exact Fd);exact Int.le_trans Fd (h.1 M ba),h⟩
  ·rename_i Fd;rw[List.pairwise_cons];refine⟨fun M ba=> ?_,abL x i h.2⟩;rcases List.mem_cons.1 ((Sz x i).mem_iff.1 ba) with rfl|ba
   ·omega
   ·exact h.1 M ba
theorem abM: ∀ l:List Int,(Iu l).Pairwise (·≤ ·)
 | []=>List.Pairwise.nil
 |x::aq=>abL x _ (abM aq)
theorem abk {l cb:List Int}(ak:cb.Perm l)(ao:cb.Pairwise (·≤ ·)):fq l=cb:=by
 have h1: (fq l).Pairwise (·≤ ·):=by
  unfold fq;have:=List.pairwise_mergeSort (le:=fun x d:Int=>decide (x≤d)) (fun a b J h1 G=>by simp only[decide_eq_true_eq] at *;omega) (fun a b=>by simp;omega) l;exact this.imp fun h=>by simpa using h
 have G: (fq l).Perm cb:=by
  unfold fq;exact (List.mergeSort_perm l _).trans ak.symm
 exact G.eq_of_pairwise (fun a b _ _ h1 G=>Int.le_antisymm h1 G) h1 ao
def abN (n:Int):Bool:=(Lit.int .i64 n).wf
def MF:List Int→Bool
 | []=>true
 |x::aq=> !aq.contains x&&MF aq
theorem MG: ∀ {l:List Int},MF l=true→l.Nodup
 | [],_=>List.nodup_nil
 |x::aq,h=>by
  simp only[MF,Bool.and_eq_true,Bool.not_eq_true',List.contains_eq_mem,decide_eq_false_iff_not] at h;exact List.nodup_cons.2 ⟨h.1,MG h.2⟩
def SA (args:List F)(r:List Z):Option (F×List Z):=
 match args with
 | [.fn g [.bd b 1 0 0]]=>
  match r[b]? with
  |some (.ag _ 1 [[.bE a]])=>
   match r[a]? with
   |some (.be (.map false [.int .i64] s))=>
    match MD s with
    |some Y=>if (g=128∨g=168∨g=204)∧MF Y=true∧Y.all abN=true∧Y.length≤1000000 then some (.pure 1 (cJ .i64 (Iu Y)),r) else none
    |none=>none
   |_=>none
  |_=>none
 |_=>none
theorem axT (args:List F)(r:List Z)(v:F)(rs:List Z)(h:SA args r=some (v,rs)):aO prog 47 args r fun gA hs=>gA=v∧hs=rs:=by
 unfold SA at h;split at h
 ·rename_i g b;split at h
  ·rename_i aW a af;split at h
   ·rename_i s aC;split at h
    ·rename_i Y mg;split at h
     ·rename_i ad;simp only[Option.some.injEq,Prod.mk.injEq] at h;obtain⟨rfl,rfl⟩:=h;obtain⟨aw,h1,G,au⟩:=ad;have aP: ∀ x∈Y,(Lit.int .i64 x).wf=true:=fun x aj=>List.all_eq_true.1 G x aj;rw[←abk (abK Y) (abM Y)];rcases aw with rfl|rfl|rfl
      ·exact aba aC af (ME mg) (MG h1) aP au
      ·exact axy aC af (ME mg) (MG h1) aP au
      ·exact YW aC af (ME mg) (MG h1) aP au
     ·cases h
    ·cases h
   ·cases h
  ·cases h
 ·cases h
structure nb where
 n:ByteArray
 m:Int
structure kn where
 t:Int
 k:Int
instance:aJ kn:=⟨fun a=> [.int .i64 a.t,.int .i64 a.k],2,fun _=>rfl,fun _=>rfl,fun _=>rfl⟩
theorem ayP (l:List kn)(hl:l.length≤1000000):aO prog 22 [.pure 2 (ai l),.pure 2 (ai l)] [] (fun v rs=>v= .bool true∧rs= []):=by
 refine cu func22 aca (by simp[a22,IC]) ?_;simp only[go_sem,a22,IC,bT,bne_self_eq_false];refine dN (fun D r=> ∃ c:Nat,c≤l.length∧D= [(0,.pure 2 (ai l)),(1,.pure 2 (ai l)),(5,.int .i64 c)]∧r= [])
  (fun D _=>match bs D 5 with| .int _ j=>(l.length-j).toNat|_=>0) ?_ ?_
 ·exact E.ac ⟨0,by omega,rfl,rfl⟩
 rintro D r ⟨c,av,rfl,rfl⟩;have aP:=dB (c:=c) (by omega)
 by_cases aI:c < l.length
 ·have h1:decide ((c:Int) < l.length)=true:=decide_eq_true (by omega);have z0: (0:Int)≤c:=by omega
  have mn: (c:Int) < l.length:=by omega
  have nM: (ai l).getD c []= [.int .i64 l[c].t,.int .i64 l[c].k]:=cT aI;simp only[go_sem,a22,IC,h1,z0,mn,nM,bT,bne_self_eq_false,beq_self_eq_true,aP];refine E.ac ⟨⟨c+1,by omega,rfl,rfl⟩,?_⟩;simp only[go_sem];omega
 have h1:decide ((c:Int) < l.length)=false:=decide_eq_false (by omega);simp only[go_sem,a22,IC,h1,bT];exact E.bg rfl ⟨rfl,rfl⟩
theorem aO.awN {P:Program}{f:FuncId}{args:List F}{r:List Z}{bh Gx:F→List Z→Prop}(h:aO P f args r bh)(aP: ∀ v rs,bh v rs→ ∃ w,Gx w rs∧ ∀ C x,Rep C v x→Rep C w x):aO P f args r Gx:=by
 intro C dA h1 G hG au;refine (h C dA h1 G hG au).mono ?_;rintro e w' ⟨aZ,x,aB,a,b,J,B,cO,q⟩;obtain⟨w,aV,N⟩:=aP _ _ q;exact⟨aZ,w,aB,a,b,N _ _ J,B,cO,aV⟩
def As:List (yb prog):= [⟨3,a3,⟨_,_,func3,azl⟩⟩,⟨4,a4,⟨_,_,func4,azm⟩⟩,⟨5,a5,⟨_,_,func5,azn⟩⟩,⟨6,MV,⟨_,_,func6,azo⟩⟩,⟨7,Az,⟨_,_,func7,azp⟩⟩,⟨8,Au,⟨_,_,func8,aby⟩⟩,⟨9,a9,⟨_,_,func9,azq⟩⟩,⟨10,uW,⟨_,_,func10,Ls⟩⟩,⟨11,qN,⟨_,_,func11,aaM⟩⟩,⟨12,acl,⟨_,_,func12,azr⟩⟩,⟨13,acm,⟨_,_,func13,azs⟩⟩,⟨14,Fj,⟨_,_,func14,acb⟩⟩,⟨15,acn,⟨_,_,func15,azt⟩⟩,⟨16,Lt,⟨_,_,func16,Ye⟩⟩,⟨17,IA,⟨_,_,func17,abV⟩⟩,⟨18,EM,⟨_,_,func18,YG⟩⟩,⟨19,aco,⟨_,_,func19,azu⟩⟩,⟨20,Fo,⟨_,_,func20,acp⟩⟩,⟨21,acr,⟨_,_,func21,azv⟩⟩,⟨22,a22,⟨_,_,func22,aca⟩⟩,⟨23,a23,⟨_,_,func23,acs⟩⟩,⟨24,a24,⟨_,_,func24,YD⟩⟩,⟨25,a25,⟨_,_,func25,azw⟩⟩,⟨26,a26,⟨_,_,func26,azx⟩⟩,⟨27,a27,⟨_,_,func27,azy⟩⟩,⟨28,a28,⟨_,_,func28,azz⟩⟩,⟨29,acu,⟨_,_,func29,azA⟩⟩,⟨30,acv,⟨_,_,func30,azB⟩⟩,⟨31,a31,⟨_,_,func31,azC⟩⟩,⟨32,MW,⟨_,_,func32,acx⟩⟩,⟨33,a33,⟨_,_,func33,acy⟩⟩,⟨34,wJ,⟨_,_,func34,acz⟩⟩,⟨35,acA,⟨_,_,func35,azD⟩⟩,⟨36,acB,⟨_,_,func36,azE⟩⟩,⟨37,acC,⟨_,_,func37,azF⟩⟩,⟨38,acD,⟨_,_,func38,azG⟩⟩,⟨39,a39,⟨_,_,func39,azH⟩⟩,⟨40,LL,⟨_,_,func40,Y1⟩⟩,⟨41,AA,⟨_,_,func41,acE⟩⟩,⟨42,pn,⟨_,_,func42,acF⟩⟩,⟨43,qI,⟨_,_,func43,ZW⟩⟩,⟨44,Fh,⟨_,_,func44,abT⟩⟩,⟨45,a45,⟨_,_,func45,Zc⟩⟩,⟨46,a46,⟨_,_,func46,Zu⟩⟩,⟨47,acG,⟨_,_,func47,azI⟩⟩,⟨48,acH,⟨_,_,func48,azJ⟩⟩,⟨49,acI,⟨_,_,func49,azK⟩⟩,⟨50,a50,⟨_,_,func50,azL⟩⟩,⟨51,a51,⟨_,_,func51,azM⟩⟩,⟨52,acJ,⟨_,_,func52,azN⟩⟩,⟨53,a53,⟨_,_,func53,azO⟩⟩,⟨54,acK,⟨_,_,func54,azP⟩⟩,⟨55,a55,⟨_,_,func55,azQ⟩⟩,⟨56,Fi,⟨_,_,func56,abZ⟩⟩,⟨57,MX,⟨_,_,func57,acL⟩⟩,⟨58,EG,⟨_,_,func58,Yp⟩⟩,⟨59,zP,⟨_,_,func59,Lv⟩⟩,⟨60,yA,⟨_,_,func60,acM⟩⟩,⟨61,AB,⟨_,_,func61,acN⟩⟩,⟨62,AC,⟨_,_,func62,acO⟩⟩,⟨63,CP,⟨_,_,func63,acP⟩⟩,⟨64,uX,⟨_,_,func64,Lu⟩⟩,⟨65,acQ,⟨_,_,func65,azR⟩⟩,⟨66,a66,⟨_,_,func66,YO⟩⟩,⟨67,AD,⟨_,_,func67,acR⟩⟩,⟨68,yB,⟨_,_,func68,acS⟩⟩,⟨69,E3,⟨_,_,func69,ZT⟩⟩,⟨70,a70,⟨_,_,func70,Zs⟩⟩,⟨71,my,⟨_,_,func71,ack⟩⟩,⟨72,acT,⟨_,_,func72,azS⟩⟩,⟨73,MQ,⟨_,_,func73,ach⟩⟩,⟨74,Mj,⟨_,_,func74,aab⟩⟩,⟨75,acU,⟨_,_,func75,azT⟩⟩,⟨76,a76,⟨_,_,func76,azU⟩⟩,⟨77,a77,⟨_,_,func77,azV⟩⟩,⟨78,acV,⟨_,_,func78,azW⟩⟩,⟨79,acW,⟨_,_,func79,azX⟩⟩,⟨80,acX,⟨_,_,func80,azY⟩⟩,⟨81,acY,⟨_,_,func81,azZ⟩⟩,⟨82,acZ,⟨_,_,func82,aAa⟩⟩,⟨83,ada,⟨_,_,func83,aAb⟩⟩,⟨84,adb,⟨_,_,func84,aAc⟩⟩,⟨85,adc,⟨_,_,func85,aAd⟩⟩,⟨86,ade,⟨_,_,func86,aAe⟩⟩,⟨87,adf,⟨_,_,func87,aAf⟩⟩,⟨88,adg,⟨_,_,func88,aAg⟩⟩,⟨89,adh,⟨_,_,func89,aAh⟩⟩,⟨90,adi,⟨_,_,func90,aAi⟩⟩,⟨91,adj,⟨_,_,func91,aAj⟩⟩,⟨92,Fp,⟨_,_,func92,adk⟩⟩,⟨93,MY,⟨_,_,func93,adl⟩⟩,⟨94,ua,⟨_,_,func94,SX⟩⟩,⟨95,IE,⟨_,_,func95,adm⟩⟩,⟨96,AE,⟨_,_,func96,adn⟩⟩,⟨97,wK,⟨_,_,func97,ado⟩⟩,⟨98,adp,⟨_,_,func98,aAk⟩⟩,⟨99,adq,⟨_,_,func99,aAl⟩⟩,⟨100,adr,⟨_,_,func100,aAm⟩⟩,⟨101,ads,⟨_,_,func101,aAn⟩⟩,⟨102,adt,⟨_,_,func102,aAo⟩⟩,⟨103,adu,⟨_,_,func103,aAp⟩⟩,⟨104,adv,⟨_,_,func104,aAq⟩⟩,⟨105,adw,⟨_,_,func105,aAr⟩⟩,⟨106,adx,⟨_,_,func106,aAs⟩⟩,⟨107,ady,⟨_,_,func107,aAt⟩⟩,⟨108,adz,⟨_,_,func108,aAu⟩⟩,⟨109,MZ,⟨_,_,func109,adA⟩⟩,⟨110,ub,⟨_,_,func110,adB⟩⟩,⟨111,M0,⟨_,_,func111,adC⟩⟩,⟨112,M1,⟨_,_,func112,adD⟩⟩,⟨113,CQ,⟨_,_,func113,adE⟩⟩,⟨114,yC,⟨_,_,func114,adF⟩⟩,⟨115,ip,⟨_,_,func115,SK⟩⟩,⟨116,adG,⟨_,_,func116,aAv⟩⟩,⟨117,Fq,⟨_,_,func117,adH⟩⟩,⟨118,Cp,⟨_,_,func118,Zn⟩⟩,⟨119,yi,⟨_,_,func119,YY⟩⟩,⟨120,MP,⟨_,_,func120,acg⟩⟩,⟨121,adI,⟨_,_,func121,aAw⟩⟩,⟨122,Mo,⟨_,_,func122,aag⟩⟩,⟨123,CE,⟨_,_,func123,aaf⟩⟩,⟨124,Ml,⟨_,_,func124,aae⟩⟩,⟨125,EK,⟨_,_,func125,YB⟩⟩,⟨126,adJ,⟨_,_,func126,aAx⟩⟩,⟨127,adK,⟨_,_,func127,aAy⟩⟩,⟨129,adL,⟨_,_,func129,aAz⟩⟩,⟨130,adM,⟨_,_,func130,aAA⟩⟩,⟨131,a131,⟨_,_,func131,aAB⟩⟩,⟨132,adN,⟨_,_,func132,aAC⟩⟩,⟨133,adO,⟨_,_,func133,aAD⟩⟩,⟨134,adP,⟨_,_,func134,aAE⟩⟩,⟨135,adQ,⟨_,_,func135,aAF⟩⟩,⟨136,adR,⟨_,_,func136,aAG⟩⟩,⟨137,adS,⟨_,_,func137,aAH⟩⟩,⟨138,adT,⟨_,_,func138,aAI⟩⟩,⟨139,adU,⟨_,_,func139,aAJ⟩⟩,⟨140,adV,⟨_,_,func140,aAK⟩⟩,⟨141,EE,⟨_,_,func141,Yh⟩⟩,⟨142,wL,⟨_,_,func142,adW⟩⟩,⟨143,EP,⟨_,_,func143,YJ⟩⟩,⟨144,M2,⟨_,_,func144,adX⟩⟩,⟨145,Fr,⟨_,_,func145,adY⟩⟩,⟨146,adZ,⟨_,_,func146,aAL⟩⟩,⟨147,M3,⟨_,_,func147,aea⟩⟩,⟨148,M4,⟨_,_,func148,aeb⟩⟩,⟨149,wM,⟨_,_,func149,aec⟩⟩,⟨150,M5,⟨_,_,func150,aed⟩⟩,⟨151,M6,⟨_,_,func151,aee⟩⟩,⟨152,sH,⟨_,_,func152,aef⟩⟩,⟨153,EQ,⟨_,_,func153,YQ⟩⟩,⟨154,Mf,⟨_,_,func154,Z7⟩⟩,⟨155,zU,⟨_,_,func155,YI⟩⟩,⟨156,EZ,⟨_,_,func156,Rb⟩⟩,⟨157,aeg,⟨_,_,func157,aAM⟩⟩,⟨158,aeh,⟨_,_,func158,aAN⟩⟩,⟨159,Mi,⟨_,_,func159,aaa⟩⟩,⟨160,aei,⟨_,_,func160,aAO⟩⟩,⟨161,aej,⟨_,_,func161,aAP⟩⟩,⟨162,aek,⟨_,_,func162,aAQ⟩⟩,⟨163,ael,⟨_,_,func163,aAR⟩⟩,⟨164,aem,⟨_,_,func164,aAS⟩⟩,⟨165,aen,⟨_,_,func165,aAT⟩⟩,⟨166,aeo,⟨_,_,func166,aAU⟩⟩,⟨167,aep,⟨_,_,func167,aAV⟩⟩,⟨169,aeq,⟨_,_,func169,aAW⟩⟩,⟨170,aer,⟨_,_,func170,aAX⟩⟩,⟨171,aes,⟨_,_,func171,aAY⟩⟩,⟨172,aet,⟨_,_,func172,aAZ⟩⟩,⟨173,aeu,⟨_,_,func173,aA0⟩⟩,⟨174,aev,⟨_,_,func174,aA1⟩⟩,⟨175,aew,⟨_,_,func175,aA2⟩⟩,⟨176,aex,⟨_,_,func176,aA3⟩⟩,⟨177,wN,⟨_,_,func177,aey⟩⟩,⟨178,aez,⟨_,_,func178,aA4⟩⟩,⟨179,M7,⟨_,_,func179,aeA⟩⟩,⟨180,vn,⟨_,_,func180,aeB⟩⟩,⟨181,AF,⟨_,_,func181,SY⟩⟩,⟨182,a182,⟨_,_,func182,aeC⟩⟩,⟨183,a183,⟨_,_,func183,aA5⟩⟩,⟨184,aeD,⟨_,_,func184,aA6⟩⟩,⟨185,aeE,⟨_,_,func185,aA7⟩⟩,⟨186,aeF,⟨_,_,func186,aA8⟩⟩,⟨187,aeG,⟨_,_,func187,aA9⟩⟩,⟨188,aeH,⟨_,_,func188,aBa⟩⟩,⟨190,CR,⟨_,_,func190,aeI⟩⟩,⟨191,Fs,⟨_,_,func191,aeJ⟩⟩,⟨192,AG,⟨_,_,func192,aeK⟩⟩,⟨193,Ft,⟨_,_,func193,aeL⟩⟩,⟨194,IF,⟨_,_,func194,aeM⟩⟩,⟨195,aeN,⟨_,_,func195,aBb⟩⟩,⟨196,M8,⟨_,_,func196,aeO⟩⟩,⟨197,Fu,⟨_,_,func197,aeP⟩⟩,⟨198,yD,⟨_,_,func198,aeQ⟩⟩,⟨199,pX,⟨_,_,func199,aeR⟩⟩,⟨200,M9,⟨_,_,func200,aeS⟩⟩,⟨201,Ff,⟨_,_,func201,SJ⟩⟩,⟨202,IG,⟨_,_,func202,aeT⟩⟩,⟨203,pY,⟨_,_,func203,aeU⟩⟩,⟨205,aeV,⟨_,_,func205,aBc⟩⟩,⟨206,aeW,⟨_,_,func206,aBd⟩⟩,⟨208,Mk,⟨_,_,func208,aad⟩⟩,⟨209,EI,⟨_,_,func209,Yt⟩⟩,⟨211,aeX,⟨_,_,func211,aBe⟩⟩,⟨212,aeY,⟨_,_,func212,aBf⟩⟩,⟨213,aeZ,⟨_,_,func213,aBg⟩⟩,⟨214,afa,⟨_,_,func214,aBh⟩⟩,⟨215,afb,⟨_,_,func215,aBi⟩⟩,⟨216,afc,⟨_,_,func216,aBj⟩⟩,⟨217,afd,⟨_,_,func217,aBk⟩⟩,⟨218,a218,⟨_,_,func218,aBl⟩⟩,⟨219,afe,⟨_,_,func219,aBm⟩⟩,⟨220,Hk,⟨_,_,func220,Yg⟩⟩,⟨221,aff,⟨_,_,func221,aBn⟩⟩,⟨222,a222,⟨_,_,func222,afg⟩⟩,⟨223,Fv,⟨_,_,func223,afh⟩⟩,⟨224,IH,⟨_,_,func224,afi⟩⟩,⟨225,II,⟨_,_,func225,afj⟩⟩,⟨226,LB,⟨_,_,func226,Yz⟩⟩,⟨227,IJ,⟨_,_,func227,afk⟩⟩,⟨228,a228,⟨_,_,func228,afl⟩⟩,⟨229,a229,⟨_,_,func229,afm⟩⟩,⟨230,yE,⟨_,_,func230,afn⟩⟩,⟨231,qP,⟨_,_,func231,afo⟩⟩,⟨232,Fw,⟨_,_,func232,afp⟩⟩,⟨233,afq,⟨_,_,func233,aBo⟩⟩,⟨241,afr,⟨_,_,func241,aBp⟩⟩,⟨242,afs,⟨_,_,func242,aBq⟩⟩,⟨243,aft,⟨_,_,func243,aBr⟩⟩,⟨244,afu,⟨_,_,func244,aBs⟩⟩,⟨245,afv,⟨_,_,func245,aBt⟩⟩,⟨246,afw,⟨_,_,func246,aBu⟩⟩,⟨247,Na,⟨_,_,func247,afx⟩⟩,⟨248,afy,⟨_,_,func248,aBv⟩⟩,⟨249,afz,⟨_,_,func249,aBw⟩⟩,⟨251,afA,⟨_,_,func251,aBx⟩⟩,⟨252,IK,⟨_,_,func252,afB⟩⟩,⟨253,Fx,⟨_,_,func253,afC⟩⟩,⟨254,Nb,⟨_,_,func254,afD⟩⟩,⟨255,afE,⟨_,_,func255,aBy⟩⟩,⟨256,afF,⟨_,_,func256,aBz⟩⟩,⟨257,Nc,⟨_,_,func257,afG⟩⟩,⟨258,AH,⟨_,_,func258,afH⟩⟩,⟨259,Ly,⟨_,_,func259,Yn⟩⟩,⟨260,AI,⟨_,_,func260,afI⟩⟩,⟨262,afJ,⟨_,_,func262,aBA⟩⟩,⟨263,afK,⟨_,_,func263,aBB⟩⟩,⟨269,afL,⟨_,_,func269,aBC⟩⟩,⟨272,afM,⟨_,_,func272,aBD⟩⟩,⟨273,afN,⟨_,_,func273,aBE⟩⟩,⟨274,afO,⟨_,_,func274,aBF⟩⟩,⟨275,afP,⟨_,_,func275,aBG⟩⟩,⟨276,afQ,⟨_,_,func276,aBH⟩⟩,⟨284,EJ,⟨_,_,func284,Yv⟩⟩,⟨285,wO,⟨_,_,func285,afR⟩⟩,⟨286,IL,⟨_,_,func286,afS⟩⟩,⟨287,Fy,⟨_,_,func287,afT⟩⟩,⟨288,Fz,⟨_,_,func288,afU⟩⟩,⟨294,afV,⟨_,_,func294,aBI⟩⟩,⟨295,afW,⟨_,_,func295,aBJ⟩⟩,⟨303,afX,⟨_,_,func303,aBK⟩⟩,⟨309,afY,⟨_,_,func309,aBL⟩⟩,⟨312,Nf,⟨_,_,func312,afZ⟩⟩,⟨313,aga,⟨_,_,func313,aBM⟩⟩,⟨314,agb,⟨_,_,func314,aBN⟩⟩,⟨322,EF,⟨_,_,func322,Yl⟩⟩,⟨323,Ng,⟨_,_,func323,agc⟩⟩,⟨324,IM,⟨_,_,func324,agd⟩⟩,⟨325,age,⟨_,_,func325,aBO⟩⟩,⟨336,agf,⟨_,_,func336,aBP⟩⟩,⟨337,agh,⟨_,_,func337,aBQ⟩⟩,⟨338,agi,⟨_,_,func338,aBR⟩⟩,⟨352,FA,⟨_,_,func352,agj⟩⟩,⟨353,IN,⟨_,_,func353,agk⟩⟩,⟨358,agl,⟨_,_,func358,aBS⟩⟩,⟨359,agm,⟨_,_,func359,aBT⟩⟩,⟨360,agn,⟨_,_,func360,aBU⟩⟩,⟨361,ago,⟨_,_,func361,aBV⟩⟩,⟨366,AJ,⟨_,_,func366,agp⟩⟩,⟨368,lD,⟨_,_,func368,agq⟩⟩,⟨369,FB,⟨_,_,func369,agr⟩⟩,⟨370,Nh,⟨_,_,func370,ags⟩⟩,⟨371,CS,⟨_,_,func371,agt⟩⟩,⟨372,Ni,⟨_,_,func372,agu⟩⟩]
end Go.Proofs.YtpincjkjoeopkaaGreatDoor
