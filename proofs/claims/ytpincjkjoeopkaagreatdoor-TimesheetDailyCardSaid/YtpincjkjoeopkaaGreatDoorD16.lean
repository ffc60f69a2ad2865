/- Time evaluation. -/
import Derived.Test.YtpincjkjoeopkaaGreatDoorD15
import Derived.WalkKit
import Derived.KernelRfl
import Derived.Test.YtpincjkjoeopkaaGreatDoorD8
set_option linter.all false
namespace Go.Proofs.YtpincjkjoeopkaaGreatDoor
open Go Go.Abs Go.Maps Go.Proofs.Tryz
open Go.RowKit Go.Sort Go.Shelf
set_option maxRecDepth 100000
set_option maxHeartbeats 1000000 in
theorem avs {H:Type}(bm:Fence)(n:Nat)(Rk:bm.fn 207)(mr:bm.round=none)(aH:1≤n)(l Bm b Ac:Nat)(ls:DataW H){aF:Value→Option (DataW H×List MemPlace)}(hY:List Value→World→Prop)
 (yp: ∀ pre x W,hY pre W→pre.length < Maps.size ls→(∃ kl,keyOf prog 235 x=some kl)→YieldAt bm (n-1) prog l #[x] W fun e W'=>e= .returned (.bool true)∧hY (pre++ [x]) W'∧KeepsWalks W W')
 (W:World) (ju:AbidesFrom W.heap.size hY) (hm:W.cell? ⟨Bm,0,none⟩=some (.map (some b))) (pK:W.ownsMap prog 235 aF b Ac ls) (h0:hY [] W):
 CallsIn bm n prog 207 #[.func (.yield l) #[] #[],.pointer (some ⟨Bm,0,none⟩)] W fun e W'=>(∃ v,e= .returned v)∧ ∃ bV:List Value,yc prog 235 ls (fun _=>false) bV∧hY bV W':=by
 have mixed:prog.follows .mixedOrders=true:=by kernel_rfl
 have t0:=underlying0;have a0:=isAgg0;have z0:=sizeOf0;have v0:=zeroValue0;have t4:=underlying4;have a4:=isAgg4;have z4:=sizeOf4;have v4:=zeroValue4;have t23:=underlying232;have a23:=isAgg232;have z23:=sizeOf232;have v23:=zeroValue232;have t24:=underlying236;have a24:=isAgg236;have z24:=sizeOf236;have v24:=zeroValue236;have t28:=underlying239;have a28:=isAgg239;have z28:=sizeOf239;have v28:=zeroValue239;have t33:=underlying322;have a33:=isAgg322;have z33:=sizeOf322;have v33:=zeroValue322;have t26:=underlying235;have a26:=isAgg235;have z26:=sizeOf235;have v26:=zeroValue235;have HR:=run_underlying t0;have Bp:=run_underlying t4;have Rl:=run_underlying t23;have Rm:=run_underlying t33;have Rn:=run_underlying t24;have Ro:=run_underlying t28;have Rp:=run_underlying t26;have K:=Rq;refine callsIn_of_wp func207 rfl Rk ?_ mr;simp only[ntmps207,List.size_toArray,List.length_cons,List.length_nil,Nat.reduceAdd,Nat.reduceSub,Array.replicate_succ,Array.replicate_zero,List.push_toArray,List.append_toArray,List.nil_append,List.cons_append]
 gi_wp2_with (first
  | (gi_at_range;refine wpListIn_range_own _ rfl _ 232 rfl 235 3 K t23 _ b Ac _ rfl pK ?_;intro je avt wm oK)
  |gi_in)
 go_frame
 gi_loopw [3] (fun _ wr=> ∃ (left:Lit→Bool) (HS:Nat) (bV:List Value),wr.ranges prog 235 aF b W.heap.size Ac ls left HS∧bV.length+HS≤Maps.size ls∧yc prog 235 ls left bV∧hY bV wr)
  (fun _ wr=>wr.rangeLeft b W.heap.size)
 case atStart=>
  exact⟨_,_,[],avt,by simp,yc.asL _ ls,ju [] W je none h0 wm (fun z e=>by cases e)⟩
 case round=>
  obtain⟨left,HS,bV,Ad,eK,lI,Zw⟩:=hrel
  gi_wp2_with (first
   | (gi_at_next;refine wpListIn_next_ranges _ rfl _ rfl 235 K aF (fun v:Value=>v) id (fun key kl O=>⟨key,rfl⟩) (fun v _ _=>⟨v,rfl⟩) b W.heap.size Ac _ _ _ rfl Ad ?_ ?_)
   |gi_in)
  ·
   intro Bg oY
   gi_wp2
   go_end0
   exact⟨⟨_,rfl⟩,bV,by rw[show left=fun _=>false from funext oY] at lI;exact lI,Zw⟩
  ·
   intro x J kl aJE aJF jH avu Rr hw an Qi avv aI ct vX aJG;obtain⟨B,lq,rfl,_⟩:=Rs x kl Rr;have Rt:hY bV jH:=ju bV wr jH (some W.heap.size) Zw ct (fun z e=>by cases e;exact⟨Nat.le_refl _,Ad.iter_walk⟩);have avw:hY bV (jH.alloc (.cells #[.int .i64 B,.string lq] 235)):=ju bV jH _ none Rt (World.grownBy_alloc jH _ none) (fun z e=>by cases e);obtain⟨fn,tmps,assign,body,bt,dc⟩:=yp bV _ _ avw (by omega) ⟨kl,Rr⟩;clear vX
   gi_wp2
   refine dc.mono ?_;rintro e tH ⟨rfl,avx,wD⟩
   gi_wp2
   have Zx:=avv.of_walks ((KeepsWalks.alloc _ _).trans wD)
   go_roundw
   case rel=>exact⟨_,avu,bV++ [_],Zx,by simp;omega,lI.oc K Rr hw Qi,avx⟩
   case measure=>rw[Zx.left_eq,Ad.left_eq];exact aI
theorem avy {H:Type}(bm:Fence)(n:Nat)(Rk:bm.fn 207)(mr:bm.round=none)(aH:1≤n)(Bm b Ac:Nat)(ls:DataW H){aF:Value→Option (DataW H×List MemPlace)}(w:World)(avz:Bm < w.heap.size)
 (hm:w.cell? ⟨Bm,0,none⟩=some (.map (some b))) (pK:w.ownsMap prog 235 aF b Ac ls):
 Qj prog 235 bm n 207 #[.pointer (some ⟨Bm,0,none⟩)] (fun bV=>yc prog 235 ls (fun _=>false) bV) (Maps.size ls) w:=fun l hY W hW ju yp h0=>by
 have HT:W.ownsMap prog 235 aF b Ac ls:=by
  have nK:=pK.lt;obtain⟨ar,OA,hb,avA,ao,fC⟩:=pK;exact⟨ar,OA,(hW.block b nK).trans hb,avA,ao,fC⟩
 exact avs bm n Rk mr aH l Bm b Ac ls hY yp W ju ((hW.cell (p:=⟨Bm,0,none⟩) avz).trans hm) HT h0
def Zy:Option Code→Code×Code
 |some (.seq _ (.seq (.seq _ (.block _ (.rangeFunc _ _ a b))) _))=>(a,b)
 |_=>(.skip,.skip)
def Ru: {J:Code // (Zy f261.body).1=J}:=⟨_,by conv=>lhs;whnf⟩
def Rv: {J:Code // (Zy f261.body).2=J}:=⟨_,by conv=>lhs;whnf⟩
def tJ (fn:FuncId)(pc:Value)(Bs aD:Nat)(bw:LoopState)(avB:Option Code):Loop:=
 {state:=bw,pending:=avB,fn,tmps:= #[.slice none 0 0,pc,.pointer (some ⟨Bs,0,none⟩),undef,.slice none 0 0,undef,pc,undef,undef,undef,undef,undef,undef],params:= #[7],assign:=Ru.1,body:=Rv.1,defers:=aD}
theorem avC: (prog.info? 235).map (fun c=>(c.zero,c.size,c.bytes))=some (some (.agg #[.int .i64 0,.string ⟨#[]⟩]),2,24):=by kernel_rfl
structure Cq (je:World) (fn:FuncId) (pc:Value) (Bs l aD:Nat) (bV:List Value) (W:World):Prop where
 box: ∃ v,W.heap[Bs]? =some (.cells #[v] 236 (0,0))∧W.ownsRow je.heap.size 235 2 v bV.length (uT bV)∧(v= .slice none 0 0↔bV= [])
 aY:W.heap[l]? =some (.loop (tJ fn pc Bs aD .ready none))
 K:W.heap[aD]? =some (.deferred (some []))
 below:Below je.heap.size je W
theorem Cq.avD (je:World)(fn:FuncId)(pc:Value)(Bs l aD di:Nat)(cU:je.heap.size≤di):AbidesFrom di (Cq je fn pc Bs l aD):=fun I W W' bG h aw hrow=>by
 have LY: ∀ z,bG=some z→ ∃ V:Obj,W.heap[z]? =some V∧V.isWalk=true:=fun z e=>(hrow z e).2;obtain⟨v,an,N,aH⟩:=h.box;exact⟨⟨v,(grownBy_keeps aw LY an rfl).trans an,ownsRow_abides_a N aw LY,aH⟩,(grownBy_keeps aw LY h.aY rfl).trans h.aY,(grownBy_keeps aw LY h.K rfl).trans h.K,
  h.below.grown aw h.below.size (fun k e=>Nat.le_trans cU (hrow k e).1)⟩
set_option maxHeartbeats 2000000 in
theorem avE (bm:Fence)(m:Nat)(je:World)(fn:FuncId)(hfn:bm.fn fn)(pc:Value)(Bs l aD:Nat)(HU:Bs≠l)(Zz:aD≠l)(avF:aD≠Bs)(avG:je.heap.size≤Bs)(ZA:je.heap.size≤l)
 (cs:Nat) (fS:cs≤maxLen) (HV:cs*24≤140737488355328) (bV:List Value) (x:Value) (avH: ∃ kl,keyOf prog 235 x=some kl) (W:World) (h:Cq je fn pc Bs l aD bV W) (cK:bV.length < cs):
 YieldAt bm m prog l #[x] W fun e W'=>e= .returned (.bool true)∧Cq je fn pc Bs l aD (bV++ [x]) W'∧KeepsWalks W W':=by
 have mixed:prog.follows .mixedOrders=true:=by kernel_rfl
 have t0:=underlying0;have a0:=isAgg0;have z0:=sizeOf0;have v0:=zeroValue0;have t4:=underlying4;have a4:=isAgg4;have z4:=sizeOf4;have v4:=zeroValue4;have t23:=underlying232;have a23:=isAgg232;have z23:=sizeOf232;have v23:=zeroValue232;have t24:=underlying236;have a24:=isAgg236;have z24:=sizeOf236;have v24:=zeroValue236;have t28:=underlying239;have a28:=isAgg239;have z28:=sizeOf239;have v28:=zeroValue239;have t33:=underlying322;have a33:=isAgg322;have z33:=sizeOf322;have v33:=zeroValue322;have t26:=underlying235;have a26:=isAgg235;have z26:=sizeOf235;have v26:=zeroValue235;have HR:=run_underlying t0;have Bp:=run_underlying t4;have Rl:=run_underlying t23;have Rm:=run_underlying t33;have Rn:=run_underlying t24;have Ro:=run_underlying t28;have Rp:=run_underlying t26;have hne:236≠235:=by decide
 obtain⟨Rw,av,jD,Yw,th⟩:=info_parts avC;obtain⟨kl,gO⟩:=avH;obtain⟨B,lq,rfl,_⟩:=Rs x kl gO;obtain⟨v,an,hrow,_⟩:=h.box;refine⟨fn,#[.slice none 0 0,pc,.pointer (some ⟨Bs,0,none⟩),undef,.slice none 0 0,undef,pc,.agg #[.int .i64 B,.string lq],undef,undef,undef,undef,undef],Ru.1,Rv.1,by simpa[tJ] using run_yield (P:=prog) (args:= #[.agg #[.int .i64 B,.string lq]]) h.aY rfl,roundIn_of_wpIn hfn ?_⟩;have hl:l < W.heap.size:=(Array.getElem?_eq_some_iff.1 h.aY).1;have avI:Bs < W.heap.size:=(Array.getElem?_eq_some_iff.1 an).1;have avJ:aD < W.heap.size:=(Array.getElem?_eq_some_iff.1 h.K).1;obtain⟨hx,tK⟩: ∃ hx,W.alloc (.cells #[.int .i64 B,.string lq] 235)=hx:=⟨_,rfl⟩;have mQ: ∀ k,k < W.heap.size→hx.heap[k]? =W.heap[k]? :=fun k O=>by rw[←tK];exact Below.heap_alloc _ _ k O
 have wB:hx.heap[l]? =some (.loop (tJ fn pc Bs aD .ready none)):=(mQ l hl).trans h.aY;have nD:hx.heap[Bs]? =some (.cells #[v] 236 (0,0)):=(mQ Bs avI).trans an;have sz:hx.heap[aD]? =some (.deferred (some [])):=(mQ aD avJ).trans h.K;have QO:hx.heap[W.heap.size]? =some (.cells #[.int .i64 B,.string lq] 235 (0,0)):=by rw[←tK];exact World.alloc_heap_new W _
 have ZB:hx.ownsRow je.heap.size 235 2 v bV.length (uT bV):=by rw[←tK];exact hrow.alloc _
 have ZC:Below je.heap.size je hx:=by rw[←tK];exact h.below.alloc h.below.size _
 have LZ:KeepsWalks W hx:=by rw[←tK];exact KeepsWalks.alloc _ _
 have pP:=run_beginRound (P:=prog) wB rfl;obtain⟨gg,yq⟩: ∃ gg,hx.putObj l (.loop {tJ fn pc Bs aD .ready none with state:= .busy})=gg:=⟨_,rfl⟩;rw[yq] at pP;have ct:hx.grownBy gg (some l):=by rw[←yq];exact grownBy_putObj_a _ _ _
 have sf:KeepsWalks W gg:=LZ.trans (by rw[←yq];exact KeepsWalks.putObj _ wB rfl);have gl:gg.heap[Bs]? =some (.cells #[v] 236 (0,0)):=by rw[←yq];exact (World.putObj_heap_other HU).trans nD
 have rC:gg.heap[aD]? =some (.deferred (some [])):=by rw[←yq];exact (World.putObj_heap_other Zz).trans sz
 have HG:gg.heap[l]? =some (.loop {tJ fn pc Bs aD .ready none with state:= .busy}):=by rw[←yq];exact World.putObj_heap_same (Array.getElem?_eq_some_iff.1 wB).1
 have Rx:gg.heap[W.heap.size]? =some (.cells #[.int .i64 B,.string lq] 235 (0,0)):=by rw[←yq];exact (World.putObj_heap_other (by omega)).trans QO
 have aJH:gg.cell? ⟨W.heap.size,0,none⟩=some (.int .i64 B):=by simp[World.cell?,Rx]
 have aJI:gg.cell? ⟨W.heap.size,1,none⟩=some (.string lq):=by simp[World.cell?,Rx]
 have L0:gg.ownsRow je.heap.size 235 2 v bV.length (uT bV):=ZB.kept ct (ownsRow_ne_a ZB wB (fun oZ e=>by first|cases e|exact hne (Obj.cells.inj e).2.1));have rX:Below je.heap.size je gg:=ZC.grown ct ZC.size (fun k e=>by cases e;exact ZA);obtain⟨WK,Ae⟩:=cell_of_box_a gl;have avK:Bs < gg.heap.size:=(Array.getElem?_eq_some_iff.1 gl).1;have lp:l < gg.heap.size:=(Array.getElem?_eq_some_iff.1 HG).1;have avL:aD < gg.heap.size:=(Array.getElem?_eq_some_iff.1 rC).1;have Ry: ∀ {j:Nat} {V:Obj},gg.heap[j]? =some V→(∀ oZ,V≠ .cells oZ 235 (0,0))→some j≠v.ownBlock:=fun aX kx=>by
  rcases ownsRow_ne_a L0 aX kx with e|e
  ·rw[e];simp
  ·exact fun cO=>e cO.symm
 clear yq;simp only[Ru]
 gi_wp2_with gi_round_op_a
 simp only[Rv]
 gi_wp2_with (first
  | (gi_at_builtin;refine wpListIn_append_own _ rfl _ _ 236 rfl je.heap.size 235 Rw (.agg #[.int .i64 0,.string ⟨#[]⟩]) 2 24 t24 av jD Yw th rfl (by decide) _ _ _ rfl (L0.alloc _) ⟨gg.heap.size,0,none⟩ 1 1 [.int .i64 B,.string lq] rfl rfl (asO _ _ _ _) (by intro u bc;simp only[fR] at bc;rcases bc with rfl|rfl<;>rfl) (by omega) (Nat.le_trans (Nat.mul_le_mul_right _ (by omega)) HV) (by have:=rX.size;simp;omega) ?_;intro gA pI HT fH hnil3;have E1:pI.heap[Bs]? =some (.cells #[v] 236 (0,0)):=(fH.block Bs (by simp;omega) (Ry gl (fun oZ e=>by first|cases e|exact hne (Obj.cells.inj e).2.1))).trans ((Below.heap_alloc _ _ Bs avK).trans gl);obtain⟨avM,avN⟩:=cell_of_box_a E1;obtain⟨zX,ha,L1,rfl,aJJ,aJK,jS,HW,L2,L3⟩: ∃ zX ha L1,gA= .slice (some ⟨zX,0,none⟩) (bV.length+1) ha∧je.heap.size≤zX∧pI.heap[zX]? =some (.cells L1 235 (0,0))∧bV.length+1≤ha∧ha≤maxLen∧L1.size=ha*2∧L1.toList.take ((bV.length+1)*2)=uT bV++ [.int .i64 B,.string lq]:=HT.2.elim (fun h=>absurd h.2 (by omega)) fun cR=>cR;go_frame)
  |gi_round_op_a)
 have L4: (gg.alloc (.cells #[.int .i64 B,.string lq] 235)).grownBy pI v.ownBlock:=fH;have ZD:pI.heap[l]? =some (.loop {tJ fn pc Bs aD .ready none with state:= .busy}):=(L4.block l (by simp;omega) (Ry HG (fun oZ e=>by first|cases e|exact hne (Obj.cells.inj e).2.1))).trans ((Below.heap_alloc _ _ l lp).trans HG);have HX:pI.heap[aD]? =some (.deferred (some [])):=(L4.block aD (by simp;omega) (Ry rC (fun oZ e=>by first|cases e|exact hne (Obj.cells.inj e).2.1))).trans ((Below.heap_alloc _ _ aD avL).trans rC);obtain⟨nB,Cr⟩: ∃ nB,pI.setCell ⟨Bs,0,none⟩ (.slice (some ⟨zX,0,none⟩) (bV.length+1) ha)=nB:=⟨_,rfl⟩;rw[Cr];have pd:pI.grownBy nB (some Bs):=by rw[←Cr];exact grownBy_setCell0_a _ _ _
 have avO:nB.heap[Bs]? =some (.cells #[.slice (some ⟨zX,0,none⟩) (bV.length+1) ha] 236 (0,0)):=by rw[←Cr];exact heap_setCell_box_a _ E1
 have L5:nB.heap[l]? =some (.loop {tJ fn pc Bs aD .ready none with state:= .busy}):=(pd.block l (Array.getElem?_eq_some_iff.1 ZD).1 (fun e=>HU (by cases e;rfl))).trans ZD;have avP:nB.heap[aD]? =some (.deferred (some [])):=(pd.block aD (Array.getElem?_eq_some_iff.1 HX).1 (fun e=>avF (by cases e;rfl))).trans HX;have ZE:=HT.kept pd (ownsRow_ne_a HT E1 (fun oZ e=>by first|cases e|exact hne (Obj.cells.inj e).2.1));have ZF:l < nB.heap.size:=(Array.getElem?_eq_some_iff.1 L5).1;have EU:Below je.heap.size je pI:=(rX.alloc rX.size _).grown L4 (by have:=rX.size;simp;omega) (fun k e=>(L0.lt k e).1);have ZG:Below je.heap.size je nB:=EU.grown pd EU.size (fun k e=>by cases e;exact avG);have Rz:KeepsWalks W nB:=((sf.trans (KeepsWalks.alloc _ _)).trans (KeepsWalks.of_grownBy L4 (ownsRow_not_walk_a (L0.alloc _)))).trans (by rw[←Cr];exact KeepsWalks.setCell _ _ _);clear Cr;refine⟨_,_,run_endRound none L5,rfl,⟨⟨_,(World.putObj_heap_other HU).trans avO,?_,by simp⟩,World.putObj_heap_same ZF,(World.putObj_heap_other Zz).trans avP,ZG.grown (grownBy_putObj_a _ _ _) ZG.size (fun k e=>by cases e;exact ZA)⟩,Rz.trans (KeepsWalks.putObj _ L5 rfl)⟩;have:=ZE.kept (grownBy_putObj_a nB l (.loop {{tJ fn pc Bs aD .ready none with state:= .busy} with state:=if (none:Option Code).isNone then .ready else .done,pending:=none})) (ownsRow_ne_a ZE L5 (fun oZ e=>by first|cases e|exact hne (Obj.cells.inj e).2.1));rw[show uT (bV++ [Value.agg #[.int .i64 B,.string lq]])=uT bV++ [.int .i64 B,.string lq] from by simp[uT,Value.cells],List.length_append];simpa using this
set_option maxHeartbeats 2000000 in
theorem awm (bm:Fence)(n:Nat)(RV:bm.fn 261)(mr:bm.round=none)(aH:2≤n)(g:Nat)(qy:Array Value)(RW:bm.fn g)(B1: ∀ args w,(callFunc g args).run prog w= .ok (.enter g args) w)
 (S:List Value→Prop) (cs:Nat) (fS:cs≤maxLen) (HV:cs*24≤140737488355328) (w:World) (vf:Qj prog 235 bm (n-1) g qy S cs w):
 CallsIn bm n prog 261 #[.slice none 0 0,.func (.func g) #[] qy] w fun e w'=> ∃ (v:Value) (bV:List Value),e= .returned v∧S bV∧w'.ownsRow w.heap.size 235 2 v bV.length (uT bV)∧(v= .slice none 0 0↔bV= [])∧Below w.heap.size w w':=by
 have h1:1≤n:=by omega
 have mixed:prog.follows .mixedOrders=true:=by kernel_rfl
 have t0:=underlying0;have a0:=isAgg0;have z0:=sizeOf0;have v0:=zeroValue0;have t4:=underlying4;have a4:=isAgg4;have z4:=sizeOf4;have v4:=zeroValue4;have t23:=underlying232;have a23:=isAgg232;have z23:=sizeOf232;have v23:=zeroValue232;have t24:=underlying236;have a24:=isAgg236;have z24:=sizeOf236;have v24:=zeroValue236;have t28:=underlying239;have a28:=isAgg239;have z28:=sizeOf239;have v28:=zeroValue239;have t33:=underlying322;have a33:=isAgg322;have z33:=sizeOf322;have v33:=zeroValue322;have t26:=underlying235;have a26:=isAgg235;have z26:=sizeOf235;have v26:=zeroValue235;have HR:=run_underlying t0;have Bp:=run_underlying t4;have Rl:=run_underlying t23;have Rm:=run_underlying t33;have Rn:=run_underlying t24;have Ro:=run_underlying t28;have Rp:=run_underlying t26;refine callsIn_of_wp_marks func261 rfl RV ?_ mr;simp only[ntmps261,List.size_toArray,List.length_cons,List.length_nil,Nat.reduceAdd,Nat.reduceSub,Array.replicate_succ,Array.replicate_zero,List.push_toArray,List.append_toArray,List.nil_append,List.cons_append]
 gi_wp2
 refine wpIn_rangeFunc ?_;intro fn hfn;rw[mr];obtain⟨jw,E6⟩: ∃ jw,w.alloc (.cells #[.slice none 0 0] 236)=jw:=⟨_,rfl⟩;have oK:jw.heap.size=w.heap.size+1:=by rw[←E6];simp
 have jZ:jw.heap[w.heap.size]? =some (.cells #[.slice none 0 0] 236 (0,0)):=by rw[←E6];exact World.alloc_heap_new w _
 have lZ:Below w.heap.size w jw:=by rw[←E6];exact (Below.refl _ w).alloc (Nat.le_refl _) _
 rw[E6];obtain⟨hx,tK⟩: ∃ hx,(jw.alloc (.deferred (some []))).alloc (.loop (tJ fn (.func (.func g) #[] qy) w.heap.size jw.heap.size .ready none))=hx:=⟨_,rfl⟩;have mQ: ∀ k,k < jw.heap.size→hx.heap[k]? =jw.heap[k]? :=fun k O=>by
  rw[←tK];exact (Below.heap_alloc _ _ k (by simp;omega)).trans (Below.heap_alloc _ _ k O)
 have uv:Below w.heap.size w hx:=by rw[←tK];exact (lZ.alloc lZ.size _).alloc (by have:=lZ.size;simp;omega) _
 have lo:hx.heap.size=jw.heap.size+2:=by rw[←tK];simp
 have Cn:Cq w fn (.func (.func g) #[] qy) w.heap.size (jw.heap.size+1) jw.heap.size [] hx:=
  ⟨⟨_,(mQ w.heap.size (by omega)).trans jZ,⟨rfl,.inl ⟨rfl,rfl⟩⟩,by simp⟩,
   by rw[←tK];have:=World.alloc_heap_new (jw.alloc (.deferred (some []))) (.loop (tJ fn (.func (.func g) #[] qy) w.heap.size jw.heap.size .ready none));rwa [World.size_alloc] at this,
   by rw[←tK];exact (Below.heap_alloc _ _ _ (by simp)).trans (World.alloc_heap_new jw _),uv⟩
 refine⟨jw.heap.size+1,[{target:= .collected jw.heap.size,args:= #[]}],hx,{target:= .fn (.func g) qy,args:= #[.func (.yield (jw.heap.size+1)) #[] #[]]},hx,g,
  #[.func (.yield (jw.heap.size+1)) #[] #[]]++qy,hx,?_,?_,?_,?_,fun _=>h1,?_⟩
 ·rw[←tK];exact run_enterLoop_outer _ _ _ _ _
 ·simp[resolve,go_sem]
 ·intro VZ hf';simp[Target.leads] at hf';subst hf';exact RW
 ·simp[invoke,go_sem,B1]
 ·refine (vf (jw.heap.size+1) (Cq w fn (.func (.func g) #[] qy) w.heap.size (jw.heap.size+1) jw.heap.size) hx uv (Cq.avD _ _ _ _ _ _ _ uv.size)
   (fun pre x W ju hl O=>avE bm (n-1-1) w fn hfn _ w.heap.size (jw.heap.size+1) jw.heap.size (by omega) (by omega) (by omega) (Nat.le_refl _) (by omega) cs fS HV pre x O W ju hl) Cn).mono ?_
  rintro e gg ⟨⟨v0,rfl⟩,bV,du,G⟩;obtain⟨v,an,hrow,iW⟩:=G.box;have ww:=run_endLoop (P:=prog) G.aY (by simp[tJ]);obtain⟨tH,H9⟩: ∃ tH,gg.putObj (jw.heap.size+1) (.loop {tJ fn (.func (.func g) #[] qy) w.heap.size jw.heap.size .ready none with state:= .exhausted})=tH:=⟨_,rfl⟩;rw[H9] at ww;have fH:gg.grownBy tH (some (jw.heap.size+1)):=by rw[←H9];exact grownBy_putObj_a _ _ _
  have E1:tH.heap[w.heap.size]? =some (.cells #[v] 236 (0,0)):=by rw[←H9];exact (World.putObj_heap_other (by omega)).trans an
  have HX:tH.heap[jw.heap.size]? =some (.deferred (some [])):=by rw[←H9];exact (World.putObj_heap_other (by omega)).trans G.K
  have Z1:=hrow.kept fH (ownsRow_ne_a hrow G.aY (fun oZ e=>by first|cases e|exact hne (Obj.cells.inj e).2.1));have EU:Below w.heap.size w tH:=G.below.grown fH G.below.size (fun k e=>by cases e;omega);obtain⟨avM,avN⟩:=cell_of_box_a E1;clear H9;refine⟨none,tH,ww,?_⟩
  gi_wp2
  rw[←oK];refine⟨by simp,.inl ⟨_,_,rfl,run_takeDeferred HX,?_⟩⟩;exact⟨_,results_tmp rfl _ _ _,v,bV,rfl,du,Z1.kept (grownBy_putObj_a _ _ _) (ownsRow_ne_a Z1 HX (fun oZ e=>by first|cases e|exact hne (Obj.cells.inj e).2.1)),iW,EU.grown (grownBy_putObj_a _ _ _) EU.size (fun k e=>by cases e;omega)⟩
set_option maxHeartbeats 1000000 in
theorem awn (bm:Fence)(n:Nat)(Ia:bm.fn 205)(RV:bm.fn 261)(mr:bm.round=none)(aH:3≤n)(g:Nat)(qy:Array Value)(RW:bm.fn g)(B1: ∀ args w,(callFunc g args).run prog w= .ok (.enter g args) w)
 (S:List Value→Prop) (cs:Nat) (fS:cs≤maxLen) (HV:cs*24≤140737488355328) (w:World) (vf:Qj prog 235 bm (n-1-1) g qy S cs w):
 CallsIn bm n prog 205 #[.func (.func g) #[] qy] w fun e w'=> ∃ (v:Value) (bV:List Value),e= .returned v∧S bV∧w'.ownsRow w.heap.size 235 2 v bV.length (uT bV)∧(v= .slice none 0 0↔bV= [])∧Below w.heap.size w w':=by
 have h1:1≤n:=by omega
 have aJP: ∀ args w,(callFunc 261 args).run prog w= .ok (.enter 261 args) w:=enters_of func261 (by kernel_rfl) rfl;have mixed:prog.follows .mixedOrders=true:=by kernel_rfl
 have t0:=underlying0;have a0:=isAgg0;have z0:=sizeOf0;have v0:=zeroValue0;have t4:=underlying4;have a4:=isAgg4;have z4:=sizeOf4;have v4:=zeroValue4;have t23:=underlying232;have a23:=isAgg232;have z23:=sizeOf232;have v23:=zeroValue232;have t24:=underlying236;have a24:=isAgg236;have z24:=sizeOf236;have v24:=zeroValue236;have t28:=underlying239;have a28:=isAgg239;have z28:=sizeOf239;have v28:=zeroValue239;have t33:=underlying322;have a33:=isAgg322;have z33:=sizeOf322;have v33:=zeroValue322;have t26:=underlying235;have a26:=isAgg235;have z26:=sizeOf235;have v26:=zeroValue235;have HR:=run_underlying t0;have Bp:=run_underlying t4;have Rl:=run_underlying t23;have Rm:=run_underlying t33;have Rn:=run_underlying t24;have Ro:=run_underlying t28;have Rp:=run_underlying t26;refine callsIn_of_wp func205 rfl Ia ?_ mr;simp only[ntmps205,List.size_toArray,List.length_cons,List.length_nil,Nat.reduceAdd,Nat.reduceSub,Array.replicate_succ,Array.replicate_zero,List.push_toArray,List.append_toArray,List.nil_append,List.cons_append]
 gi_wp2_with (gi_at_fn 261;refine (awm bm (n-1) RV mr (by omega) g qy RW B1 S cs fS HV _ vf).mono ?_;rintro e w' ⟨v,bV,rfl,du,hrow,iW,hb⟩)
 go_ret
 exact⟨v,bV,rfl,du,hrow,iW,hb⟩
def qJ (k:cv):Value:= .agg #[.int .i64 k.B,.string k.n]
theorem Me {a b:cv}(h:qJ a=qJ b):a=b:=by
 cases a;cases b;unfold qJ at h;simp only[Value.agg.injEq,Array.mk.injEq,List.cons.injEq,Value.int.injEq,Value.string.injEq,true_and,and_true] at h;obtain⟨rfl,rfl⟩:=h;rfl
def Ak (Y:List cv):List F:=Y.map fun k=> .agg (aJ.J k)
theorem Z2 {C:bD}: ∀ {Y:List cv} {vs:List Value},aE C (Ak Y) vs→vs=Y.map qJ
 | [],vs,h=>by simpa[Ak,aE] using h
 |k::Y,vs,h=>by
  unfold Ak at h;rw[List.map_cons,aE] at h;obtain⟨v,bS,rfl,an,N⟩:=h;simp only[Rep] at an;obtain⟨ap,rfl,eK⟩:=an;rw[LP,aE] at eK;obtain⟨v1,r1,bF,h1,eK⟩:=eK;rw[aE] at eK;obtain⟨rU,cY,rfl,G,eK⟩:=eK;rw[aE] at eK;subst eK;simp only[Rep] at h1 G;subst h1;subst G;rw[List.map_cons,←Z2 (Y:=Y) N];congr 1;unfold qJ;congr 1;exact Array.toList_inj.1 bF
theorem Z3: ∀ (l:List cv),uT (l.map qJ)=(l.map fp).flatten
 | []=>rfl
 |k::l=>by
  have ih:=Z3 l;unfold uT at *;rw[List.map_cons,List.flatMap_cons,List.map_cons,List.flatten_cons,ih];rfl
instance:uR cv:=⟨fun _=>rfl⟩
theorem awo {r:List Z}{a b:Nat}{aW:TypeId}{ents:List (F×F)}{Y:List cv}(aC:r[a]? =some (.be (.map true [.int .i64,.str] ents)))(hb:r[b]? =some (.ag aW 1 [[.bE a]]))(O:ents.map (·.1)=Ak Y)(ss:Y.Nodup)
 (ki: ∀ x∈Y,(Lit.int .i64 x.B).wf=true∧x.n.size≤maxLen) (cK:Y.length≤1000000):
 aO prog 205 [.fn 207 [.bd b 1 0 0]] r
  (fun v rs=> ∃ l:List cv,l.Perm Y∧v= .own r.length l.length 0 l.length∧rs=r++ [.ag 235 2 (ai l)]):=by
 refine aO.asQ (fun h=>h) ?_;intro C dA N aA hG dv;have iV:C.r[a]? =some (.be (.map true [.int .i64,.str] ents)):=by rw[N];exact aC
 have jS:C.r[b]? =some (.ag aW 1 [[.bE a]]):=by rw[N];exact hb
 rw[aE] at dv;obtain⟨v0,bS,rfl,an,aH⟩:=dv;rw[aE] at aH;subst aH;rw[Rep] at an;obtain⟨vs,rfl,kU⟩:=an;rw[aE] at kU;obtain⟨RX,bS,Cz,ak,aH⟩:=kU;rw[aE] at aH;subst aH;rw[Rep] at ak;obtain⟨hC,_,_,hall⟩:=ak;obtain⟨_,G⟩:=hall _ _ _ jS;obtain⟨_,Bm,J,rl,rfl⟩:=G rfl;obtain rfl:vs= #[.pointer (some ⟨Bm,0,none⟩)]:=by
  apply Array.toList_inj.1;rw[Cz]
 rcases aA.ag jS with ⟨_,qo⟩|⟨b1,cap,ap,iK,zG,nE,eK,vK,eA,dp⟩
 ·cases qo
 rw[rl] at iK;simp only[Option.some.injEq,Prod.mk.injEq] at iK;obtain⟨rfl,rfl⟩:=iK;rw[dh,dC] at dp;obtain⟨⟨RY,nw,_,kD⟩,_⟩:=dp.2.1;rw[Rep] at kD;obtain⟨_,_,_,kD⟩:=kD;obtain⟨b0,c0,CA,rfl⟩:=kD _ iV;have mr:=aA.r _ _ iV;rw[dQ] at mr;obtain⟨RZ,R0,ar,qK,R1,lZ,sb,xq,Gh,Gi⟩:=mr;rw[CA] at qK;simp only[Option.some.injEq,Prod.mk.injEq] at qK;obtain⟨rfl,rfl⟩:=qK;have gO:ar.toList.map (·.key)=Y.map qJ:=Z2 (by rw[←O];exact xq);have dJ:ar.size=Y.length:=by
  have:=congrArg List.length gO;simpa using this
 let aF:Value→Option (DataW Unit×List MemPlace):=fun _=>some (.nil,[])
 have tP: ∀ x∈ar.toList,∃ k,x.key=qJ k∧k∈Y∧Go.WideElems.rd prog 235 aF x=some (.string (keyBytes [.int .i64 k.B,.string k.n.data.toList]),.nil):=by
  intro x aj;have:x.key∈Y.map qJ:=by rw[←gO];exact List.mem_map_of_mem aj
  obtain⟨k,ba,sD⟩:=List.mem_map.1 this;refine⟨k,sD.symm,ba,?_⟩;unfold Go.WideElems.rd;rw[←sD];unfold qJ;rw[Ic (ki k ba).1 (ki k ba).2];rfl
 have uA:Go.WideElems.Fit prog 235 aF ar ar.size:=by
  refine⟨by rw[dJ];unfold maxLen;omega,⟨fun x aj=> ?_,?_,?_⟩,fun x aj=> ?_⟩
  ·obtain⟨c,av,rfl⟩:=List.getElem_of_mem aj;have:=sb c _ (by rw[←Array.getElem?_toList,List.getElem?_eq_getElem av]);rw[this];simpa using av
  ·have:ar.toList.map (·.born)=List.range ar.size:=by
    refine List.ext_getElem? fun c=> ?_
    by_cases av:c < ar.size
    ·rw[List.getElem?_map,Array.getElem?_toList,Array.getElem?_eq_getElem av,List.getElem?_range av];simp[sb c _ (Array.getElem?_eq_getElem av)]
    ·rw[List.getElem?_eq_none (by simp;omega),List.getElem?_eq_none (by simp;omega)]
   rw[this];exact List.nodup_range
  ·rw[gO];exact List.pairwise_map.2 (ss.imp fun h e=>h (Me e))
  ·obtain⟨k,_,_,h⟩:=tP x aj;exact⟨_,h⟩
 let el:=ar.toList.map (Go.WideElems.rg prog 235 aF)
 let aD:DataW Unit:= .map (el.foldr DataW.insert [])
 have pK:C.w.ownsMap prog 235 aF b0 ar.size aD:=⟨ar,ar.size,lZ,uA,Nat.le_refl _,rfl⟩;have R2: (el.foldr DataW.insert []).Perm el:=Go.WideShapes.sorted_perm el;have fS:Maps.size aD=Y.length:=by
  show (el.foldr DataW.insert []).length=_;rw[R2.length_eq,List.length_map,Array.length_toList,dJ]
 have Z4: ∀ k:cv,(Lit.int .i64 k.B).wf=true→k.n.size≤maxLen→(has aD (.string (keyBytes [.int .i64 k.B,.string k.n.data.toList]))=true↔k∈Y):=by
  intro k jG jH;rw[show has aD _=(el.foldr DataW.insert []).any (fun p=>p.1.sameKey (.string (keyBytes [.int .i64 k.B,.string k.n.data.toList]))) from has_eq _ _,List.any_eq_true];constructor
  ·rintro⟨p,ak,ao⟩;have hT:=R2.mem_iff.1 ak;obtain⟨x,aj,rfl⟩:=List.mem_map.1 hT;obtain⟨br,h1,G,au⟩:=tP x aj;rw[Go.WideElems.rg_of au] at ao;have:=WideAt.sameKey_eq ao;have e:=Rq.inj (Ic (ki br G).1 (ki br G).2) (this▸Ic jG jH);rw[←Me e];exact G
  ·intro gj;have:qJ k∈ar.toList.map (·.key):=by rw[gO];exact List.mem_map_of_mem gj
   obtain⟨x,aj,he⟩:=List.mem_map.1 this;refine⟨Go.WideElems.rg prog 235 aF x,R2.mem_iff.2 (List.mem_map_of_mem aj),?_⟩;obtain⟨br,h1,G,au⟩:=tP x aj;rw[Go.WideElems.rg_of au];have e:br=k:=Me (h1.symm.trans he);subst e;exact WideAt.sameKey_self (Rq.key (Ic jG jH))
 have vf:=avy (H:=Unit) (aF:=aF) Fence.wide 1 trivial rfl (by omega) Bm b0 ar.size aD C.w (Array.getElem?_eq_some_iff.1 nE).1 nw pK;have CB:=awn Fence.wide 3 trivial trivial rfl (by omega) 207 #[.pointer (some ⟨Bm,0,none⟩)] trivial
  (enters_of func207 (by kernel_rfl) rfl) _ (Maps.size aD) (by rw[fS];unfold maxLen;omega) (by rw[fS];omega) C.w vf
 refine (callsIn_wide.1 CB).mono ?_;rintro e w' ⟨v,bV,rfl,du,hrow,iW,nK⟩;have CC: ∃ l:List cv,bV=l.map qJ∧l.Perm Y:=by
  have hall: ∀ x∈bV,∃ k,x=qJ k∧k∈Y:=fun x aj=>by
   obtain⟨lt,h1,G,_⟩:=(du.2 x).1 aj;obtain⟨B,n,rfl,jG,jH,rfl⟩:=Rs x lt h1;exact⟨⟨B,n⟩,rfl,(Z4 ⟨B,n⟩ jG jH).1 G⟩
  obtain⟨l,hl,hw⟩:=P1 (f:=qJ) (bh:=(·∈Y)) bV hall;refine⟨l,hl,?_⟩;have oa:l.Nodup:=by
   have Id:=du.1;rw[hl] at Id;exact (List.pairwise_map.1 Id).imp fun h e=>h (by rw[e])
  rw[List.perm_ext_iff_of_nodup oa ss];intro k;refine⟨hw k,fun gj=> ?_⟩;have:=(du.2 (qJ k)).2 ⟨_,Ic (ki k gj).1 (ki k gj).2,(Z4 k (ki k gj).1 (ki k gj).2).2 gj,rfl⟩;rw[hl] at this;obtain⟨br,h1,G⟩:=List.mem_map.1 this;rw[←Me G];exact h1
 obtain⟨l,rfl,kV⟩:=CC;refine⟨v,235,2,ai l,(l.map fp).flatten,rfl,nK,?_,Xe l,l,kV,by rw[bT],by rw[←N]⟩;rw[bT,←Z3];simpa using hrow
open Go.Sort (SWO)
def azc:Go.Shelf.Ren:=
 {f:=fun x=>match x with|6=>206|15=>158|14=>262|28=>241|29=>242|20=>325|21=>326|22=>327|23=>328|24=>329|25=>330|26=>331|27=>332|46=>354|47=>290|48=>291|49=>355|50=>356|57=>367|n=>n,
  t:=fun x=>match x with|22=>236|24=>235|25=>242|3=>3|39=>284|0=>0|53=>347|55=>349|4=>4|46=>341|45=>340|50=>206|5=>5|9=>9|66=>376|70=>380|76=>412|77=>308|n=>n,
  g:=fun n=>n}
set_option maxRecDepth 100000 in
theorem azd:SlLaysF0.n6 prog azc where
 mixed:=by kernel_rfl
 f6:=⟨"slices.SortFunc[[]payroll/timesheet.key,payroll/timesheet.key]",by decide,Eq.trans func206 (congrArg some (by kernel_rfl))⟩
 f14:=⟨"slices.pdqsortCmpFunc[payroll/timesheet.key]",by decide,Eq.trans func262 (congrArg some (by kernel_rfl))⟩
 f15:=Eq.trans func158 (congrArg some (by kernel_rfl))
 f20:=⟨"slices.insertionSortCmpFunc[payroll/timesheet.key]",by decide,Eq.trans func325 (congrArg some (by kernel_rfl))⟩
 f21:=⟨"slices.heapSortCmpFunc[payroll/timesheet.key]",by decide,Eq.trans func326 (congrArg some (by kernel_rfl))⟩
 f22:=⟨"slices.breakPatternsCmpFunc[payroll/timesheet.key]",by decide,Eq.trans func327 (congrArg some (by kernel_rfl))⟩
 f23:=⟨"slices.choosePivotCmpFunc[payroll/timesheet.key]",by decide,Eq.trans func328 (congrArg some (by kernel_rfl))⟩
 f24:=⟨"slices.reverseRangeCmpFunc[payroll/timesheet.key]",by decide,Eq.trans func329 (congrArg some (by kernel_rfl))⟩
 f25:=⟨"slices.partialInsertionSortCmpFunc[payroll/timesheet.key]",by decide,Eq.trans func330 (congrArg some (by kernel_rfl))⟩
 f26:=⟨"slices.partitionEqualCmpFunc[payroll/timesheet.key]",by decide,Eq.trans func331 (congrArg some (by kernel_rfl))⟩
 f27:=⟨"slices.partitionCmpFunc[payroll/timesheet.key]",by decide,Eq.trans func332 (congrArg some (by kernel_rfl))⟩
 f28:=Eq.trans func241 (congrArg some (by kernel_rfl))
 f29:=Eq.trans func242 (congrArg some (by kernel_rfl))
 f46:=⟨"slices.siftDownCmpFunc[payroll/timesheet.key]",by decide,Eq.trans func354 (congrArg some (by kernel_rfl))⟩
 f47:=Eq.trans func290 (congrArg some (by kernel_rfl))
 f48:=Eq.trans func291 (congrArg some (by kernel_rfl))
 f49:=⟨"slices.medianAdjacentCmpFunc[payroll/timesheet.key]",by decide,Eq.trans func355 (congrArg some (by kernel_rfl))⟩
 f50:=⟨"slices.medianCmpFunc[payroll/timesheet.key]",by decide,Eq.trans func356 (congrArg some (by kernel_rfl))⟩
 f57:=⟨"slices.order2CmpFunc[payroll/timesheet.key]",by decide,Eq.trans func367 (congrArg some (by kernel_rfl))⟩
 t0:=underlying0
 a0:=isAgg0
 z0:=sizeOf0
 v0:=zeroValue0
 t3:=underlying3
 a3:=isAgg3
 z3:=sizeOf3
 v3:=zeroValue3
 t4:=underlying4
 a4:=isAgg4
 z4:=sizeOf4
 v4:=zeroValue4
 t5:=underlying5
 a5:=isAgg5
 z5:=sizeOf5
 v5:=zeroValue5
 t9:=underlying9
 a9:=isAgg9
 z9:=sizeOf9
 v9:=zeroValue9
 t22:=underlying236
 a22:=isAgg236
 z22:=sizeOf236
 v22:=zeroValue236
 t25:=underlying242
 a25:=isAgg242
 z25:=sizeOf242
 v25:=zeroValue242
 t39:=underlying284
 a39:=isAgg284
 z39:=sizeOf284
 v39:=zeroValue284
 t45:=underlying340
 a45:=isAgg340
 z45:=sizeOf340
 v45:=zeroValue340
 t46:=underlying341
 a46:=isAgg341
 z46:=sizeOf341
 v46:=zeroValue341
 t50:=underlying206
 a50:=isAgg206
 z50:=sizeOf206
 v50:=zeroValue206
 t53:=underlying347
 a53:=isAgg347
 z53:=sizeOf347
 v53:=zeroValue347
 t55:=underlying349
 a55:=isAgg349
 z55:=sizeOf349
 v55:=zeroValue349
 t66:=underlying376
 a66:=isAgg376
 z66:=sizeOf376
 v66:=zeroValue376
 t70:=underlying380
 a70:=isAgg380
 z70:=sizeOf380
 v70:=zeroValue380
 t76:=underlying412
 a76:=isAgg412
 z76:=sizeOf412
 v76:=zeroValue412
 t77:=underlying308
 a77:=isAgg308
 z77:=sizeOf308
 v77:=zeroValue308
theorem ID {bj:Type}{tx:bj→bj→Int}{aF:bj→bj→Prop}(h: ∀ a b,tx a b < 0↔aF a b)(h1: ∀ a,¬aF a a)(G: ∀ a b J,aF a b→aF b J→aF a J)(au: ∀ a b J,¬aF a b→ ¬aF b J→ ¬aF a J):SWO (ltOf tx):=by
 refine⟨fun x=> ?_,fun x y M=> ?_,fun x y M=> ?_⟩<;>simp only[ltOf,decide_eq_true_eq,decide_eq_false_iff_not,h]
 ·exact h1 x
 ·exact G x y M
 ·exact au x y M
theorem aze:SWO (ltOf If):=by
 refine ID (aF:=pN) (fun a b=>aah) (fun a=> ?_) (fun a b J=> ?_) (fun a b J=> ?_)<;>unfold pN
 ·rintro (h|⟨_,h⟩)
  ·omega
  ·exact Ie _ h
 ·rintro (h|⟨e,h⟩) (k|⟨cO,k⟩)
  ·exact .inl (by omega)
  ·exact .inl (by omega)
  ·exact .inl (by omega)
  ·exact .inr ⟨by omega,Z8 h k⟩
 ·intro h k tt;rcases tt with tt|⟨e,tt⟩
  ·have h1: ¬a.B < b.B:=fun e=>h (.inl e);have G: ¬b.B < J.B:=fun e=>k (.inl e);omega
  ·have h1: ¬a.B < b.B:=fun e=>h (.inl e);have G: ¬b.B < J.B:=fun e=>k (.inl e);have bF:a.B=b.B:=by omega
   have bK:b.B=J.B:=by omega
   have au: ¬a.n.toList < b.n.toList:=fun e=>h (.inr ⟨bF,e⟩);have bv: ¬b.n.toList < J.n.toList:=fun e=>k (.inr ⟨bK,e⟩);rcases Mh au with gX|gX
   ·rw[gX] at tt;exact bv tt
   ·exact bv (Z8 gX tt)
theorem ayV (l:List cv)(hl:l.length < 4611686018427387904):aO prog 206 [.own 0 l.length 0 l.length,.fn 122 []] [.ag 235 2 (ai l)]
 (fun v rs=>v= .bo []∧ ∃ cb:List cv,cb.Perm l∧cb.Pairwise (fun x y=> ¬pN y x)∧rs= [.ag 235 2 (ai cb)]):=by
 refine aO.Hg inferInstance ?_;refine @aO.mono (dE.aD inferInstance) _ _ _ _ _ _ (@aO.G5 (dE.aD inferInstance) trivial cv _ _ _ _ _ _ _ 235 azd rfl isAgg235 sizeOf235 If aze (@awv (dE.aD inferInstance)) (enters_of func122 (by kernel_rfl) rfl) l hl) ?_;rintro v rs ⟨rfl,cb,h1,G,rfl⟩;exact⟨rfl,cb,h1,G.imp fun h e=>h (aah.2 e),rfl⟩
theorem Mp {a b:ByteArray}(h:a.toList=b.toList):a=b:=by
 have e: ∀ x:ByteArray,x.toList=x.data.toList:=fun x=>ByteArray.toList_eq x;rw[e,e] at h;cases a;cases b;congr 1;exact Array.toList_inj.1 h
theorem ayU {a b:cv}(h: ¬pN a b)(hne:a≠b):pN b a:=by
 unfold pN at *;rcases Int.lt_trichotomy a.B b.B with h1|h1|h1
 ·exact absurd (.inl h1) h
 ·by_cases G:a.n.toList < b.n.toList
  ·exact absurd (.inr ⟨h1,G⟩) h
  ·rcases Mh G with au|au
   ·refine absurd ?_ hne;cases a;cases b;simp only at h1 au;rw[h1,Mp au]
   ·exact .inr ⟨h1.symm,au⟩
 ·exact .inl h1
theorem HF {r:List Z}{x:Z}(h:jP r)(aj:jc (r.length+1) x=true):jP (r++ [x]):=EV h (by simpa using aj)
theorem Zf {r:List Z}{a b:Nat}{aW:TypeId}{ents:List (F×F)}{Y:List cv}(N:jP r)(aC:r[a]? =some (.be (.map true [.int .i64,.str] ents)))(hb:r[b]? =some (.ag aW 1 [[.bE a]]))(O:ents.map (·.1)=Ak Y)(ss:Y.Nodup)
 (ki: ∀ x∈Y,(Lit.int .i64 x.B).wf=true∧x.n.size≤maxLen) (cK:Y.length≤1000000):
 aO prog 120 [.fn 207 [.bd b 1 0 0],.fn 122 []] r
  (fun v rs=> ∃ l:List cv,l.Perm Y∧l.Pairwise pN∧v= .own r.length l.length 0 l.length∧rs=r++ [.ag 235 2 (ai l)]):=by
 refine cu func120 acg (by simp[MP,SQ]) ?_;have nK:b < r.length:=(List.getElem?_eq_some_iff.1 hb).1;simp only[go_sem,MP,SQ];refine uV N (by simp[gx,dt,nK]) (awo aC hb O ss ki cK) ?_;rintro _ _ ⟨l,hl,rfl,rfl⟩;refine⟨by simp,?_⟩;simp only[go_sem];refine om [r.length] [] (by simp) (by simp only[go_sem,dH]<;>rfl) (by simp only[go_sem]<;>rfl) (ayV l (by rw[hl.length_eq];omega)) ?_;rintro _ _ ⟨rfl,cb,h1,G,rfl⟩;refine⟨.inl rfl,?_⟩;simp only[go_sem,ec];have aH:cb.Nodup:=(h1.trans hl).nodup_iff.2 ss;refine E.ac ⟨cb,h1.trans hl,?_,by rw[h1.length_eq];rfl,rfl⟩;exact (G.and aH).imp fun h=>ayU h.1 (fun e=>h.2 e.symm)
end Go.Proofs.YtpincjkjoeopkaaGreatDoor
