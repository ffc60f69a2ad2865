/- Time evaluation. -/
import Derived.Test.YtpincjkjoeopkaaGreatDoorC15
set_option linter.all false
namespace Go.Proofs.YtpincjkjoeopkaaGreatDoor
open Go Go.Abs Go.Maps Go.Proofs.Tryz
open Go.RowKit Go.Sort Go.Shelf
set_option maxRecDepth 100000
set_option maxHeartbeats 1000000 in
theorem avs {H:Type}(bm:Fence)(n:Nat)(Rk:bm.fn 207)(mr:bm.round=none)(aH:1<=n)(l Bm b Ac:Nat)(ls:DataW H){aF:Value->Option (DataW H×List MemPlace)}(hY:List Value->World->Prop)
 (yp:∀pre x W,hY pre W->pre.length<Maps.size ls->(∃kl,keyOf prog 235 x=some kl)->YieldAt bm (n-1) prog l #[x] W λe W'=>e= .returned (.bool true)/\hY (pre++[x]) W'/\KeepsWalks W W')
 (W:World) (ju:AbidesFrom W.heap.size hY) (hm:W.cell? ⟨Bm,0,none⟩=some (.map (some b))) (pK:W.ownsMap prog 235 aF b Ac ls) (h0:hY [] W):
 CallsIn bm n prog 207 #[.func (.yield l) #[] #[],.pointer (some ⟨Bm,0,none⟩)] W λe W'=>(∃v,e= .returned v)/\ ∃bV:List Value,yc prog 235 ls (λ_=>false) bV/\hY bV W':=by
 have mixed:prog.follows .mixedOrders=true:=by kernel_rfl
 have t0:=underlying0;have a0:=isAgg0;have z0:=sizeOf0;have v0:=zeroValue0;have t4:=underlying4;have a4:=isAgg4;have z4:=sizeOf4;have v4:=zeroValue4;have t23:=underlying232;have a23:=isAgg232;have z23:=sizeOf232;have v23:=zeroValue232;have t24:=underlying236;have a24:=isAgg236;have z24:=sizeOf236;have v24:=zeroValue236;have t28:=underlying239;have a28:=isAgg239;have z28:=sizeOf239;have v28:=zeroValue239;have t33:=underlying322;have a33:=isAgg322;have z33:=sizeOf322;have v33:=zeroValue322;have t26:=underlying235;have a26:=isAgg235;have z26:=sizeOf235;have v26:=zeroValue235;have HR:=run_underlying t0;have Bp:=run_underlying t4;have Rl:=run_underlying t23;have Rm:=run_underlying t33;have Rn:=run_underlying t24;have Ro:=run_underlying t28;have Rp:=run_underlying t26;have K:=Rq;refine callsIn_of_wp func207 rfl Rk ?_ mr;simp only[ntmps207,aMG,aK8,aLQ,Nat.reduceAdd,Nat.reduceSub,aQa,aQb,aQc,aQd,aLV,aLx]
 gi_wp2_with (first
  | (gi_at_range;refine wpListIn_range_own _ rfl _ 232 rfl 235 3 K t23 _ b Ac _ rfl pK ?_;intro je avt wm oK)
  |gi_in)
 go_frame
 gi_loopw [3] (λ_ wr=> ∃(left:Lit->Bool) (HS:Nat) (bV:List Value),wr.ranges prog 235 aF b W.heap.size Ac ls left HS/\bV.length+HS<=Maps.size ls/\yc prog 235 ls left bV/\hY bV wr)
  (λ_ wr=>wr.rangeLeft b W.heap.size)
 case atStart=>
  exact⟨_,_,[],avt,by simp,yc.asL _ ls,ju [] W je none h0 wm (λz e=>by cases e)⟩
 case round=>
  obtain⟨left,HS,bV,Ad,eK,lI,Zw⟩:=hrel
  gi_wp2_with (first
   | (gi_at_next;refine wpListIn_next_ranges _ rfl _ rfl 235 K aF (λv:Value=>v) id (λkey kl O=>⟨key,rfl⟩) (λv _ _=>⟨v,rfl⟩) b W.heap.size Ac _ _ _ rfl Ad ?_ ?_)
   |gi_in)
  ·
   intro Bg oY
   gi_wp2
   go_end0
   exact⟨⟨_,rfl⟩,bV,by rw[show left=λ_=>false from funext oY] at lI;exact lI,Zw⟩
  ·
   intro x J kl aJE aJF jH avu Rr hw an Qi avv aI ct vX aJG;obtain⟨B,lq,rfl,_⟩:=Rs x kl Rr;have Rt:hY bV jH:=ju bV wr jH (some W.heap.size) Zw ct (λz e=>by cases e;exact⟨aKM _,Ad.iter_walk⟩);have avw:hY bV (jH.alloc (.cells #[.int .i64 B,.string lq] 235)):=ju bV jH _ none Rt (World.grownBy_alloc jH _ none) (λz e=>by cases e);obtain⟨fn,tmps,assign,body,bt,dc⟩:=yp bV _ _ avw (by omega) ⟨kl,Rr⟩;clear vX
   gi_wp2
   refine dc.mono ?_;rintro e tH ⟨rfl,avx,wD⟩
   gi_wp2
   have Zx:=avv.of_walks ((KeepsWalks.alloc _ _).trans wD)
   go_roundw
   case rel=>exact⟨_,avu,bV++[_],Zx,by simp;omega,lI.oc K Rr hw Qi,avx⟩
   case measure=>rw[Zx.left_eq,Ad.left_eq];exact aI
theorem avy {H:Type}(bm:Fence)(n:Nat)(Rk:bm.fn 207)(mr:bm.round=none)(aH:1<=n)(Bm b Ac:Nat)(ls:DataW H){aF:Value->Option (DataW H×List MemPlace)}(w:World)(avz:Bm<w.heap.size)
 (hm:w.cell? ⟨Bm,0,none⟩=some (.map (some b))) (pK:w.ownsMap prog 235 aF b Ac ls):
 Qj prog 235 bm n 207 #[.pointer (some ⟨Bm,0,none⟩)] (λbV=>yc prog 235 ls (λ_=>false) bV) (Maps.size ls) w:=λl hY W hW ju yp h0=>by
 have HT:W.ownsMap prog 235 aF b Ac ls:=by
  have nK:=pK.lt;obtain⟨ar,OA,af,avA,ao,fC⟩:=pK;exact⟨ar,OA,(hW.block b nK).trans af,avA,ao,fC⟩
 exact avs bm n Rk mr aH l Bm b Ac ls hY yp W ju ((hW.cell (p:=⟨Bm,0,none⟩) avz).trans hm) HT h0
def Zy:Option Code->Code×Code
 |some (.seq _ (.seq (.seq _ (.block _ (.rangeFunc _ _ a b))) _))=>(a,b)
 |_=>(.skip,.skip)
def Ru: {J:Code // (Zy f261.body).1=J}:=⟨_,by conv=>lhs;whnf⟩
def Rv: {J:Code // (Zy f261.body).2=J}:=⟨_,by conv=>lhs;whnf⟩
def tJ (fn:FuncId)(pc:Value)(Bs aD:Nat)(bw:LoopState)(avB:Option Code):Loop:=
 {state:=bw,pending:=avB,fn,tmps:= #[.slice none 0 0,pc,.pointer (some ⟨Bs,0,none⟩),undef,.slice none 0 0,undef,pc,undef,undef,undef,undef,undef,undef],params:= #[7],assign:=Ru.1,body:=Rv.1,defers:=aD}
theorem avC: (prog.info? 235).map (λc=>(c.zero,c.size,c.bytes))=some (some (.agg #[.int .i64 0,.string ⟨#[]⟩]),2,24):=by kernel_rfl
structure Cq (je:World) (fn:FuncId) (pc:Value) (Bs l aD:Nat) (bV:List Value) (W:World):Prop where
 box:∃v,W.heap[Bs]? =some (.cells #[v] 236 (0,0))/\W.ownsRow je.heap.size 235 2 v bV.length (uT bV)/\(v= .slice none 0 0↔bV=[])
 aY:W.heap[l]? =some (.loop (tJ fn pc Bs aD .ready none))
 K:W.heap[aD]? =some (.deferred (some []))
 below:Below je.heap.size je W
theorem Cq.avD (je:World)(fn:FuncId)(pc:Value)(Bs l aD di:Nat)(cU:je.heap.size<=di):AbidesFrom di (Cq je fn pc Bs l aD):=λI W W' bG h aw hrow=>by
 have LY:∀z,bG=some z-> ∃V:Obj,W.heap[z]? =some V/\V.isWalk=true:=λz e=>(hrow z e).2;obtain⟨v,an,N,aH⟩:=h.box;exact⟨⟨v,(grownBy_keeps aw LY an rfl).trans an,ownsRow_abides_a N aw LY,aH⟩,(grownBy_keeps aw LY h.aY rfl).trans h.aY,(grownBy_keeps aw LY h.K rfl).trans h.K,
  h.below.grown aw h.below.size (λk e=>aLk cU (hrow k e).1)⟩
set_option maxHeartbeats 2000000 in
theorem avE (bm:Fence)(m:Nat)(je:World)(fn:FuncId)(hfn:bm.fn fn)(pc:Value)(Bs l aD:Nat)(HU:Bs≠l)(Zz:aD≠l)(avF:aD≠Bs)(avG:je.heap.size<=Bs)(ZA:je.heap.size<=l)
 (cs:Nat) (fS:cs<=maxLen) (HV:cs*24<=140737488355328) (bV:List Value) (x:Value) (avH:∃kl,keyOf prog 235 x=some kl) (W:World) (h:Cq je fn pc Bs l aD bV W) (cK:bV.length<cs):
 YieldAt bm m prog l #[x] W λe W'=>e= .returned (.bool true)/\Cq je fn pc Bs l aD (bV++[x]) W'/\KeepsWalks W W':=by
 have mixed:prog.follows .mixedOrders=true:=by kernel_rfl
 have t0:=underlying0;have a0:=isAgg0;have z0:=sizeOf0;have v0:=zeroValue0;have t4:=underlying4;have a4:=isAgg4;have z4:=sizeOf4;have v4:=zeroValue4;have t23:=underlying232;have a23:=isAgg232;have z23:=sizeOf232;have v23:=zeroValue232;have t24:=underlying236;have a24:=isAgg236;have z24:=sizeOf236;have v24:=zeroValue236;have t28:=underlying239;have a28:=isAgg239;have z28:=sizeOf239;have v28:=zeroValue239;have t33:=underlying322;have a33:=isAgg322;have z33:=sizeOf322;have v33:=zeroValue322;have t26:=underlying235;have a26:=isAgg235;have z26:=sizeOf235;have v26:=zeroValue235;have HR:=run_underlying t0;have Bp:=run_underlying t4;have Rl:=run_underlying t23;have Rm:=run_underlying t33;have Rn:=run_underlying t24;have Ro:=run_underlying t28;have Rp:=run_underlying t26;have hne:236≠235:=by decide
 obtain⟨Rw,av,jD,Yw,th⟩:=info_parts avC;obtain⟨kl,gO⟩:=avH;obtain⟨B,lq,rfl,_⟩:=Rs x kl gO;obtain⟨v,an,hrow,_⟩:=h.box;refine⟨fn,#[.slice none 0 0,pc,.pointer (some ⟨Bs,0,none⟩),undef,.slice none 0 0,undef,pc,.agg #[.int .i64 B,.string lq],undef,undef,undef,undef,undef],Ru.1,Rv.1,by simpa[tJ] using run_yield (P:=prog) (args:= #[.agg #[.int .i64 B,.string lq]]) h.aY rfl,roundIn_of_wpIn hfn ?_⟩;have hl:l<W.heap.size:=(aLp.1 h.aY).1;have avI:Bs<W.heap.size:=(aLp.1 an).1;have avJ:aD<W.heap.size:=(aLp.1 h.K).1;obtain⟨hx,tK⟩:∃hx,W.alloc (.cells #[.int .i64 B,.string lq] 235)=hx:=⟨_,rfl⟩;have mQ:∀k,k<W.heap.size->hx.heap[k]? =W.heap[k]? :=λk O=>by rw[<-tK];exact Below.heap_alloc _ _ k O
 have wB:hx.heap[l]? =some (.loop (tJ fn pc Bs aD .ready none)):=(mQ l hl).trans h.aY;have nD:hx.heap[Bs]? =some (.cells #[v] 236 (0,0)):=(mQ Bs avI).trans an;have sz:hx.heap[aD]? =some (.deferred (some [])):=(mQ aD avJ).trans h.K;have QO:hx.heap[W.heap.size]? =some (.cells #[.int .i64 B,.string lq] 235 (0,0)):=by rw[<-tK];exact World.alloc_heap_new W _
 have ZB:hx.ownsRow je.heap.size 235 2 v bV.length (uT bV):=by rw[<-tK];exact hrow.alloc _
 have ZC:Below je.heap.size je hx:=by rw[<-tK];exact h.below.alloc h.below.size _
 have LZ:KeepsWalks W hx:=by rw[<-tK];exact KeepsWalks.alloc _ _
 have pP:=run_beginRound (P:=prog) wB rfl;obtain⟨gg,yq⟩:∃gg,hx.putObj l (.loop {tJ fn pc Bs aD .ready none with state:= .busy})=gg:=⟨_,rfl⟩;rw[yq] at pP;have ct:hx.grownBy gg (some l):=by rw[<-yq];exact grownBy_putObj_a _ _ _
 have sf:KeepsWalks W gg:=LZ.trans (by rw[<-yq];exact KeepsWalks.putObj _ wB rfl);have gl:gg.heap[Bs]? =some (.cells #[v] 236 (0,0)):=by rw[<-yq];exact (World.putObj_heap_other HU).trans nD
 have rC:gg.heap[aD]? =some (.deferred (some [])):=by rw[<-yq];exact (World.putObj_heap_other Zz).trans sz
 have HG:gg.heap[l]? =some (.loop {tJ fn pc Bs aD .ready none with state:= .busy}):=by rw[<-yq];exact World.putObj_heap_same (aLp.1 wB).1
 have Rx:gg.heap[W.heap.size]? =some (.cells #[.int .i64 B,.string lq] 235 (0,0)):=by rw[<-yq];exact (World.putObj_heap_other (by omega)).trans QO
 have aJH:gg.cell? ⟨W.heap.size,0,none⟩=some (.int .i64 B):=by simp[World.cell?,Rx]
 have aJI:gg.cell? ⟨W.heap.size,1,none⟩=some (.string lq):=by simp[World.cell?,Rx]
 have L0:gg.ownsRow je.heap.size 235 2 v bV.length (uT bV):=ZB.kept ct (ownsRow_ne_a ZB wB (λoZ e=>by first|cases e|exact hne (Obj.cells.inj e).2.1));have rX:Below je.heap.size je gg:=ZC.grown ct ZC.size (λk e=>by cases e;exact ZA);obtain⟨WK,Ae⟩:=cell_of_box_a gl;have avK:Bs<gg.heap.size:=(aLp.1 gl).1;have lp:l<gg.heap.size:=(aLp.1 HG).1;have avL:aD<gg.heap.size:=(aLp.1 rC).1;have Ry:∀{j:Nat} {V:Obj},gg.heap[j]? =some V->(∀oZ,V≠ .cells oZ 235 (0,0))->some j≠v.ownBlock:=λhj kx=>by
  rcases ownsRow_ne_a L0 hj kx with e|e
  ·rw[e];simp
  ·exact λcO=>e cO.symm
 clear yq;simp only[Ru]
 gi_wp2_with gi_round_op_a
 simp only[Rv]
 gi_wp2_with (first
  | (gi_at_builtin;refine wpListIn_append_own _ rfl _ _ 236 rfl je.heap.size 235 Rw (.agg #[.int .i64 0,.string ⟨#[]⟩]) 2 24 t24 av jD Yw th rfl (by decide) _ _ _ rfl (L0.alloc _) ⟨gg.heap.size,0,none⟩ 1 1 [.int .i64 B,.string lq] rfl rfl (asO _ _ _ _) (by intro u bc;simp only[fR] at bc;rcases bc with rfl|rfl<;>rfl) (by omega) (aLk (aMF _ (by omega)) HV) (by have:=rX.size;simp;omega) ?_;intro gA pI HT fH hnil3;have E1:pI.heap[Bs]? =some (.cells #[v] 236 (0,0)):=(fH.block Bs (by simp;omega) (Ry gl (λoZ e=>by first|cases e|exact hne (Obj.cells.inj e).2.1))).trans ((Below.heap_alloc _ _ Bs avK).trans gl);obtain⟨avM,avN⟩:=cell_of_box_a E1;obtain⟨zX,ha,L1,rfl,aJJ,aJK,jS,HW,L2,L3⟩:∃zX ha L1,gA= .slice (some ⟨zX,0,none⟩) (bV.length+1) ha/\je.heap.size<=zX/\pI.heap[zX]? =some (.cells L1 235 (0,0))/\bV.length+1<=ha/\ha<=maxLen/\L1.size=ha*2/\L1.toList.take ((bV.length+1)*2)=uT bV++[.int .i64 B,.string lq]:=HT.2.elim (λh=>absurd h.2 (by omega)) λcR=>cR;go_frame)
  |gi_round_op_a)
 have L4: (gg.alloc (.cells #[.int .i64 B,.string lq] 235)).grownBy pI v.ownBlock:=fH;have ZD:pI.heap[l]? =some (.loop {tJ fn pc Bs aD .ready none with state:= .busy}):=(L4.block l (by simp;omega) (Ry HG (λoZ e=>by first|cases e|exact hne (Obj.cells.inj e).2.1))).trans ((Below.heap_alloc _ _ l lp).trans HG);have HX:pI.heap[aD]? =some (.deferred (some [])):=(L4.block aD (by simp;omega) (Ry rC (λoZ e=>by first|cases e|exact hne (Obj.cells.inj e).2.1))).trans ((Below.heap_alloc _ _ aD avL).trans rC);obtain⟨nB,Cr⟩:∃nB,pI.setCell ⟨Bs,0,none⟩ (.slice (some ⟨zX,0,none⟩) (bV.length+1) ha)=nB:=⟨_,rfl⟩;rw[Cr];have pd:pI.grownBy nB (some Bs):=by rw[<-Cr];exact grownBy_setCell0_a _ _ _
 have avO:nB.heap[Bs]? =some (.cells #[.slice (some ⟨zX,0,none⟩) (bV.length+1) ha] 236 (0,0)):=by rw[<-Cr];exact heap_setCell_box_a _ E1
 have L5:nB.heap[l]? =some (.loop {tJ fn pc Bs aD .ready none with state:= .busy}):=(pd.block l (aLp.1 ZD).1 (λe=>HU (by cases e;rfl))).trans ZD;have avP:nB.heap[aD]? =some (.deferred (some [])):=(pd.block aD (aLp.1 HX).1 (λe=>avF (by cases e;rfl))).trans HX;have ZE:=HT.kept pd (ownsRow_ne_a HT E1 (λoZ e=>by first|cases e|exact hne (Obj.cells.inj e).2.1));have ZF:l<nB.heap.size:=(aLp.1 L5).1;have EU:Below je.heap.size je pI:=(rX.alloc rX.size _).grown L4 (by have:=rX.size;simp;omega) (λk e=>(L0.lt k e).1);have ZG:Below je.heap.size je nB:=EU.grown pd EU.size (λk e=>by cases e;exact avG);have Rz:KeepsWalks W nB:=((sf.trans (KeepsWalks.alloc _ _)).trans (KeepsWalks.of_grownBy L4 (ownsRow_not_walk_a (L0.alloc _)))).trans (by rw[<-Cr];exact KeepsWalks.setCell _ _ _);clear Cr;refine⟨_,_,run_endRound none L5,rfl,⟨⟨_,(World.putObj_heap_other HU).trans avO,?_,by simp⟩,World.putObj_heap_same ZF,(World.putObj_heap_other Zz).trans avP,ZG.grown (grownBy_putObj_a _ _ _) ZG.size (λk e=>by cases e;exact ZA)⟩,Rz.trans (KeepsWalks.putObj _ L5 rfl)⟩;have:=ZE.kept (grownBy_putObj_a nB l (.loop {{tJ fn pc Bs aD .ready none with state:= .busy} with state:=if (none:Option Code).isNone then .ready else .done,pending:=none})) (ownsRow_ne_a ZE L5 (λoZ e=>by first|cases e|exact hne (Obj.cells.inj e).2.1));rw[show uT (bV++[Value.agg #[.int .i64 B,.string lq]])=uT bV++[.int .i64 B,.string lq] from by simp[uT,Value.cells],aKK];simpa using this
set_option maxHeartbeats 2000000 in
theorem awm (bm:Fence)(n:Nat)(RV:bm.fn 261)(mr:bm.round=none)(aH:2<=n)(g:Nat)(qy:Array Value)(RW:bm.fn g)(B1:∀args w,(callFunc g args).run prog w= .ok (.enter g args) w)
 (Rd:List Value->Prop) (cs:Nat) (fS:cs<=maxLen) (HV:cs*24<=140737488355328) (w:World) (vf:Qj prog 235 bm (n-1) g qy Rd cs w):
 CallsIn bm n prog 261 #[.slice none 0 0,.func (.func g) #[] qy] w λe w'=> ∃(v:Value) (bV:List Value),e= .returned v/\Rd bV/\w'.ownsRow w.heap.size 235 2 v bV.length (uT bV)/\(v= .slice none 0 0↔bV=[])/\Below w.heap.size w w':=by
 have d:1<=n:=by omega
 have mixed:prog.follows .mixedOrders=true:=by kernel_rfl
 have t0:=underlying0;have a0:=isAgg0;have z0:=sizeOf0;have v0:=zeroValue0;have t4:=underlying4;have a4:=isAgg4;have z4:=sizeOf4;have v4:=zeroValue4;have t23:=underlying232;have a23:=isAgg232;have z23:=sizeOf232;have v23:=zeroValue232;have t24:=underlying236;have a24:=isAgg236;have z24:=sizeOf236;have v24:=zeroValue236;have t28:=underlying239;have a28:=isAgg239;have z28:=sizeOf239;have v28:=zeroValue239;have t33:=underlying322;have a33:=isAgg322;have z33:=sizeOf322;have v33:=zeroValue322;have t26:=underlying235;have a26:=isAgg235;have z26:=sizeOf235;have v26:=zeroValue235;have HR:=run_underlying t0;have Bp:=run_underlying t4;have Rl:=run_underlying t23;have Rm:=run_underlying t33;have Rn:=run_underlying t24;have Ro:=run_underlying t28;have Rp:=run_underlying t26;refine callsIn_of_wp_marks func261 rfl RV ?_ mr;simp only[ntmps261,aMG,aK8,aLQ,Nat.reduceAdd,Nat.reduceSub,aQa,aQb,aQc,aQd,aLV,aLx]
 gi_wp2
 refine wpIn_rangeFunc ?_;intro fn hfn;rw[mr];obtain⟨jw,E6⟩:∃jw,w.alloc (.cells #[.slice none 0 0] 236)=jw:=⟨_,rfl⟩;have oK:jw.heap.size=w.heap.size+1:=by rw[<-E6];simp
 have jZ:jw.heap[w.heap.size]? =some (.cells #[.slice none 0 0] 236 (0,0)):=by rw[<-E6];exact World.alloc_heap_new w _
 have lZ:Below w.heap.size w jw:=by rw[<-E6];exact (Below.refl _ w).alloc (aKM _) _
 rw[E6];obtain⟨hx,tK⟩:∃hx,(jw.alloc (.deferred (some []))).alloc (.loop (tJ fn (.func (.func g) #[] qy) w.heap.size jw.heap.size .ready none))=hx:=⟨_,rfl⟩;have mQ:∀k,k<jw.heap.size->hx.heap[k]? =jw.heap[k]? :=λk O=>by
  rw[<-tK];exact (Below.heap_alloc _ _ k (by simp;omega)).trans (Below.heap_alloc _ _ k O)
 have uv:Below w.heap.size w hx:=by rw[<-tK];exact (lZ.alloc lZ.size _).alloc (by have:=lZ.size;simp;omega) _
 have lo:hx.heap.size=jw.heap.size+2:=by rw[<-tK];simp
 have Cn:Cq w fn (.func (.func g) #[] qy) w.heap.size (jw.heap.size+1) jw.heap.size [] hx:=
  ⟨⟨_,(mQ w.heap.size (by omega)).trans jZ,⟨rfl,.inl ⟨rfl,rfl⟩⟩,by simp⟩,
   by rw[<-tK];have:=World.alloc_heap_new (jw.alloc (.deferred (some []))) (.loop (tJ fn (.func (.func g) #[] qy) w.heap.size jw.heap.size .ready none));rwa [World.size_alloc] at this,
   by rw[<-tK];exact (Below.heap_alloc _ _ _ (by simp)).trans (World.alloc_heap_new jw _),uv⟩
 refine⟨jw.heap.size+1,[{target:= .collected jw.heap.size,args:= #[]}],hx,{target:= .fn (.func g) qy,args:= #[.func (.yield (jw.heap.size+1)) #[] #[]]},hx,g,
  #[.func (.yield (jw.heap.size+1)) #[] #[]]++qy,hx,?_,?_,?_,?_,λ_=>d,?_⟩
 ·rw[<-tK];exact run_enterLoop_outer _ _ _ _ _
 ·simp[resolve,go_sem]
 ·intro VZ hf';simp[Target.leads] at hf';subst hf';exact RW
 ·simp[invoke,go_sem,B1]
 ·refine (vf (jw.heap.size+1) (Cq w fn (.func (.func g) #[] qy) w.heap.size (jw.heap.size+1) jw.heap.size) hx uv (Cq.avD _ _ _ _ _ _ _ uv.size)
   (λpre x W ju hl O=>avE bm (n-1-1) w fn hfn _ w.heap.size (jw.heap.size+1) jw.heap.size (by omega) (by omega) (by omega) (aKM _) (by omega) cs fS HV pre x O W ju hl) Cn).mono ?_
  rintro e gg ⟨⟨v0,rfl⟩,bV,du,G⟩;obtain⟨v,an,hrow,iW⟩:=G.box;have ww:=run_endLoop (P:=prog) G.aY (by simp[tJ]);obtain⟨tH,H9⟩:∃tH,gg.putObj (jw.heap.size+1) (.loop {tJ fn (.func (.func g) #[] qy) w.heap.size jw.heap.size .ready none with state:= .exhausted})=tH:=⟨_,rfl⟩;rw[H9] at ww;have fH:gg.grownBy tH (some (jw.heap.size+1)):=by rw[<-H9];exact grownBy_putObj_a _ _ _
  have E1:tH.heap[w.heap.size]? =some (.cells #[v] 236 (0,0)):=by rw[<-H9];exact (World.putObj_heap_other (by omega)).trans an
  have HX:tH.heap[jw.heap.size]? =some (.deferred (some [])):=by rw[<-H9];exact (World.putObj_heap_other (by omega)).trans G.K
  have Z1:=hrow.kept fH (ownsRow_ne_a hrow G.aY (λoZ e=>by first|cases e|exact hne (Obj.cells.inj e).2.1));have EU:Below w.heap.size w tH:=G.below.grown fH G.below.size (λk e=>by cases e;omega);obtain⟨avM,avN⟩:=cell_of_box_a E1;clear H9;refine⟨none,tH,ww,?_⟩
  gi_wp2
  rw[<-oK];refine⟨by simp,.inl ⟨_,_,rfl,run_takeDeferred HX,?_⟩⟩;exact⟨_,results_tmp rfl _ _ _,v,bV,rfl,du,Z1.kept (grownBy_putObj_a _ _ _) (ownsRow_ne_a Z1 HX (λoZ e=>by first|cases e|exact hne (Obj.cells.inj e).2.1)),iW,EU.grown (grownBy_putObj_a _ _ _) EU.size (λk e=>by cases e;omega)⟩
set_option maxHeartbeats 1000000 in
theorem awn (bm:Fence)(n:Nat)(Ia:bm.fn 205)(RV:bm.fn 261)(mr:bm.round=none)(aH:3<=n)(g:Nat)(qy:Array Value)(RW:bm.fn g)(B1:∀args w,(callFunc g args).run prog w= .ok (.enter g args) w)
 (Rd:List Value->Prop) (cs:Nat) (fS:cs<=maxLen) (HV:cs*24<=140737488355328) (w:World) (vf:Qj prog 235 bm (n-1-1) g qy Rd cs w):
 CallsIn bm n prog 205 #[.func (.func g) #[] qy] w λe w'=> ∃(v:Value) (bV:List Value),e= .returned v/\Rd bV/\w'.ownsRow w.heap.size 235 2 v bV.length (uT bV)/\(v= .slice none 0 0↔bV=[])/\Below w.heap.size w w':=by
 have d:1<=n:=by omega
 have aJP:∀args w,(callFunc 261 args).run prog w= .ok (.enter 261 args) w:=enters_of func261 (by kernel_rfl) rfl;have mixed:prog.follows .mixedOrders=true:=by kernel_rfl
 have t0:=underlying0;have a0:=isAgg0;have z0:=sizeOf0;have v0:=zeroValue0;have t4:=underlying4;have a4:=isAgg4;have z4:=sizeOf4;have v4:=zeroValue4;have t23:=underlying232;have a23:=isAgg232;have z23:=sizeOf232;have v23:=zeroValue232;have t24:=underlying236;have a24:=isAgg236;have z24:=sizeOf236;have v24:=zeroValue236;have t28:=underlying239;have a28:=isAgg239;have z28:=sizeOf239;have v28:=zeroValue239;have t33:=underlying322;have a33:=isAgg322;have z33:=sizeOf322;have v33:=zeroValue322;have t26:=underlying235;have a26:=isAgg235;have z26:=sizeOf235;have v26:=zeroValue235;have HR:=run_underlying t0;have Bp:=run_underlying t4;have Rl:=run_underlying t23;have Rm:=run_underlying t33;have Rn:=run_underlying t24;have Ro:=run_underlying t28;have Rp:=run_underlying t26;refine callsIn_of_wp func205 rfl Ia ?_ mr;simp only[ntmps205,aMG,aK8,aLQ,Nat.reduceAdd,Nat.reduceSub,aQa,aQb,aQc,aQd,aLV,aLx]
 gi_wp2_with (gi_at_fn 261;refine (awm bm (n-1) RV mr (by omega) g qy RW B1 Rd cs fS HV _ vf).mono ?_;rintro e w' ⟨v,bV,rfl,du,hrow,iW,af⟩)
 go_ret
 exact⟨v,bV,rfl,du,hrow,iW,af⟩
def qJ (k:cv):Value:= .agg #[.int .i64 k.B,.string k.n]
theorem Me {a b:cv}(h:qJ a=qJ b):a=b:=by
 cases a;cases b;unfold qJ at h;simp only[Value.agg.injEq,Array.mk.injEq,aO4,Value.int.injEq,Value.string.injEq,aMh,aMi] at h;obtain⟨rfl,rfl⟩:=h;rfl
def Ak (Y:List cv):List F:=Y.map λk=> .agg (aJ.J k)
theorem Z2 {C:bD}:∀{Y:List cv} {vs:List Value},aE C (Ak Y) vs->vs=Y.map qJ
 | [],vs,h=>by simpa[Ak,aE] using h
 |k::Y,vs,h=>by
  unfold Ak at h;rw[aKP,aE] at h;obtain⟨v,bS,rfl,an,N⟩:=h;simp only[Rep] at an;obtain⟨ap,rfl,eK⟩:=an;rw[LP,aE] at eK;obtain⟨aMp,aKO,bF,d,eK⟩:=eK;rw[aE] at eK;obtain⟨rU,cY,rfl,G,eK⟩:=eK;rw[aE] at eK;subst eK;simp only[Rep] at d G;subst d;subst G;rw[aKP,<-Z2 (Y:=Y) N];congr 1;unfold qJ;congr 1;exact aM7.1 bF
theorem Z3:∀(l:List cv),uT (l.map qJ)=(l.map fp).flatten
 | []=>rfl
 |k::l=>by
  have ih:=Z3 l;unfold uT at *;rw[aKP,aMR,aKP,aLS,ih];rfl
instance:uR cv:=⟨λ_=>rfl⟩
theorem awo {r:List Z}{a b:Nat}{aW:TypeId}{ents:List (F×F)}{Y:List cv}(aC:r[a]? =some (.be (.map true [.int .i64,.str] ents)))(af:r[b]? =some (.ag aW 1 [[.bE a]]))(O:ents.map (·.1)=Ak Y)(ss:Y.Nodup)
 (ki:∀x∈Y,(Lit.int .i64 x.B).wf=true/\x.n.size<=maxLen) (cK:Y.length<=1000000):
 aO prog 205 [.fn 207 [.bd b 1 0 0]] r
  (λv rs=> ∃l:List cv,l.Perm Y/\v= .own r.length l.length 0 l.length/\rs=r++[.ag 235 2 (ai l)]):=by
 refine aO.asQ (λh=>h) ?_;intro C dA N aA hG dv;have iV:C.r[a]? =some (.be (.map true [.int .i64,.str] ents)):=by rw[N];exact aC
 have jS:C.r[b]? =some (.ag aW 1 [[.bE a]]):=by rw[N];exact af
 rw[aE] at dv;obtain⟨v0,bS,rfl,an,aH⟩:=dv;rw[aE] at aH;subst aH;rw[Rep] at an;obtain⟨vs,rfl,kU⟩:=an;rw[aE] at kU;obtain⟨RX,bS,Cz,ak,aH⟩:=kU;rw[aE] at aH;subst aH;rw[Rep] at ak;obtain⟨hC,_,_,hall⟩:=ak;obtain⟨_,G⟩:=hall _ _ _ jS;obtain⟨_,Bm,J,rl,rfl⟩:=G rfl;obtain rfl:vs= #[.pointer (some ⟨Bm,0,none⟩)]:=by
  apply aM7.1;rw[Cz]
 rcases aA.ag jS with ⟨_,qo⟩|⟨aKU,cap,ap,iK,zG,nE,eK,vK,eA,dp⟩
 ·cases qo
 rw[rl] at iK;simp only[aLj,aLH] at iK;obtain⟨rfl,rfl⟩:=iK;rw[dh,dC] at dp;obtain⟨⟨RY,nw,_,kD⟩,_⟩:=dp.2.1;rw[Rep] at kD;obtain⟨_,_,_,kD⟩:=kD;obtain⟨b0,c0,CA,rfl⟩:=kD _ iV;have mr:=aA.r _ _ iV;rw[dQ] at mr;obtain⟨RZ,R0,ar,qK,R1,lZ,sb,xq,Gh,Gi⟩:=mr;rw[CA] at qK;simp only[aLj,aLH] at qK;obtain⟨rfl,rfl⟩:=qK;have gO:ar.toList.map (·.key)=Y.map qJ:=Z2 (by rw[<-O];exact xq);have dJ:ar.size=Y.length:=by
  have:=aKI List.length gO;simpa using this
 let aF:Value->Option (DataW Unit×List MemPlace):=λ_=>some (.nil,[])
 have tP:∀x∈ar.toList,∃k,x.key=qJ k/\k∈Y/\Go.WideElems.rd prog 235 aF x=some (.string (keyBytes [.int .i64 k.B,.string k.n.data.toList]),.nil):=by
  intro x aj;have:x.key∈Y.map qJ:=by rw[<-gO];exact aM2 aj
  obtain⟨k,ba,sD⟩:=aKZ.1 this;refine⟨k,sD.symm,ba,?_⟩;unfold Go.WideElems.rd;rw[<-sD];unfold qJ;rw[Ic (ki k ba).1 (ki k ba).2];rfl
 have uA:Go.WideElems.Fit prog 235 aF ar ar.size:=by
  refine⟨by rw[dJ];unfold maxLen;omega,⟨λx aj=> ?_,?_,?_⟩,λx aj=> ?_⟩
  ·obtain⟨c,av,rfl⟩:=aL9 aj;have:=sb c _ (by rw[<-aLJ,aKS av]);rw[this];simpa using av
  ·have:ar.toList.map (·.born)=List.range ar.size:=by
    refine aLT λc=> ?_
    by_cases av:c<ar.size
    ·rw[aLG,aLJ,aLN av,aMU av];simp[sb c _ (aLN av)]
    ·rw[aLB (by simp;omega),aLB (by simp;omega)]
   rw[this];exact aM8
  ·rw[gO];exact aMB.2 (ss.imp λh e=>h (Me e))
  ·obtain⟨k,_,_,h⟩:=tP x aj;exact⟨_,h⟩
 let el:=ar.toList.map (Go.WideElems.rg prog 235 aF)
 let aD:DataW Unit:= .map (el.foldr DataW.insert [])
 have pK:C.w.ownsMap prog 235 aF b0 ar.size aD:=⟨ar,ar.size,lZ,uA,aKM _,rfl⟩;have R2: (el.foldr DataW.insert []).Perm el:=Go.WideShapes.sorted_perm el;have fS:Maps.size aD=Y.length:=by
  show (el.foldr DataW.insert []).length=_;rw[R2.length_eq,aLe,aLE,dJ]
 have Z4:∀k:cv,(Lit.int .i64 k.B).wf=true->k.n.size<=maxLen->(has aD (.string (keyBytes [.int .i64 k.B,.string k.n.data.toList]))=true↔k∈Y):=by
  intro k jG jH;rw[show has aD _=(el.foldr DataW.insert []).any (λp=>p.1.sameKey (.string (keyBytes [.int .i64 k.B,.string k.n.data.toList]))) from has_eq _ _,aNp];constructor
  ·rintro⟨p,ak,ao⟩;have hT:=R2.mem_iff.1 ak;obtain⟨x,aj,rfl⟩:=aKZ.1 hT;obtain⟨br,d,G,au⟩:=tP x aj;rw[Go.WideElems.rg_of au] at ao;have:=WideAt.sameKey_eq ao;have e:=Rq.inj (Ic (ki br G).1 (ki br G).2) (this▸Ic jG jH);rw[<-Me e];exact G
  ·intro gj;have:qJ k∈ar.toList.map (·.key):=by rw[gO];exact aM2 gj
   obtain⟨x,aj,he⟩:=aKZ.1 this;refine⟨Go.WideElems.rg prog 235 aF x,R2.mem_iff.2 (aM2 aj),?_⟩;obtain⟨br,d,G,au⟩:=tP x aj;rw[Go.WideElems.rg_of au];have e:br=k:=Me (d.symm.trans he);subst e;exact WideAt.sameKey_self (Rq.key (Ic jG jH))
 have vf:=avy (H:=Unit) (aF:=aF) Fence.wide 1 trivial rfl (by omega) Bm b0 ar.size aD C.w (aLp.1 nE).1 nw pK;have CB:=awn Fence.wide 3 trivial trivial rfl (by omega) 207 #[.pointer (some ⟨Bm,0,none⟩)] trivial
  (enters_of func207 (by kernel_rfl) rfl) _ (Maps.size aD) (by rw[fS];unfold maxLen;omega) (by rw[fS];omega) C.w vf
 refine (callsIn_wide.1 CB).mono ?_;rintro e w' ⟨v,bV,rfl,du,hrow,iW,nK⟩;have CC:∃l:List cv,bV=l.map qJ/\l.Perm Y:=by
  have hall:∀x∈bV,∃k,x=qJ k/\k∈Y:=λx aj=>by
   obtain⟨lt,d,G,_⟩:=(du.2 x).1 aj;obtain⟨B,n,rfl,jG,jH,rfl⟩:=Rs x lt d;exact⟨⟨B,n⟩,rfl,(Z4 ⟨B,n⟩ jG jH).1 G⟩
  obtain⟨l,hl,hw⟩:=P1 (f:=qJ) (bh:=(·∈Y)) bV hall;refine⟨l,hl,?_⟩;have oa:l.Nodup:=by
   have Id:=du.1;rw[hl] at Id;exact (aMB.1 Id).imp λh e=>h (by rw[e])
  rw[aOC oa ss];intro k;refine⟨hw k,λgj=> ?_⟩;have:=(du.2 (qJ k)).2 ⟨_,Ic (ki k gj).1 (ki k gj).2,(Z4 k (ki k gj).1 (ki k gj).2).2 gj,rfl⟩;rw[hl] at this;obtain⟨br,d,G⟩:=aKZ.1 this;rw[<-Me G];exact d
 obtain⟨l,rfl,kV⟩:=CC;refine⟨v,235,2,ai l,(l.map fp).flatten,rfl,nK,?_,Xe l,l,kV,by rw[bT],by rw[<-N]⟩;rw[bT,<-Z3];simpa using hrow
open Go.Sort (SWO)
def azc:Go.Shelf.Ren:=
 {f:=λx=>match x with|6=>206|15=>158|14=>262|28=>241|29=>242|20=>325|21=>326|22=>327|23=>328|24=>329|25=>330|26=>331|27=>332|46=>354|47=>290|48=>291|49=>355|50=>356|57=>367|n=>n,
  t:=λx=>match x with|22=>236|24=>235|25=>242|3=>3|39=>284|0=>0|53=>347|55=>349|4=>4|46=>341|45=>340|50=>206|5=>5|9=>9|66=>376|70=>380|76=>412|77=>308|n=>n,
  g:=λn=>n}
set_option maxRecDepth 100000 in
theorem azd:SlLaysF0.n6 prog azc where
 mixed:=by kernel_rfl
 f6:=⟨"slices.SortFunc[[]payroll/timesheet.key,payroll/timesheet.key]",by decide,aKL func206 (aKI some (by kernel_rfl))⟩
 f14:=⟨"slices.pdqsortCmpFunc[payroll/timesheet.key]",by decide,aKL func262 (aKI some (by kernel_rfl))⟩
 f15:=aKL func158 (aKI some (by kernel_rfl))
 f20:=⟨"slices.insertionSortCmpFunc[payroll/timesheet.key]",by decide,aKL func325 (aKI some (by kernel_rfl))⟩
 f21:=⟨"slices.heapSortCmpFunc[payroll/timesheet.key]",by decide,aKL func326 (aKI some (by kernel_rfl))⟩
 f22:=⟨"slices.breakPatternsCmpFunc[payroll/timesheet.key]",by decide,aKL func327 (aKI some (by kernel_rfl))⟩
 f23:=⟨"slices.choosePivotCmpFunc[payroll/timesheet.key]",by decide,aKL func328 (aKI some (by kernel_rfl))⟩
 f24:=⟨"slices.reverseRangeCmpFunc[payroll/timesheet.key]",by decide,aKL func329 (aKI some (by kernel_rfl))⟩
 f25:=⟨"slices.partialInsertionSortCmpFunc[payroll/timesheet.key]",by decide,aKL func330 (aKI some (by kernel_rfl))⟩
 f26:=⟨"slices.partitionEqualCmpFunc[payroll/timesheet.key]",by decide,aKL func331 (aKI some (by kernel_rfl))⟩
 f27:=⟨"slices.partitionCmpFunc[payroll/timesheet.key]",by decide,aKL func332 (aKI some (by kernel_rfl))⟩
 f28:=aKL func241 (aKI some (by kernel_rfl))
 f29:=aKL func242 (aKI some (by kernel_rfl))
 f46:=⟨"slices.siftDownCmpFunc[payroll/timesheet.key]",by decide,aKL func354 (aKI some (by kernel_rfl))⟩
 f47:=aKL func290 (aKI some (by kernel_rfl))
 f48:=aKL func291 (aKI some (by kernel_rfl))
 f49:=⟨"slices.medianAdjacentCmpFunc[payroll/timesheet.key]",by decide,aKL func355 (aKI some (by kernel_rfl))⟩
 f50:=⟨"slices.medianCmpFunc[payroll/timesheet.key]",by decide,aKL func356 (aKI some (by kernel_rfl))⟩
 f57:=⟨"slices.order2CmpFunc[payroll/timesheet.key]",by decide,aKL func367 (aKI some (by kernel_rfl))⟩
 t0:=underlying0
 a0:=isAgg0
 z0:=sizeOf0
 v0:=zeroValue0
 t3:=underlying3
 a3:=isAgg3
 z3:=sizeOf3
 v3:=zeroValue3
 t4:=underlying4
 a4:=isAgg4
 z4:=sizeOf4
 v4:=zeroValue4
 t5:=underlying5
 a5:=isAgg5
 z5:=sizeOf5
 v5:=zeroValue5
 t9:=underlying9
 a9:=isAgg9
 z9:=sizeOf9
 v9:=zeroValue9
 t22:=underlying236
 a22:=isAgg236
 z22:=sizeOf236
 v22:=zeroValue236
 t25:=underlying242
 a25:=isAgg242
 z25:=sizeOf242
 v25:=zeroValue242
 t39:=underlying284
 a39:=isAgg284
 z39:=sizeOf284
 v39:=zeroValue284
 t45:=underlying340
 a45:=isAgg340
 z45:=sizeOf340
 v45:=zeroValue340
 t46:=underlying341
 a46:=isAgg341
 z46:=sizeOf341
 v46:=zeroValue341
 t50:=underlying206
 a50:=isAgg206
 z50:=sizeOf206
 v50:=zeroValue206
 t53:=underlying347
 a53:=isAgg347
 z53:=sizeOf347
 v53:=zeroValue347
 t55:=underlying349
 a55:=isAgg349
 z55:=sizeOf349
 v55:=zeroValue349
 t66:=underlying376
 a66:=isAgg376
 z66:=sizeOf376
 v66:=zeroValue376
 t70:=underlying380
 a70:=isAgg380
 z70:=sizeOf380
 v70:=zeroValue380
 t76:=underlying412
 a76:=isAgg412
 z76:=sizeOf412
 v76:=zeroValue412
 t77:=underlying308
 a77:=isAgg308
 z77:=sizeOf308
 v77:=zeroValue308
theorem ID {bj:Type}{tx:bj->bj->Int}{aF:bj->bj->Prop}(h:∀a b,tx a b<0↔aF a b)(d:∀a,¬aF a a)(G:∀a b J,aF a b->aF b J->aF a J)(au:∀a b J,¬aF a b-> ¬aF b J-> ¬aF a J):SWO (ltOf tx):=by
 refine⟨λx=> ?_,λx y M=> ?_,λx y M=> ?_⟩<;>simp only[ltOf,aKN,aLX,h]
 ·exact d x
 ·exact G x y M
 ·exact au x y M
theorem aze:SWO (ltOf If):=by
 refine ID (aF:=pN) (λa b=>aah) (λa=> ?_) (λa b J=> ?_) (λa b J=> ?_)<;>unfold pN
 ·rintro (h|⟨_,h⟩)
  ·omega
  ·exact Ie _ h
 ·rintro (h|⟨e,h⟩) (k|⟨cO,k⟩)
  ·exact .inl (by omega)
  ·exact .inl (by omega)
  ·exact .inl (by omega)
  ·exact .inr ⟨by omega,Z8 h k⟩
 ·intro h k tt;rcases tt with tt|⟨e,tt⟩
  ·have d:¬a.B<b.B:=λe=>h (.inl e);have G:¬b.B<J.B:=λe=>k (.inl e);omega
  ·have d:¬a.B<b.B:=λe=>h (.inl e);have G:¬b.B<J.B:=λe=>k (.inl e);have bF:a.B=b.B:=by omega
   have bK:b.B=J.B:=by omega
   have au:¬a.n.toList<b.n.toList:=λe=>h (.inr ⟨bF,e⟩);have bv:¬b.n.toList<J.n.toList:=λe=>k (.inr ⟨bK,e⟩);rcases Mh au with gX|gX
   ·rw[gX] at tt;exact bv tt
   ·exact bv (Z8 gX tt)
theorem ayV (l:List cv)(hl:l.length<4611686018427387904):aO prog 206 [.own 0 l.length 0 l.length,.fn 122 []] [.ag 235 2 (ai l)]
 (λv rs=>v= .bo []/\ ∃cb:List cv,cb.Perm l/\cb.Pairwise (λx y=> ¬pN y x)/\rs=[.ag 235 2 (ai cb)]):=by
 refine aO.Hg inferInstance ?_;refine @aO.mono (dE.aD inferInstance) _ _ _ _ _ _ (@aO.G5 (dE.aD inferInstance) trivial cv _ _ _ _ _ _ _ 235 azd rfl isAgg235 sizeOf235 If aze (@awv (dE.aD inferInstance)) (enters_of func122 (by kernel_rfl) rfl) l hl) ?_;rintro v rs ⟨rfl,cb,d,G,rfl⟩;exact⟨rfl,cb,d,G.imp λh e=>h (aah.2 e),rfl⟩
theorem Mp {a b:ByteArray}(h:a.toList=b.toList):a=b:=by
 have e:∀x:ByteArray,x.toList=x.data.toList:=λx=>ByteArray.toList_eq x;rw[e,e] at h;cases a;cases b;congr 1;exact aM7.1 h
theorem ayU {a b:cv}(h:¬pN a b)(hne:a≠b):pN b a:=by
 unfold pN at *;rcases Int.lt_trichotomy a.B b.B with d|d|d
 ·exact absurd (.inl d) h
 ·by_cases G:a.n.toList<b.n.toList
  ·exact absurd (.inr ⟨d,G⟩) h
  ·rcases Mh G with au|au
   ·refine absurd ?_ hne;cases a;cases b;simp only at d au;rw[d,Mp au]
   ·exact .inr ⟨d.symm,au⟩
 ·exact .inl d
theorem HF {r:List Z}{x:Z}(h:jP r)(aj:jc (r.length+1) x=true):jP (r++[x]):=EV h (by simpa using aj)
theorem Zf {r:List Z}{a b:Nat}{aW:TypeId}{ents:List (F×F)}{Y:List cv}(N:jP r)(aC:r[a]? =some (.be (.map true [.int .i64,.str] ents)))(af:r[b]? =some (.ag aW 1 [[.bE a]]))(O:ents.map (·.1)=Ak Y)(ss:Y.Nodup)
 (ki:∀x∈Y,(Lit.int .i64 x.B).wf=true/\x.n.size<=maxLen) (cK:Y.length<=1000000):
 aO prog 120 [.fn 207 [.bd b 1 0 0],.fn 122 []] r
  (λv rs=> ∃l:List cv,l.Perm Y/\l.Pairwise pN/\v= .own r.length l.length 0 l.length/\rs=r++[.ag 235 2 (ai l)]):=by
 refine cu func120 acg (by simp[MP,SQ]) ?_;have nK:b<r.length:=(aLy.1 af).1;simp only[go_sem,MP,SQ];refine uV N (by simp[gx,dt,nK]) (awo aC af O ss ki cK) ?_;rintro _ _ ⟨l,hl,rfl,rfl⟩;refine⟨by simp,?_⟩;simp only[go_sem];refine om [r.length] [] (by simp) (by simp only[go_sem,dH]<;>rfl) (by simp only[go_sem]<;>rfl) (ayV l (by rw[hl.length_eq];omega)) ?_;rintro _ _ ⟨rfl,cb,d,G,rfl⟩;refine⟨.inl rfl,?_⟩;simp only[go_sem,ec];have aH:cb.Nodup:=(d.trans hl).nodup_iff.2 ss;refine i ⟨cb,d.trans hl,?_,by rw[d.length_eq];rfl,rfl⟩;exact (G.and aH).imp λh=>ayU h.1 (λe=>h.2 e.symm)
def hP (f:cv->Int)(Y:List cv):List (F×F):=Y.map λk=>(.agg (aJ.J k),.int .i64 (f k))
theorem abt {a b:cv}:a=b↔a.B=b.B/\a.n.toList=b.n.toList:=
 ⟨λe=>by rw[e];exact⟨rfl,rfl⟩,fun⟨d,G⟩=>by cases a;cases b;simp only at d G;rw[d,Mp G]⟩
instance:DecidableEq cv:=λa b=>decidable_of_iff _ (abt (a:=a) (b:=b)).symm
theorem Sq (a b:cv):fB (.agg (aJ.J a)) (.agg (aJ.J b))=decide (a=b):=by
 simp only[fB,cp,LP,ed,aK0];rw[aL0];simp only[aKJ,aLu,aKN];exact abt.symm
def pa (k:cv)(Y:List cv):List cv:=if k∈Y then Y else Y++[k]
theorem ET {k x:cv}{Y:List cv}:x∈pa k Y↔x=k\/x∈Y:=by
 unfold pa;split
 ·constructor
  ·exact .inr
  ·rintro (rfl|h)
   ·assumption
   ·exact h
 ·rw[aK3,aK2];exact Or.comm
theorem Y3 {k:cv}{Y:List cv}(h:Y.Nodup): (pa k Y).Nodup:=by
 unfold pa;split
 ·exact h
 ·rename_i O;rw[aNP];exact⟨h,by simp,λa aC b af=>by rw[aK2] at af;subst af;exact λe=>O (e▸aC)⟩
theorem auW {k:cv}{Y:List cv}: (pa k Y).length<=Y.length+1:=by
 unfold pa;split
 ·omega
 ·simp
theorem Q2 {f:cv->Int}{k:cv}:∀{l:List cv},dm (.agg (aJ.J k)) (hP f l)=if k∈l then some (.int .i64 (f k)) else none
 | []=>by simp[hP,dm]
 |p::l=>by
  have ih:=Q2 (f:=f) (k:=k) (l:=l);unfold hP at *;rw[aKP,dm];simp only[Sq,aKN]
  by_cases O:k=p
  ·subst O;simp
  ·rw[S O,ih];simp only[aKV,O,aMX]
theorem Za {f g:cv->Int}{k:cv}(vj:∀x,x≠k->f x=g x):∀{l:List cv},l.Nodup->dy (.agg (aJ.J k)) (.int .i64 (g k)) (hP f l)=hP g (pa k l)
 | [],_=>by simp[hP,dy,pa]
 |p::l,hl=>by
  rw[aNv] at hl;have ih:=Za vj hl.2;unfold hP pa at *;rw[aKP,dy];simp only[Sq,aKN]
  by_cases O:k=p
  ·subst O;simp;exact λa aC=>vj a (λe=>hl.1 (e▸aC))
  ·simp only[O,aLi,ih,aKV,aMX];split<;>simp[vj p (λe=>O e.symm)]
def lO (k:cv):List cv->Nat
 | []=>0
 |p::l=>if k=p then 0 else lO k l+1
theorem Y9 {f:cv->Int}{k:cv}:∀{l:List cv},(gB (.agg (aJ.J k)) (hP f l)).getD (hP f l).length=lO k l
 | []=>rfl
 |p::l=>by
  have ih:=Y9 (f:=f) (k:=k) (l:=l);unfold hP at *;rw[aKP,gB];simp only[Sq,aKN,lO]
  by_cases O:k=p
  ·simp[O]
  ·rw[S O,S O,<-ih,aK8];cases gB (.agg (aJ.J k)) (List.map (λk=>(F.agg (aJ.J k),F.int IntKind.i64 (f k))) l)<;>simp
theorem Q3 {k:cv}:∀{l:List cv},k∈l->lO k l<l.length
 | [],h=>by simp at h
 |p::l,h=>by
  rw[lO];split
  ·simp
  ·rename_i O;have:=Q3 (k:=k) (l:=l) (by rcases aKV.1 h with e|e;(·exact absurd e O);exact e);simp;omega
theorem Y8 {k:cv}:∀{l:List cv},lO k l=lO k (pa k l)
 | []=>by simp[pa,lO]
 |p::l=>by
  have ih:=Y8 (k:=k) (l:=l);unfold pa at *
  by_cases O:k=p
  ·subst O;simp[lO]
  ·simp only[aKV,O,aMX]
   by_cases hm:k∈l
   ·rw[Rc hm]
   ·rw[S hm] at ih ⊢;rw[aLx,lO,lO,S O,S O,ih]
theorem abu {k:cv}:∀{l:List cv},k∈l->l[lO k l]? =some k
 | [],h=>by simp at h
 |p::l,h=>by
  rw[lO];split
  ·rename_i e;simp[e]
  ·rename_i O;simpa using abu (k:=k) (l:=l) (by rcases aKV.1 h with e|e;(·exact absurd e O);exact e)
theorem auY {f:cv->Int}{k:cv}{v:Int}{l:List cv}(aH:l.Nodup)(O:k∈l){M:F×F}:
 (hP f l).set (lO k l) (((hP f l).getD (lO k l) M).1,.int .i64 v)=hP (λx=>if x=k then v else f x) l:=by
 have aw:=abu O;have aI:=Q3 O;refine aLT λc=> ?_;rw[aKQ];unfold hP;rw[aLn,aLG,aLG,aw];simp only[aML,aMW,aLe]
 by_cases av:lO k l=c
 ·subst av;rw[Rc rfl,Rc aI,aLG,aw];simp
 ·rw[S av,aLG];cases h:l[c]? with
  |none=>rfl
  |some x=>
   have aj:x≠k:=λe=>by
    subst e;refine av ?_;obtain⟨d,bF⟩:=aLy.1 h;obtain⟨G,bK⟩:=aLy.1 aw;exact (aPT aH).1 (bK.trans bF.symm)
   simp[aj]
theorem avd {f:cv->Int}{l:List cv}: (hP f l).map (·.1)=Ak l:=by unfold hP Ak;simp
theorem auX {f:cv->Int}{l:List cv}: (hP f l).length=l.length:=by unfold hP;simp
theorem LN {n:Nat}{f:cv->Int}:∀{l:List cv},nG n (hP f l)=true
 | []=>rfl
 |B::l=>by
  show (dt n (.agg (aJ.J B))&&dt n (.int .i64 (f B))&&nG n (hP f l))=true;rw[LN];rfl
theorem aO.rZ {f g:FuncId}{aW:TypeId}(h:∀(oy:Nat) (w:World),Calls prog f #[.map (some oy)] w λe w'=>e= .returned (.func (.func g) #[] #[.pointer (some ⟨w.heap.size,0,none⟩)])/\w'=w.alloc (.cells #[.map (some oy)] aW)){r:List Z}{a:Nat}:
 aO prog f [.bE a] r (λv rs=>v= .fn g [.bd r.length 1 0 0]/\rs=r++[.ag aW 1 [[.bE a]]]):=by
 intro C dA N aA hG dv;rw[aE] at dv;obtain⟨v0,bS,rfl,an,aH⟩:=dv;rw[aE] at aH;subst aH;have df:=an;rw[Rep] at an;obtain⟨hC,⟨oy,rfl⟩,_,_⟩:=an;refine (h oy C.w).mono ?_;rintro e w' ⟨rfl,rfl⟩;obtain⟨bO,cd⟩:=DJ df (rfl: (cp (.bE a)).all Abs.cV=true);have ak:=Bf aA aW 1 1 #[.map (some oy)] [[.bE a]] [.map (some oy)] (C.w.alloc (.cells #[.map (some oy)] aW)) ⟨rfl,rfl,rfl,rfl⟩ (by simp) (by simp[maxLen]) (by simp) (DX rfl bO cd) rfl;refine⟨_,.fn g [.bd r.length 1 0 0],_,rfl,rfl,?_,ak.1,by rw[<-N];exact ak.2,rfl,by rw[N]⟩;rw[Rep];refine⟨_,rfl,?_⟩;rw[aE];refine⟨_,[],rfl,?_,by rw[aE]⟩;have d:=Ln (r:=C.r) (bu:=C.bu) (bY:=C.bY) (w:=C.w.alloc (.cells #[.map (some oy)] aW)) (e:=aW) (U:=1) (b:=C.w.heap.size) (cap:=1) (cells:=[.bE a]) aA.dw;rw[aA.bZ,<-N];exact d
theorem Ze {r:List Z}{a:Nat}:aO prog 121 [.bE a] r
 (λv rs=>v= .fn 207 [.bd r.length 1 0 0]/\rs=r++[.ag 232 1 [[.bE a]]]):=by
 refine aO.rZ λoy w=> ?_
 go_enter func121,ntmps121
 go_wp2
 go_ret
 exact⟨rfl,rfl⟩
theorem aaZ {r:List Z}{a:Nat}:aO prog 48 [.bE a] r
 (λv rs=>v= .fn 128 [.bd r.length 1 0 0]/\rs=r++[.ag 116 1 [[.bE a]]]):=by
 refine aO.rZ λoy w=> ?_
 go_enter func48,ntmps48
 go_wp2
 go_ret
 exact⟨rfl,rfl⟩
def MD:List (F×F)->Option (List Int)
 | []=>some []
 | (.int .i64 n,_)::l=>match MD l with|some jJ=>some (n::jJ)|none=>none
 |_::_=>none
theorem ME:∀{l:List (F×F)} {jJ:List Int},MD l=some jJ->l.map (·.1)=jJ.map (F.int .i64 ·)
 | [],jJ,h=>by cases h;rfl
 |p::l,jJ,h=>by
  unfold MD at h;split at h
  ·cases ‹_::_=[]›
  ·rename_i n v cb nx;cases nx;split at h
   ·rename_i lk zo;cases h;rw[aKP,ME zo];rfl
   ·cases h
  ·cases h
def CM (x:Int):List Int->List Int
 | []=> [x]
 |y::ys=>if x<=y then x::y::ys else y::CM x ys
def Iu:List Int->List Int
 | []=> []
 |x::aq=>CM x (Iu aq)
theorem Sz (x:Int):∀l:List Int,(CM x l).Perm (x::l)
 | []=>aNK _
 |y::ys=>by
  rw[CM];split
  ·exact aNK _
  ·exact ((Sz x ys).cons y).trans (List.Perm.swap x y ys)
theorem abK:∀l:List Int,(Iu l).Perm l
 | []=>aNK _
 |x::aq=>(Sz x (Iu aq)).trans ((abK aq).cons x)
theorem abL (x:Int):∀l:List Int,l.Pairwise (·<= ·)->(CM x l).Pairwise (·<= ·)
 | [],_=>by simp[CM]
 |y::ys,h=>by
  rw[aLD] at h;rw[CM];split
  ·rename_i Fd;rw[aLD,aLD];exact⟨λM ba=>by rcases aKV.1 ba with rfl|ba;(·exact Fd);exact aP8 Fd (h.1 M ba),h⟩
  ·rename_i Fd;rw[aLD];refine⟨λM ba=> ?_,abL x ys h.2⟩;rcases aKV.1 ((Sz x ys).mem_iff.1 ba) with rfl|ba
   ·omega
   ·exact h.1 M ba
theorem abM:∀l:List Int,(Iu l).Pairwise (·<= ·)
 | []=>List.Pairwise.nil
 |x::aq=>abL x _ (abM aq)
theorem abk {l cb:List Int}(ak:cb.Perm l)(ao:cb.Pairwise (·<= ·)):fq l=cb:=by
 have d: (fq l).Pairwise (·<= ·):=by
  unfold fq;have:=aOz (le:=λx y:Int=>decide (x<=y)) (λa b J d G=>by simp only[aKN] at *;omega) (λa b=>by simp;omega) l;exact this.imp λh=>by simpa using h
 have G: (fq l).Perm cb:=by
  unfold fq;exact (aN7 l _).trans ak.symm
 exact G.eq_of_pairwise (λa b _ _ d G=>Int.le_antisymm d G) d ao
def abN (n:Int):Bool:=(Lit.int .i64 n).wf
def MF:List Int->Bool
 | []=>true
 |x::aq=> !aq.contains x&&MF aq
theorem MG:∀{l:List Int},MF l=true->l.Nodup
 | [],_=>aMQ
 |x::aq,h=>by
  simp only[MF,aKJ,aMH,aOq,aLX] at h;exact aNv.2 ⟨h.1,MG h.2⟩
def SA (args:List F)(r:List Z):Option (F×List Z):=
 match args with
 | [.fn g [.bd b 1 0 0]]=>
  match r[b]? with
  |some (.ag _ 1 [[.bE a]])=>
   match r[a]? with
   |some (.be (.map false [.int .i64] ents))=>
    match MD ents with
    |some Y=>if (g=128\/g=168\/g=204)/\MF Y=true/\Y.all abN=true/\Y.length<=1000000 then some (.pure 1 (cJ .i64 (Iu Y)),r) else none
    |none=>none
   |_=>none
  |_=>none
 |_=>none
theorem axT (args:List F)(r:List Z)(v:F)(rs:List Z)(h:SA args r=some (v,rs)):aO prog 47 args r λgA hs=>gA=v/\hs=rs:=by
 unfold SA at h;split at h
 ·rename_i g b;split at h
  ·rename_i aW a af;split at h
   ·rename_i ents aC;split at h
    ·rename_i Y mg;split at h
     ·rename_i ad;simp only[aLj,aLH] at h;obtain⟨rfl,rfl⟩:=h;obtain⟨aw,d,G,au⟩:=ad;have aP:∀x∈Y,(Lit.int .i64 x).wf=true:=λx aj=>aLW.1 G x aj;rw[<-abk (abK Y) (abM Y)];rcases aw with rfl|rfl|rfl
      ·exact aba aC af (ME mg) (MG d) aP au
      ·exact axy aC af (ME mg) (MG d) aP au
      ·exact YW aC af (ME mg) (MG d) aP au
     ·cases h
    ·cases h
   ·cases h
  ·cases h
 ·cases h
structure nb where
 n:ByteArray
 m:Int
instance:aJ nb:=⟨λa=> [.str a.n,.int .i64 a.m],2,λ_=>rfl,λ_=>rfl,λ_=>rfl⟩
theorem ayG:aJ.U nb=2:=rfl
theorem ayH (e:nb):List.take 2 (aJ.J e)=aJ.J e:=rfl
attribute [go_sem] ayG ayH
def gr (ef:ByteArray)(cN:Int):List nb->List nb
 | []=> [⟨ef,cN⟩]
 |x::t=>if x.n.toList<ef.toList then x::gr ef cN t else if x.n=ef then ⟨ef,x.m+cN⟩::t else ⟨ef,cN⟩::x::t
def hn (a:eH):cv:=⟨a.ah,a.name⟩
def su (ae:List cw)(a:eH):Int:=if a.min= -1 then Ck ae a.ah else a.min
def gJ (bk:Int)(l:List eH):List cv:=l.foldl (λY a=>if a.bk=bk then pa (hn a) Y else Y) []
def eb (ae:List cw)(bk:Int)(l:List eH)(k:cv):Int:=(l.map λa=>if a.bk=bk/\hn a=k then su ae a else 0).sum
def Cl (a:eH):Prop:= -1<=a.min/\a.min<=1440
theorem LM {bk:Int}{l:List eH}{c:Nat}(av:c<l.length):gJ bk (l.take (c+1))=if l[c].bk=bk then pa (hn l[c]) (gJ bk (l.take c)) else gJ bk (l.take c):=by
 unfold gJ;rw[aLz av,aMc];rfl
theorem Y2 (bk:Int)(l:List eH): (gJ bk l).Nodup:=by
 have:∀(l:List eH) (Y:List cv),Y.Nodup->(l.foldl (λY a=>if a.bk=bk then pa (hn a) Y else Y) Y).Nodup:=by
  intro l
  induction l with
  |nil=>intro Y h;exact h
  |cons a l ih=>
   intro Y h;rw[aMb];refine ih _ ?_;split
   ·exact Y3 h
   ·exact h
 exact this l [] aMQ
theorem QZ {bk:Int}{l:List eH}{k:cv}:k∈gJ bk l↔ ∃a∈l,a.bk=bk/\hn a=k:=by
 have:∀(l:List eH) (Y:List cv),k∈l.foldl (λY a=>if a.bk=bk then pa (hn a) Y else Y) Y↔k∈Y\/ ∃a∈l,a.bk=bk/\hn a=k:=by
  intro l
  induction l with
  |nil=>simp
  |cons a l ih=>
   intro Y;rw[aMb,ih];constructor
   ·rintro (h|⟨b,af,h⟩)
    ·split at h
     ·rename_i he;rcases ET.1 h with rfl|h
      ·exact .inr ⟨a,aLa,he,rfl⟩
      ·exact .inl h
     ·exact .inl h
    ·exact .inr ⟨b,aK1 _ af,h⟩
   ·rintro (h|⟨b,af,he,h⟩)
    ·left
     split
     ·exact ET.2 (.inr h)
     ·exact h
    ·rcases aKV.1 af with rfl|af
     ·left;rw[Rc he];exact ET.2 (.inl h.symm)
     ·exact .inr ⟨b,af,he,h⟩
 have:=this l [];simpa[gJ] using this
theorem Q0 (bk:Int)(l:List eH): (gJ bk l).length<=l.length:=by
 have:∀(l:List eH) (Y:List cv),(l.foldl (λY a=>if a.bk=bk then pa (hn a) Y else Y) Y).length<=Y.length+l.length:=by
  intro l
  induction l with
  |nil=>simp
  |cons a l ih=>
   intro Y;rw[aMb];refine aLk (ih _) ?_;rw[aK8];split
   ·have:=auW (k:=hn a) (Y:=Y);omega
   ·omega
 simpa[gJ] using this l []
theorem Y4 {ae:List cw}{a:eH}(h:Cl a):0<=su ae a/\su ae a<=1474560:=by
 have:=auT ae a.ah;unfold su Cl at *;split<;>omega
theorem Y5 {ae:List cw}{bk:Int}{k:cv}:∀{l:List eH},(∀a∈l,Cl a)->0<=eb ae bk l k/\eb ae bk l k<=1474560*l.length
 | [],_=>by simp[eb]
 |a::l,h=>by
  have ih:=Y5 (ae:=ae) (bk:=bk) (k:=k) (l:=l) λb af=>h b (aK1 _ af);have d:=Y4 (ae:=ae) (h a aLa);unfold eb at *;rw[aKP,aMf,aK8];split<;>omega
theorem HD {ae:List cw}{bk:Int}{k:cv}{l:List eH}{c:Nat}(av:c<l.length):eb ae bk (l.take (c+1)) k=eb ae bk (l.take c) k+if l[c].bk=bk/\hn l[c]=k then su ae l[c] else 0:=by
 unfold eb;exact YX (λa=>if a.bk=bk/\hn a=k then su ae a else 0) av
theorem Y6 {ae:List cw}{bk:Int}{k:cv}{l:List eH}(h:k∉gJ bk l):eb ae bk l k=0:=by
 have:∀l:List eH,(∀a∈l,¬(a.bk=bk/\hn a=k))->(l.map λa=>if a.bk=bk/\hn a=k then su ae a else 0).sum=0:=by
  intro l
  induction l with
  |nil=>simp
  |cons a l ih=>
   intro h;rw[aKP,aMf,S (h a aLa),ih λb af=>h b (aK1 _ af)];rfl
 exact this l λa aC ad=>h (QZ.2 ⟨a,aC,ad.1,ad.2⟩)
def sw (ae:List cw)(bk:Int)(l:List eH):Z:= .be (.map true [.int .i64,.str] (hP (eb ae bk l) (gJ bk l)))
theorem Q1 {n:Nat}{ae:List cw}{bk:Int}{l:List eH}:jc n (sw ae bk l)=true:=LN
theorem Y7 {ae:List cw}{bk:Int}{l:List eH}{c:Nat}(av:c<l.length)(he:l[c].bk=bk)(aA:∀a∈l,Cl a)(hl:l.length<=100000){v:Int}(an:v=su ae l[c]):
 (dm (.agg [.int .i64 l[c].ah,.str l[c].name]) (hP (eb ae bk (l.take c)) (gJ bk (l.take c)))).getD (.int .i64 0)= .int .i64 (eb ae bk (l.take c) (hn l[c]))/\
 dy (.agg [.int .i64 l[c].ah,.str l[c].name]) (.int .i64 (eb ae bk (l.take c) (hn l[c]))) (hP (eb ae bk (l.take c)) (gJ bk (l.take c)))=hP (eb ae bk (l.take c)) (gJ bk (l.take (c+1)))/\
 (gB (.agg [.int .i64 l[c].ah,.str l[c].name]) (hP (eb ae bk (l.take c)) (gJ bk (l.take c)))).getD (hP (eb ae bk (l.take c)) (gJ bk (l.take c))).length=lO (hn l[c]) (gJ bk (l.take c))/\
 lO (hn l[c]) (gJ bk (l.take c))<(hP (eb ae bk (l.take c)) (gJ bk (l.take (c+1)))).length/\
 IntKind.i64.wrap (eb ae bk (l.take c) (hn l[c])+v)=eb ae bk (l.take (c+1)) (hn l[c])/\
 ∀M,(hP (eb ae bk (l.take c)) (gJ bk (l.take (c+1)))).set (lO (hn l[c]) (gJ bk (l.take c))) (((hP (eb ae bk (l.take c)) (gJ bk (l.take (c+1)))).getD (lO (hn l[c]) (gJ bk (l.take c))) M).1,.int .i64 (eb ae bk (l.take (c+1)) (hn l[c])))=hP (eb ae bk (l.take (c+1))) (gJ bk (l.take (c+1))):=by
 have O:F.agg [.int .i64 l[c].ah,.str l[c].name]= .agg (aJ.J (hn l[c])):=rfl;have aH:=Y2 bk (l.take c);have mg:=LM (bk:=bk) av;rw[Rc he] at mg;have iG:lO (hn l[c]) (gJ bk (l.take c))=lO (hn l[c]) (gJ bk (l.take (c+1))):=by rw[mg];exact Y8
 have hm:hn l[c]∈gJ bk (l.take (c+1)):=by rw[mg];exact ET.2 (.inl rfl)
 have cn:=HD (ae:=ae) (bk:=bk) (k:=hn l[c]) av;rw[Rc ⟨he,rfl⟩] at cn;have af:=Y5 (ae:=ae) (bk:=bk) (k:=hn l[c]) (l:=l.take c) λa aC=>aA a (aMl aC);have rX:=Y4 (ae:=ae) (aA _ (aLc av));have EU: (l.take c).length<=100000:=by simp;omega
 rw[O];refine⟨?_,?_,Y9,?_,?_,λM=> ?_⟩
 ·rw[Q2];split
  ·rfl
  ·rename_i ql;rw[Y6 ql];rfl
 ·rw[Za (f:=eb ae bk (l.take c)) (g:=eb ae bk (l.take c)) (λ_ _=>rfl) aH,mg]
 ·rw[iG,auX];exact Q3 hm
 ·rw[bl,cn,an]
 ·rw[iG,auY (by rw[mg];exact Y3 aH) hm];unfold hP;refine aMy λx _=> ?_;show (F.agg (aJ.J x),F.int .i64 (if x=hn l[c] then _ else _))=_
  by_cases e:x=hn l[c]
  ·rw[Rc e,e]
  ·rw[S e,HD av,S (λh=>e h.2.symm),aN8]
theorem auZ {ae:List cw}{bk:Int}{l:List eH}{c:Nat}(av:c<l.length)(he:l[c].bk≠bk):sw ae bk (l.take (c+1))=sw ae bk (l.take c):=by
 unfold sw;rw[LM av,S he];have:eb ae bk (l.take (c+1))=eb ae bk (l.take c):=funext λk=>by rw[HD av,S (λh=>he h.1),aN8]
 rw[this]
theorem Zb {f:cv->Int}{Y:List cv}:zD true [.int .i64,.str] (hP f Y):=by
 intro p ak;obtain⟨k,_,rfl⟩:=aKZ.1 ak;exact⟨rfl,rfl,trivial⟩
def wz (Rd:cv->Int)(R ab:Int)(bw:List Int×(Int->Bool->List (List F)))(k:cv):List Int×(Int->Bool->List (List F)):=
 if 0<Rd k/\R<=k.B/\k.B<=ab then (ek k.B bw.1,gR bw.2 k.B false [.str k.n,.int .i64 (Rd k)]) else bw
def sx (Rd:cv->Int)(R ab:Int)(Y:List Int)(bf:Int->Bool->List (List F))(aY:List cv):List Int×(Int->Bool->List (List F)):=aY.foldl (wz Rd R ab) (Y,bf)
theorem ava {Rd:cv->Int}{R ab:Int}{Y:List Int}{bf:Int->Bool->List (List F)}{aY:List cv}{c:Nat}(av:c<aY.length):sx Rd R ab Y bf (aY.take (c+1))=wz Rd R ab (sx Rd R ab Y bf (aY.take c)) aY[c]:=by
 unfold sx;rw[aLz av,aMc];rfl
theorem avb {Rd:cv->Int}{R ab:Int}{Y:List Int}{bf:Int->Bool->List (List F)}{n:Nat}(hV:∀B k,(bf B k).length<=n):∀(aY:List cv) (B:Int) (k:Bool),((sx Rd R ab Y bf aY).2 B k).length<=n+aY.length:=by
 have:∀(aY:List cv) (bw:List Int×(Int->Bool->List (List F))) (n:Nat),(∀B k,(bw.2 B k).length<=n)-> ∀B k,((aY.foldl (wz Rd R ab) bw).2 B k).length<=n+aY.length:=by
  intro aY
  induction aY with
  |nil=>intro bw n h B k;exact h B k
  |cons x aY ih=>
   intro bw n h B k;rw[aMb];refine aLk (ih _ (n+1) (λB k=> ?_) B k) (by rw[aK8];omega);unfold wz;split
   ·show (gR bw.2 x.B false _ B k).length<=n+1;unfold gR;split
    ·rename_i e;have:=h x.B false;rw[aKK];simp;omega
    ·have:=h B k;omega
   ·have:=h B k;omega
 intro aY B k;exact this aY (Y,bf) n hV B k
set_option maxHeartbeats 2000000 in
theorem avc {r:List Z}{I m:Nat}{R ab:Int}{Y:List Int}{bf:Int->Bool->List (List F)}(h0:hQ r I m R ab Y bf)(cU:∀B k,(bf B k).length<=100000)(ae:List cw)(gy:ae.length<=1000000)(l:List eH)(hl:l.length<=100000)(aA:∀a∈l,Cl a/\(Lit.int .i64 a.ah).wf=true/\a.name.size<=maxLen)(bk:Int):
 aO prog 45 [.bd I 1 0 0,.pure 3 (ai ae),.pure 4 (ai l),.int .i64 bk] r
  (λv W=>v= .bo []/\gf r W m/\ ∃aY:List cv,aY.Perm (gJ bk l)/\aY.Pairwise pN/\hQ W I m R ab (sx (eb ae bk l) R ab Y bf aY).1 (sx (eb ae bk l) R ab Y bf aY).2):=by
 obtain⟨X,h⟩:=h0;have hall:=h.all;have fF:=km h.I;have zh:=km h.m;refine cu func45 Zc (by simp[a45,wA]) ?_;simp only[go_sem,a45,wA,bT];refine dN (λD ca=> ∃c:Nat,c<=l.length/\D=[(0,.bd I 1 0 0),(1,.pure 3 (ai ae)),(3,.int .i64 bk),(8,.bE r.length),(16,.pure 4 (ai l)),(17,.int .i64 l.length),(18,.int .i64 c)]/\ca=r++[sw ae bk (l.take c)])
  (λD _=>match bs D 18 with| .int _ j=>(l.length-j).toNat|_=>0) ?_ ?_
 ·exact i ⟨0,by omega,rfl,rfl⟩
 ·rintro D ca ⟨c,av,rfl,rfl⟩;have aP:=dB (c:=c) (by omega)
  by_cases aI:c<l.length
  ·have d: (c:Int)<l.length:=by omega
   have h0: (0:Int)<=c:=by omega
   have aw: (ai l).getD c []=[.int .i64 l[c].bk,.int .i64 l[c].ah,.str l[c].name,.int .i64 l[c].min]:=by rw[cT aI,QV]
   have HE:∀{t:List Z} {K:aQ->List Z->Prop} {x:Z},jc (r.length+1) x=true->E r.length K [(0,.bd I 1 0 0),(1,.pure 3 (ai ae)),(3,.int .i64 bk),(8,.bE r.length),(16,.pure 4 (ai l)),(17,.int .i64 l.length),(18,.int .i64 ((c+1:Nat):Int))] (r++[x])->
    E r.length K [(0,.bd I 1 0 0),(1,.pure 3 (ai ae)),(3,.int .i64 bk),(8,.bE r.length),(16,.pure 4 (ai l)),(17,.int .i64 l.length),(18,.int .i64 ((c+1:Nat):Int))] (r++x::t):=λ{t K x} aj ad=>by
    have:=E.drop (t:=t) (by simp) (HF hall aj) (by simp[Ez,dt];omega) ad;simpa using this
   by_cases J:l[c].bk=bk
   ·by_cases c1:l[c].min= -1
    ·have cn:=Y7 (ae:=ae) aI J (λa aC=>(aA a aC).1) hl (v:=Ck ae l[c].ah) (by unfold su;rw[Rc c1]);obtain⟨bF,bK,gX,rt,Q4,Q5⟩:=cn;have HC: (l[c].min== -1)=true:=aLu.2 c1;simp only[go_sem,a45,wA,sw,h0,d,aw,bT,aKX,J,aMm,HC,aKT,dO,dH,ee,ec,aKK,aP]
     (refine rv (auU ae gy l[c].ah) ?_;rintro _ _ ⟨rfl,rfl⟩;simp only[go_sem])
     simp only[go_sem,aKT,dO,dH,ee,ec,aKK,aP,bF,bK,gX,Q4,Zb,aLY];refine⟨by omega,by omega,?_⟩;rw[Q5];refine HE LN (i ⟨⟨c+1,by omega,rfl,rfl⟩,?_⟩);simp only[go_sem];omega
    ·have cn:=Y7 (ae:=ae) aI J (λa aC=>(aA a aC).1) hl (v:=l[c].min) (by unfold su;rw[S c1]);obtain⟨bF,bK,gX,rt,Q4,Q5⟩:=cn;have HC: (l[c].min== -1)=false:=aLO.2 c1;simp only[go_sem,a45,wA,sw,h0,d,aw,bT,aKX,J,aMm,HC,aKT,dO,dH,ee,ec,aKK,aP,bF,bK,gX,Q4,Zb];refine⟨by omega,by omega,?_⟩;rw[Q5];refine HE LN (i ⟨⟨c+1,by omega,rfl,rfl⟩,?_⟩);simp only[go_sem];omega
   ·have dR: (l[c].bk != bk)=true:=aNo.2 J;simp only[go_sem,a45,wA,h0,d,aw,bT,aKX,dR,aKT,dO,dH,ee,ec,aKK,aP];rw[<-auZ aI J];refine HE Q1 (i ⟨⟨c+1,by omega,rfl,rfl⟩,?_⟩);simp only[go_sem];omega
  ·have d:¬(c:Int)<l.length:=by omega
   obtain rfl:c=l.length:=by omega
   simp only[go_sem,a45,wA,d,aLb];have Zd:=HF hall (Q1 (n:=r.length+1) (ae:=ae) (bk:=bk) (l:=l));refine uV Zd (by simp[gx,dt]) Ze ?_;rintro _ _ ⟨rfl,rfl⟩;refine⟨by simp,?_⟩;simp only[go_sem,aKT,aKK];have yj:jP (r++[sw ae bk l,.ag 232 1 [[.bE r.length]]]):=by
    have:=HF (x:= .ag 232 1 [[.bE r.length]]) Zd (by simp[jc,mj,gx,dt];omega);simpa using this
   refine uV yj (by simp[gx,dt]) (Zf (a:=r.length) (b:=r.length+1) (ents:=hP (eb ae bk l) (gJ bk l)) yj (by rw[dH];rfl) (by rw[dO];rfl) avd (Y2 bk l)
    (λx aj=> ?_) (aLk (Q0 bk l) (by omega))) ?_
   ·obtain⟨a,aC,_,rfl⟩:=QZ.1 aj;exact (aA a aC).2
   rintro _ _ ⟨aY,wB,HG,rfl,rfl⟩;refine⟨by simp,?_⟩;simp only[go_sem,aKT,aKK];have mg:∀x∈aY,(Lit.int .i64 x.B).wf=true/\x.n.size<=maxLen:=λx aj=>by
    obtain⟨a,aC,_,rfl⟩:=QZ.1 (wB.mem_iff.1 aj);exact (aA a aC).2
   have Zg:aY.length<=100000:=by rw[wB.length_eq];exact aLk (Q0 bk l) hl
   obtain⟨HH,HI⟩:∃z,r++[sw ae bk l,.ag 232 1 [[.bE r.length]],.ag 235 2 (ai aY)]=z:=⟨_,rfl⟩;rw[HI];have va:hQ HH I m R ab Y bf:=by
    rw[<-HI];refine⟨X,h.ext ?_⟩;simp only[aKV,aNf,aNt,aN9,aOa];refine⟨Q1,?_,kA ck⟩;simp[jc,mj,gx,dt]
   have Q6:gf r HH m:=by rw[<-HI];exact gf.mh
   have oK:HH[r.length]? =some (sw ae bk l):=by rw[<-HI,dH];rfl
   have Cm:HH[r.length+2]? =some (.ag 235 2 (ai aY)):=by rw[<-HI,dO];rfl
   refine dN (λD W=> ∃c:Nat,c<=aY.length/\D=[(0,.bd I 1 0 0),(8,.bE r.length),(49,.own (r.length+2) aY.length 0 aY.length),(50,.int .i64 aY.length),(51,.int .i64 c)]/\gf HH W m/\hQ W I m R ab (sx (eb ae bk l) R ab Y bf (aY.take c)).1 (sx (eb ae bk l) R ab Y bf (aY.take c)).2)
    (λD _=>match bs D 51 with| .int _ j=>(aY.length-j).toNat|_=>0) ?_ ?_
   ·exact i ⟨0,by omega,rfl,gf.refl,va⟩
   ·rintro D W ⟨c,av,rfl,hF,dc⟩;have aP:=dB (c:=c) (by omega);have HJ:W[r.length]? =some (sw ae bk l):=hF.2 _ _ oK (by omega) (λk am e=>by unfold sw at e;cases e);have LO:W[r.length+2]? =some (.ag 235 2 (ai aY)):=hF.2 _ _ Cm (by omega) (λk am e=>by
     simp only[Z.ag.injEq] at e;cases k<;>exact absurd e.1 (by decide))
    by_cases aI:c<aY.length
    ·have d: (c:Int)<aY.length:=by omega
     have h0: (0:Int)<=c:=by omega
     have aw: (ai aY).getD c []=[.int .i64 aY[c].B,.str aY[c].n]:=by rw[cT aI,LP]
     have QB:aY[c]∈gJ bk l:=wB.mem_iff.1 (aLc aI);have hw: (dm (.agg [.int .i64 aY[c].B,.str aY[c].n]) (hP (eb ae bk l) (gJ bk l))).getD (.int .i64 0)= .int .i64 (eb ae bk l aY[c]):=by
      rw[show F.agg [.int .i64 aY[c].B,.str aY[c].n]= .agg (aJ.J aY[c]) from rfl,Q2,Rc QB];rfl
     unfold sw at HJ;have wC:∀t:Z,jc (W.length+1) t=true->hQ (W++[t]) I m R ab (sx (eb ae bk l) R ab Y bf (aY.take c)).1 (sx (eb ae bk l) R ab Y bf (aY.take c)).2:=λt ht=>by
      obtain⟨yk,yl⟩:=dc;exact⟨yk,yl.ext (by simpa using ht)⟩
     have nF:=ava (Rd:=eb ae bk l) (R:=R) (ab:=ab) (Y:=Y) (bf:=bf) aI
     by_cases ak:0<eb ae bk l aY[c]
     ·simp only[go_sem,a45,wA,h0,d,aw,bT,aKX,aKT,HJ,LO,bQ HJ,bQ LO,dO,dH,ee,ec,aKK,aP,hw,ak];have Q7:=wC (.ag 235 2 [[.int .i64 aY[c].B,.str aY[c].n]]) (kA rfl);have cK:=avb (Rd:=eb ae bk l) (R:=R) (ab:=ab) (Y:=Y) cU (aY.take c);have Aa: (aY.take c).length<=100000:=by simp;omega
      refine aty (λ_ _ _ _ h=>by cases h) Q7.choose_spec.all (by
       have au:=km Q7.choose_spec.I;simp only[gx,dt,au,aNx,aK0]) (Q8 Q7 (λB k=>aLk (cK B k) (by omega)) aY[c].B aY[c].n (eb ae bk l aY[c])) ?_
      rintro _ W' ⟨rfl,pO,jt⟩;refine⟨pO.1,?_⟩;simp only[go_sem,aP];refine i ⟨⟨c+1,by omega,rfl,hF.trans (gf.mh.trans pO),?_⟩,?_⟩
      ·rw[nF];unfold wz
       by_cases N:R<=aY[c].B/\aY[c].B<=ab
       ·rw[Rc N] at jt;rw[Rc ⟨ak,N⟩];exact jt
       ·rw[S N] at jt;rw[S (λh=>N h.2)];exact jt
      ·simp only[go_sem];omega
     ·simp only[go_sem,a45,wA,h0,d,aw,bT,aKX,aKT,HJ,LO,bQ HJ,bQ LO,dO,dH,ee,ec,aKK,aP,hw,ak];refine i ⟨⟨c+1,by omega,rfl,hF.trans gf.mh,?_⟩,?_⟩
      ·rw[nF];unfold wz;rw[S (λh=>ak h.1)];exact wC _ (kA rfl)
      ·simp only[go_sem];omega
    ·have d:¬(c:Int)<aY.length:=by omega
     obtain rfl:c=aY.length:=by omega
     rw[aLb] at dc;simp only[go_sem,a45,wA,d];exact i ⟨rfl,Q6.trans hF,aY,wB,HG,dc⟩
def nP (ae:List cw)(bk ah:Int)(l:List eH):List nb:=l.foldl (λRd a=>if a.bk=bk/\a.ah=ah then gr a.name (su ae a) Rd else Rd) []
theorem aap {ae:List cw}{bk ah:Int}{l:List eH}{c:Nat}(av:c<l.length):nP ae bk ah (l.take (c+1))=if l[c].bk=bk/\l[c].ah=ah then gr l[c].name (su ae l[c]) (nP ae bk ah (l.take c)) else nP ae bk ah (l.take c):=by
 unfold nP;rw[aLz av,aMc];rfl
theorem abo (ef:ByteArray)(cN:Int):∀l:List nb,(gr ef cN l).length<=l.length+1
 | []=>by simp[gr]
 |y::t=>by
  have:=abo ef cN t;unfold gr;split
  ·simp;omega
  ·split<;>simp
def An (l:List nb):List nb:=l.filter λx=>decide (0<x.m)
structure kn where
 t:Int
 k:Int
instance:aJ kn:=⟨λa=> [.int .i64 a.t,.int .i64 a.k],2,λ_=>rfl,λ_=>rfl,λ_=>rfl⟩
structure CK where
 ah:Int
 eg:List nb
 jR:List kn
instance:aJ CK:=⟨λa=> [.int .i64 a.ah,.pure 2 (ai a.eg),.pure 2 (ai a.jR)],3,λ_=>rfl,λa=>by simp only[bU,bJ,ck,aK4,aK0,aLw],λ_=>rfl⟩
theorem ayD:aJ.U CK=3:=rfl
theorem ayE (e:CK):List.take 3 (aJ.J e)=aJ.J e:=rfl
attribute [go_sem] ayD ayE
def E9 (l:List eH)(R ab:Int):Int:=if 1024<l.length then 3 else if R<0\/84005<R\/ab<0\/84005<ab then 2 else if ab<R then 1 else 0
def pk (bf:Int->Bool->List (List F))(B:Int)(k:Bool):F:=if (bf B k).length=0 then .bH else .pure 2 (bf B k)
def Ar (bf:Int->Bool->List (List F))(B:Int):F:= .agg [.int .i64 B,pk bf B false,pk bf B true]
theorem axs {W:List Z}{I m:Nat}{R ab:Int}{Y:List Int}{bf:Int->Bool->List (List F)}{X:Int->Bool->Nat}(h:rz W I m R ab Y bf X)(B:Int)(k:Bool):
 bW W [some I,some m] (List.range W.length) (hy X bf B k)=pk bf B k:=by
 unfold hy pk;split
 ·rfl
 ·rename_i an;have hne:bf B k≠ []:=λe=>an (by rw[e];rfl);have aj:=h.x B k hne;have d:X B k≠I:=λe=>by
   have:=h.I;rw[<-e,aj] at this;simp only[aLj,Z.ag.injEq] at this;have:=this.2.1;omega
  have G:X B k≠m:=λe=>by have:=h.m;rw[<-e,aj] at this;cases this
  refine qx ?_ ?_ aj rfl (h.fX B k)
  ·simp[hE,d.symm,G.symm]
  ·simp;exact km aj
theorem axd {W:List Z}{I m:Nat}{R ab:Int}{Y:List Int}{bf:Int->Bool->List (List F)}{X:Int->Bool->Nat}(h:rz W I m R ab Y bf X):
 eC W (List.range W.length) [some I,some m] [some I,some m]=some [.ag 118 3 [[.int .i64 R,.int .i64 ab,.bE 1]],.be (.map false [.int .i64] (de (Ar bf) Y))]:=by
 have zo:I≠m:=λe=>by have d:=h.I;rw[e,h.m] at d;cases d
 have af:bW W [some I,some m] (List.range W.length) (.bE m)= .bE 1:=by
  simp[bW,hE,zo]
 have ay:∀B,bW W [some I,some m] (List.range W.length) (nI X bf B)=Ar bf B:=λB=>by
  unfold nI Ar;rw[bW];simp only[dT,axs h];rfl
 simp only[eC,h.I,h.m];congr 1;have jS:hr W [some I,some m] (List.range W.length) (.ag 118 3 [[.int .i64 R,.int .i64 ab,.bE m]])= .ag 118 3 [[.int .i64 R,.int .i64 ab,.bE 1]]:=by
  simp only[hr,lJ,aKP,aLC,dT,af];rfl
 have HW:hr W [some I,some m] (List.range W.length) (.be (.map false [.int .i64] (de (nI X bf) Y)))= .be (.map false [.int .i64] (de (Ar bf) Y)):=by
  simp only[hr,de,aLr];congr 2;refine aMy λB _=> ?_;simp only[aMZ,ay];rfl
 rw[jS,HW]
def pU (bf:Int->Bool->List (List F))(B:Int):List F:=[.int .i64 B,pk bf B false,pk bf B true]
theorem abc {bf:Int->Bool->List (List F)}{B:Int}{k:Bool}:Abs.cV (pk bf B k)=true:=by
 unfold pk;split<;>rfl
theorem abd {bf:Int->Bool->List (List F)}(h:∀B k,dY (bf B k)=true){B:Int}{k:Bool}:bJ (pk bf B k)=true:=by
 unfold pk;split
 ·rfl
 ·simp only[bJ,h]
theorem Sp {bf:Int->Bool->List (List F)}(h:∀B k,dY (bf B k)=true):∀{fj:List Int},dY (fj.map (pU bf))=true
 | []=>rfl
 |B::fj=>by
  rw[aKP,dY,Sp h (fj:=fj)];simp only[pU,bU,abd h,bJ,aK4]
def CF (Rd:cv->Int)(B:Int)(aY:List cv):List nb:=(aY.filter λk=>decide (k.B=B/\0<Rd k)).map λk=>⟨k.n,Rd k⟩
theorem aak (a b:ByteArray):a.toList<b.toList\/a.toList=b.toList\/b.toList<a.toList:=by
 by_cases d:a.toList<b.toList
 ·exact .inl d
 ·by_cases G:b.toList<a.toList
  ·exact .inr (.inr G)
  ·exact .inr (.inl (aQg (aPi.1 G) (aPi.1 d)))
def tT (a b:nb):Prop:=a.n.toList<b.n.toList
theorem Sg {ef Ih:ByteArray}{cN:Int}:∀{t:List nb},Ih∈(gr ef cN t).map (·.n)↔Ih=ef\/Ih∈t.map (·.n)
 | []=>by simp[gr]
 |x::t=>by
  have ih:=Sg (ef:=ef) (Ih:=Ih) (cN:=cN) (t:=t);unfold gr;split
  ·simp only[aKP,aKV,ih];exact or_left_comm
  ·split
   ·rename_i e;simp only[aKP,aKV,<-e];exact or_self_left.symm
   ·simp only[aKP,aKV]
theorem aal {ef:ByteArray}{cN:Int}:∀{t:List nb},t.Pairwise tT->(gr ef cN t).Pairwise tT
 | [],_=>by simp[gr]
 |x::t,h=>by
  rw[aLD] at h;unfold gr;split
  ·rename_i aj;rw[aLD];refine⟨λy bt=> ?_,aal h.2⟩;rcases Sg.1 (aM2 (f:=(·.n)) bt) with e|bt
   ·unfold tT;rw[e];exact aj
   ·obtain⟨M,ba,e⟩:=aKZ.1 bt;have:=h.1 M ba;unfold tT at *;rw[<-e];exact this
  ·split
   ·rename_i e;rw[aLD];exact⟨λy bt=>by have:=h.1 y bt;unfold tT at *;rw[<-e];exact this,h.2⟩
   ·rename_i d G;have au:ef.toList<x.n.toList:=by
     rcases aak ef x.n with h|h|h
     ·exact h
     ·exact absurd (Mp h.symm) G
     ·exact absurd h d
    rw[aLD,aLD];refine⟨λy bt=> ?_,h⟩;rcases aKV.1 bt with rfl|bt
    ·exact au
    ·exact aPj au (h.1 y bt)
theorem aam {ef:ByteArray}{cN:Int}{bm:ByteArray->Int}:∀{t:List nb},t.Pairwise tT->(∀x∈t,x.m=bm x.n)->(ef∉t.map (·.n)->bm ef=0)-> ∀x∈gr ef cN t,x.m=bm x.n+if x.n=ef then cN else 0
 | [],_,_,h0,x,aj=>by
  rw[gr,aK2] at aj;subst aj;have:=h0 (by simp);simp[this]
 |y::t,h,hF,h0,x,aj=>by
  rw[aLD] at h;have CG:∀{a:ByteArray},¬a.toList<a.toList:=λ{a}=>aQh _;unfold gr at aj;split at aj
  ·rename_i bt;have aan:y.n≠ef:=λe=>by rw[e] at bt;exact CG bt
   rcases aKV.1 aj with rfl|aj
   ·rw[S aan,hF _ aLa];omega
   ·refine aam h.2 (λM ba=>hF M (aK1 _ ba)) (λaH=>h0 ?_) x aj;rw[aKP,aKV];rintro (e|e)
    ·exact aan e.symm
    ·exact aH e
  ·split at aj
   ·rename_i tU e;have aI:∀M∈t,M.n≠ef:=λM ba bK=>by have:=h.1 M ba;unfold tT at this;rw[e,bK] at this;exact CG this
    rcases aKV.1 aj with rfl|aj
    ·simp only[aK5];rw[<-e,hF _ aLa]
    ·rw[S (aI x aj),hF x (aK1 _ aj)];omega
   ·rename_i d G;have au:ef.toList<y.n.toList:=by
     rcases aak ef y.n with h|h|h
     ·exact h
     ·exact absurd (Mp h.symm) G
     ·exact absurd h d
    have kx:∀M∈y::t,M.n≠ef:=λM ba e=>by
     rcases aKV.1 ba with rfl|ba
     ·exact G e
     ·have:=aPj au (h.1 M ba);rw[e] at this;exact CG this
    rcases aKV.1 aj with rfl|aj
    ·simp only[aK5];have:=h0 (λhm=>by obtain⟨M,ba,e⟩:=aKZ.1 hm;exact kx M ba e);omega
    ·rw[S (kx x aj),hF x aj];omega
theorem aao {ae:List cw}{bk B:Int}{l:List eH}:∀{c:Nat},c<=l.length->
 (nP ae bk B (l.take c)).Pairwise tT/\(∀ef,ef∈(nP ae bk B (l.take c)).map (·.n)↔(⟨B,ef⟩:cv)∈gJ bk (l.take c))/\ ∀x∈nP ae bk B (l.take c),x.m=eb ae bk (l.take c) ⟨B,x.n⟩
 |0,_=>by simp[nP,gJ]
 |c+1,av=>by
  have aI:c<l.length:=by omega
  obtain⟨d,G,au⟩:=aao (ae:=ae) (bk:=bk) (B:=B) (l:=l) (c:=c) (by omega);rw[aap aI]
  by_cases J:l[c].bk=bk/\l[c].ah=B
  ·rw[Rc J];refine⟨aal d,λef=> ?_,λx aj=> ?_⟩
   ·rw[Sg,G,LM aI,Rc J.1,ET];have: (⟨B,ef⟩:cv)=hn l[c]↔ef=l[c].name:=by
     unfold hn;rw[cv.mk.injEq,J.2];simp
    rw[this]
   ·have:=aam (bm:=λef=>eb ae bk (l.take c) ⟨B,ef⟩) d au (λaH=>Y6 (λO=>aH ((G _).2 O))) x aj;rw[this,HD aI];congr 1;have e: (l[c].bk=bk/\hn l[c]=⟨B,x.n⟩)↔x.n=l[c].name:=by
     unfold hn;rw[cv.mk.injEq];constructor
     ·rintro⟨_,_,h⟩;exact h.symm
     ·intro h;exact⟨J.1,J.2,h.symm⟩
    by_cases aj:x.n=l[c].name
    ·rw[Rc aj,Rc (e.2 aj)]
    ·rw[S aj,S λh=>aj (e.1 h)]
  ·rw[S J];refine⟨d,λef=> ?_,λx aj=> ?_⟩
   ·rw[G,LM aI]
    by_cases he:l[c].bk=bk
    ·rw[Rc he,ET];constructor
     ·exact .inr
     ·rintro (h|h)
      ·exact absurd ⟨he,by rw[hn,cv.mk.injEq] at h;exact h.1.symm⟩ J
      ·exact h
    ·rw[S he]
   ·rw[au x aj,HD aI,S,aN8];rintro⟨he,O⟩;rw[hn,cv.mk.injEq] at O;exact J ⟨he,O.1⟩
theorem awE {ae:List cw}{bk B:Int}{l:List eH}{aY:List cv}(hL:aY.Perm (gJ bk l))(ao:aY.Pairwise pN):An (nP ae bk B l)=CF (eb ae bk l) B aY:=by
 have h:=aao (ae:=ae) (bk:=bk) (B:=B) (l:=l) (c:=l.length) (aKM _);rw[aLb] at h;obtain⟨d,G,au⟩:=h;have aK6: (An (nP ae bk B l)).Pairwise tT:=d.filter _;have iT: (CF (eb ae bk l) B aY).Pairwise tT:=by
  unfold CF;rw[aMB];refine (ao.filter _).imp_of_mem λ{a b} aC af pv=> ?_;have uC:=(aNg.1 aC).2;have jX:=(aNg.1 af).2;simp only[aKN] at uC jX;unfold pN at pv;unfold tT;rcases pv with h|h
  ·omega
  ·exact h.2
 have CG:∀a:nb,¬tT a a:=λa=>aQh _;have cg:∀x,x∈An (nP ae bk B l)↔x∈CF (eb ae bk l) B aY:=λx=>by
  unfold An CF;simp only[aNg,aKZ,aKN];constructor
  ·rintro⟨aj,ak⟩;have O:=(G x.n).1 (aM2 aj);have hm:=au x aj;exact⟨⟨B,x.n⟩,⟨hL.mem_iff.2 O,rfl,by rw[<-hm];exact ak⟩,by rw[<-hm]⟩
  ·rintro⟨k,⟨O,rfl,ak⟩,rfl⟩;have gj:=hL.mem_iff.1 O;obtain⟨y,bt,e⟩:=aKZ.1 ((G k.n).2 gj);have hm:=au y bt;have:y=⟨k.n,eb ae bk l k⟩:=by
    cases y;simp only at e hm;subst e;rw[hm]
   rw[<-this];exact⟨bt,by rw[this];exact ak⟩
 have aMq: (An (nP ae bk B l)).Nodup:=by
  refine aK6.imp ?_;intro a b h e;subst e;exact CG a h
 have eo: (CF (eb ae bk l) B aY).Nodup:=by
  refine iT.imp ?_;intro a b h e;subst e;exact CG a h
 refine ((aOC aMq eo).2 cg).eq_of_pairwise (λa b _ _ d G=>absurd (aPj d G) (CG a)) aK6 iT
theorem aaq {C:bD}{b:Nat}:∀{x y:List F} {V:Nat},hK x y->dC C b V x->dC C b V y
 | [],[],_,_,h=>h
 | [],_::_,_,h,_=>by simp[hK] at h
 |_::_,[],_,h,_=>by simp[hK] at h
 |a::x,J::y,V,h,N=>by
  rw[hK] at h;rw[dC] at N ⊢;obtain⟨⟨v,d,G,au⟩,bv⟩:=N;exact⟨⟨v,d,G,W3 _ _ _ h.1 au⟩,aaq h.2 bv⟩
theorem aar:∀{x y:List F},hK x y->x.length=y.length
 | [],[],_=>rfl
 | [],_::_,h=>by simp[hK] at h
 |_::_,[],h=>by simp[hK] at h
 |_::x,_::y,h=>by rw[hK] at h;simp[aar h.2]
theorem aas {C:bD}{b U:Nat}{f g:Int->List F}:∀{ds:List Int} {V:Nat},(∀B∈ds,hK (f B) (g B))->dh C b V U (ds.map f)->dh C b V U (ds.map g)
 | [],_,_,h=>h
 |B::ds,V,h,N=>by
  rw[aKP,dh] at N ⊢;have ay:=h B aLa;exact⟨by rw[<-aar ay];exact N.1,aaq ay N.2.1,aas (λx aj=>h x (aK1 _ aj)) N.2.2⟩
theorem awF {C:bD}{U:Nat}{f g:Int->List F}{ds:List Int}{v:Value}(h:∀B∈ds,hK (f B) (g B))(N:Rep C (.pure U (ds.map f)) v):Rep C (.pure U (ds.map g)) v:=by
 rw[Rep] at N ⊢;obtain⟨cy,cap,d,G,au⟩:=N;rw[aLe] at d G au;refine⟨cy,cap,by rw[aLe];exact d,by rw[aLe];exact G,?_⟩;rw[aLe];rcases au with au|⟨b,V,bv,cx,dx⟩
 ·exact .inl au
 ·exact .inr ⟨b,V,bv,cx,aas h dx⟩
theorem aO.awN {P:Program}{f:FuncId}{args:List F}{r:List Z}{bh Gx:F->List Z->Prop}(h:aO P f args r bh)(aP:∀v rs,bh v rs-> ∃w,Gx w rs/\ ∀C x,Rep C v x->Rep C w x):aO P f args r Gx:=by
 intro C dA d G hG au;refine (h C dA d G hG au).mono ?_;rintro e w' ⟨aZ,x,aB,a,b,J,B,cO,q⟩;obtain⟨w,aV,N⟩:=aP _ _ q;exact⟨aZ,w,aB,a,b,N _ _ J,B,cO,aV⟩
end Go.Proofs.YtpincjkjoeopkaaGreatDoor
