/- Time evaluation. -/
import Derived.Test.YtpincjkjoeopkaaGreatDoorK15
import Derived.WalkKit
import Derived.KernelRfl
import Derived.Test.YtpincjkjoeopkaaGreatDoorK8
set_option linter.unusedSimpArgs false
set_option linter.unusedVariables false
set_option linter.unusedSectionVars false
namespace Go.Proofs.YtpincjkjoeopkaaGreatDoor
open Go Go.Abs Go.Maps Go.Proofs.Tryz
open Go.RowKit Go.Sort Go.Shelf
set_option maxRecDepth 100000
set_option maxHeartbeats 1000000 in
theorem atH {H:Type}(be:Fence)(n:Nat)(Qj:be.fn 207)(kD:be.round=none)(aB:1≤n)(l Bm b yS:Nat)(kR:DataW H){az:Value→Option (DataW H×List MemPlace)}(aI9:List Value→World→Prop)
 (Bj: ∀ pre x W,aI9 pre W→pre.length < Maps.size kR→(∃ kl,keyOf prog 235 x=some kl)→YieldAt be (n-1) prog l #[x] W fun e W'=>e= .returned (.bool true)∧aI9 (pre++ [x]) W'∧KeepsWalks W W')
 (W:World) (jh:AbidesFrom W.heap.size aI9) (hm:W.cell? ⟨Bm,0,none⟩=some (.map (some b))) (nB:W.ownsMap prog 235 az b yS kR) (h0:aI9 [] W):
 CallsIn be n prog 207 #[.func (.yield l) #[] #[],.pointer (some ⟨Bm,0,none⟩)] W fun e W'=>(∃ v,e= .returned v)∧ ∃ bN:List Value,wV prog 235 kR (fun _=>false) bN∧aI9 bN W':=by
 have mixed:prog.follows .mixedOrders=true:=by kernel_rfl
 have t0:=underlying0;have a0:=isAgg0;have z0:=sizeOf0;have v0:=zeroValue0;have t4:=underlying4;have a4:=isAgg4;have z4:=sizeOf4;have v4:=zeroValue4;have t23:=underlying232;have a23:=isAgg232;have z23:=sizeOf232;have v23:=zeroValue232;have t24:=underlying236;have a24:=isAgg236;have z24:=sizeOf236;have v24:=zeroValue236;have t28:=underlying239;have a28:=isAgg239;have z28:=sizeOf239;have v28:=zeroValue239;have t33:=underlying322;have a33:=isAgg322;have z33:=sizeOf322;have v33:=zeroValue322;have t26:=underlying235;have a26:=isAgg235;have z26:=sizeOf235;have v26:=zeroValue235;have Qk:=run_underlying t0;have Ak:=run_underlying t4;have Ql:=run_underlying t23;have Qm:=run_underlying t33;have Qn:=run_underlying t24;have Qo:=run_underlying t28;have Qp:=run_underlying t26;have K:=Qq;refine callsIn_of_wp func207 rfl Qj ?_ kD;simp only[ntmps207,List.size_toArray,List.length_cons,List.length_nil,Nat.reduceAdd,Nat.reduceSub,Array.replicate_succ,Array.replicate_zero,List.push_toArray,List.append_toArray,List.nil_append,List.cons_append]
 gi_wp2_with (first
  | (gi_at_range;refine wpListIn_range_own _ rfl _ 232 rfl 235 3 K t23 _ b yS _ rfl nB ?_;intro iO atI vi nR)
  |gi_in)
 go_frame
 gi_loopw [3] (fun _ wr=> ∃ (left:Lit→Bool) (GJ:Nat) (bN:List Value),wr.ranges prog 235 az b W.heap.size yS kR left GJ∧bN.length+GJ≤Maps.size kR∧wV prog 235 kR left bN∧aI9 bN wr)
  (fun _ wr=>wr.rangeLeft b W.heap.size)
 case atStart=>
  exact⟨_,_,[],atI,by simp,wV.aqX _ kR,jh [] W iO none h0 vi (fun i e=>by cases e)⟩
 case round=>
  obtain⟨left,GJ,bN,yT,es,lg,Yg⟩:=hrel
  gi_wp2_with (first
   | (gi_at_next;refine wpListIn_next_ranges _ rfl _ rfl 235 K az (fun v:Value=>v) id (fun key kl I=>⟨key,rfl⟩) (fun v _ _=>⟨v,rfl⟩) b W.heap.size yS _ _ _ rfl yT ?_ ?_)
   |gi_in)
  ·
   intro Ac oe
   gi_wp2
   go_end0
   exact⟨⟨_,rfl⟩,bN,by rw[show left=fun _=>false from funext oe] at lg;exact lg,Yg⟩
  ·
   intro x F kl aH9 aIa ju atJ GK gZ ag Pg atK aC ck uW aIb;obtain⟨o,kP,rfl,_⟩:=Qr x kl GK;have Qs:aI9 bN ju:=jh bN wr ju (some W.heap.size) Yg ck (fun i e=>by cases e;exact⟨Nat.le_refl _,yT.iter_walk⟩);have atL:aI9 bN (ju.alloc (.cells #[.int .i64 o,.string kP] 235)):=jh bN ju _ none Qs (World.grownBy_alloc ju _ none) (fun i e=>by cases e);obtain⟨fn,tmps,assign,body,bl,cU⟩:=Bj bN _ _ atL (by omega) ⟨kl,GK⟩;clear uW
   gi_wp2
   refine cU.mono ?_;rintro e sK ⟨rfl,atM,vx⟩
   gi_wp2
   have Yh:=atK.of_walks ((KeepsWalks.alloc _ _).trans vx)
   go_roundw
   case rel=>exact⟨_,atJ,bN++ [_],Yh,by simp;omega,lg.nt K GK gZ Pg,atM⟩
   case measure=>rw[Yh.left_eq,yT.left_eq];exact aC
theorem atN {H:Type}(be:Fence)(n:Nat)(Qj:be.fn 207)(kD:be.round=none)(aB:1≤n)(Bm b yS:Nat)(kR:DataW H){az:Value→Option (DataW H×List MemPlace)}(w:World)(atO:Bm < w.heap.size)
 (hm:w.cell? ⟨Bm,0,none⟩=some (.map (some b))) (nB:w.ownsMap prog 235 az b yS kR):
 Ph prog 235 be n 207 #[.pointer (some ⟨Bm,0,none⟩)] (fun bN=>wV prog 235 kR (fun _=>false) bN) (Maps.size kR) w:=fun l aI9 W hW jh Bj h0=>by
 have GL:W.ownsMap prog 235 az b yS kR:=by
  have pd:=nB.lt;obtain⟨al,Ny,Z,atP,ak,fr⟩:=nB;exact⟨al,Ny,(hW.block b pd).trans Z,atP,ak,fr⟩
 exact atH be n Qj kD aB l Bm b yS kR aI9 Bj W jh ((hW.cell (p:=⟨Bm,0,none⟩) atO).trans hm) GL h0
def Yi:Option Code→Code×Code
 |some (.seq _ (.seq (.seq _ (.block _ (.rangeFunc _ _ a b))) _))=>(a,b)
 |_=>(.skip,.skip)
def Qt: {F:Code // (Yi f261.body).1=F}:=⟨_,by conv=>lhs;whnf⟩
def Qu: {F:Code // (Yi f261.body).2=F}:=⟨_,by conv=>lhs;whnf⟩
def sL (fn:FuncId)(oi:Value)(Bs ax:Nat)(bq:LoopState)(atQ:Option Code):Loop:=
 {state:=bq,pending:=atQ,fn,tmps:= #[.slice none 0 0,oi,.pointer (some ⟨Bs,0,none⟩),undef,.slice none 0 0,undef,oi,undef,undef,undef,undef,undef,undef],params:= #[7],assign:=Qt.1,body:=Qu.1,defers:=ax}
theorem atR: (prog.info? 235).map (fun c=>(c.zero,c.size,c.bytes))=some (some (.agg #[.int .i64 0,.string ⟨#[]⟩]),2,24):=by kernel_rfl
structure Bl (iO:World) (fn:FuncId) (oi:Value) (Bs l ax:Nat) (bN:List Value) (W:World):Prop where
 box: ∃ v,W.heap[Bs]? =some (.cells #[v] 236 (0,0))∧W.ownsRow iO.heap.size 235 2 v bN.length (tT bN)∧(v= .slice none 0 0↔bN= [])
 aU:W.heap[l]? =some (.loop (sL fn oi Bs ax .ready none))
 K:W.heap[ax]? =some (.deferred (some []))
 below:Below iO.heap.size iO W
theorem Bl.atS (iO:World)(fn:FuncId)(oi:Value)(Bs l ax cZ:Nat)(cL:iO.heap.size≤cZ):AbidesFrom cZ (Bl iO fn oi Bs l ax):=fun E W W' bz h ao hrow=>by
 have KH: ∀ i,bz=some i→ ∃ L:Obj,W.heap[i]? =some L∧L.isWalk=true:=fun i e=>(hrow i e).2;obtain⟨v,ag,G,aB⟩:=h.box;exact⟨⟨v,(grownBy_keeps ao KH ag rfl).trans ag,ownsRow_abides_a G ao KH,aB⟩,(grownBy_keeps ao KH h.aU rfl).trans h.aU,(grownBy_keeps ao KH h.K rfl).trans h.K,
  h.below.grown ao h.below.size (fun k e=>Nat.le_trans cL (hrow k e).1)⟩
set_option maxHeartbeats 2000000 in
theorem atT (be:Fence)(m:Nat)(iO:World)(fn:FuncId)(hfn:be.fn fn)(oi:Value)(Bs l ax:Nat)(GM:Bs≠l)(Yj:ax≠l)(atU:ax≠Bs)(atV:iO.heap.size≤Bs)(Yk:iO.heap.size≤l)
 (cj:Nat) (fu:cj≤maxLen) (GN:cj*24≤140737488355328) (bN:List Value) (x:Value) (atW: ∃ kl,keyOf prog 235 x=some kl) (W:World) (h:Bl iO fn oi Bs l ax bN W) (cB:bN.length < cj):
 YieldAt be m prog l #[x] W fun e W'=>e= .returned (.bool true)∧Bl iO fn oi Bs l ax (bN++ [x]) W'∧KeepsWalks W W':=by
 have mixed:prog.follows .mixedOrders=true:=by kernel_rfl
 have t0:=underlying0;have a0:=isAgg0;have z0:=sizeOf0;have v0:=zeroValue0;have t4:=underlying4;have a4:=isAgg4;have z4:=sizeOf4;have v4:=zeroValue4;have t23:=underlying232;have a23:=isAgg232;have z23:=sizeOf232;have v23:=zeroValue232;have t24:=underlying236;have a24:=isAgg236;have z24:=sizeOf236;have v24:=zeroValue236;have t28:=underlying239;have a28:=isAgg239;have z28:=sizeOf239;have v28:=zeroValue239;have t33:=underlying322;have a33:=isAgg322;have z33:=sizeOf322;have v33:=zeroValue322;have t26:=underlying235;have a26:=isAgg235;have z26:=sizeOf235;have v26:=zeroValue235;have Qk:=run_underlying t0;have Ak:=run_underlying t4;have Ql:=run_underlying t23;have Qm:=run_underlying t33;have Qn:=run_underlying t24;have Qo:=run_underlying t28;have Qp:=run_underlying t26;have hne:236≠235:=by decide
 obtain⟨Qv,an,jq,Kk,sn⟩:=info_parts atR;obtain⟨kl,fP⟩:=atW;obtain⟨o,kP,rfl,_⟩:=Qr x kl fP;obtain⟨v,ag,hrow,_⟩:=h.box;refine⟨fn,#[.slice none 0 0,oi,.pointer (some ⟨Bs,0,none⟩),undef,.slice none 0 0,undef,oi,.agg #[.int .i64 o,.string kP],undef,undef,undef,undef,undef],Qt.1,Qu.1,by simpa[sL] using run_yield (P:=prog) (args:= #[.agg #[.int .i64 o,.string kP]]) h.aU rfl,roundIn_of_wpIn hfn ?_⟩;have hl:l < W.heap.size:=(Array.getElem?_eq_some_iff.1 h.aU).1;have atX:Bs < W.heap.size:=(Array.getElem?_eq_some_iff.1 ag).1;have atY:ax < W.heap.size:=(Array.getElem?_eq_some_iff.1 h.K).1;obtain⟨ha,sM⟩: ∃ ha,W.alloc (.cells #[.int .i64 o,.string kP] 235)=ha:=⟨_,rfl⟩;have mf: ∀ k,k < W.heap.size→ha.heap[k]? =W.heap[k]? :=fun k I=>by rw[←sM];exact Below.heap_alloc _ _ k I
 have vv:ha.heap[l]? =some (.loop (sL fn oi Bs ax .ready none)):=(mf l hl).trans h.aU;have mR:ha.heap[Bs]? =some (.cells #[v] 236 (0,0)):=(mf Bs atX).trans ag;have rJ:ha.heap[ax]? =some (.deferred (some [])):=(mf ax atY).trans h.K;have PR:ha.heap[W.heap.size]? =some (.cells #[.int .i64 o,.string kP] 235 (0,0)):=by rw[←sM];exact World.alloc_heap_new W _
 have Yl:ha.ownsRow iO.heap.size 235 2 v bN.length (tT bN):=by rw[←sM];exact hrow.alloc _
 have Ym:Below iO.heap.size iO ha:=by rw[←sM];exact h.below.alloc h.below.size _
 have KI:KeepsWalks W ha:=by rw[←sM];exact KeepsWalks.alloc _ _
 have pe:=run_beginRound (P:=prog) vv rfl;obtain⟨fZ,xi⟩: ∃ fZ,ha.putObj l (.loop {sL fn oi Bs ax .ready none with state:= .busy})=fZ:=⟨_,rfl⟩;rw[xi] at pe;have ck:ha.grownBy fZ (some l):=by rw[←xi];exact grownBy_putObj_a _ _ _
 have rq:KeepsWalks W fZ:=KI.trans (by rw[←xi];exact KeepsWalks.putObj _ vv rfl);have gd:fZ.heap[Bs]? =some (.cells #[v] 236 (0,0)):=by rw[←xi];exact (World.putObj_heap_other GM).trans mR
 have qL:fZ.heap[ax]? =some (.deferred (some [])):=by rw[←xi];exact (World.putObj_heap_other Yj).trans rJ
 have Gx:fZ.heap[l]? =some (.loop {sL fn oi Bs ax .ready none with state:= .busy}):=by rw[←xi];exact World.putObj_heap_same (Array.getElem?_eq_some_iff.1 vv).1
 have Qw:fZ.heap[W.heap.size]? =some (.cells #[.int .i64 o,.string kP] 235 (0,0)):=by rw[←xi];exact (World.putObj_heap_other (by omega)).trans PR
 have aIc:fZ.cell? ⟨W.heap.size,0,none⟩=some (.int .i64 o):=by simp[World.cell?,Qw]
 have aId:fZ.cell? ⟨W.heap.size,1,none⟩=some (.string kP):=by simp[World.cell?,Qw]
 have KJ:fZ.ownsRow iO.heap.size 235 2 v bN.length (tT bN):=Yl.kept ck (ownsRow_ne_a Yl vv (fun mS e=>by first|cases e|exact hne (Obj.cells.inj e).2.1));have ri:Below iO.heap.size iO fZ:=Ym.grown ck Ym.size (fun k e=>by cases e;exact Yk);obtain⟨Vx,yU⟩:=cell_of_box_a gd;have atZ:Bs < fZ.heap.size:=(Array.getElem?_eq_some_iff.1 gd).1;have kO:l < fZ.heap.size:=(Array.getElem?_eq_some_iff.1 Gx).1;have aua:ax < fZ.heap.size:=(Array.getElem?_eq_some_iff.1 qL).1;have Qx: ∀ {j:Nat} {L:Obj},fZ.heap[j]? =some L→(∀ mS,L≠ .cells mS 235 (0,0))→some j≠v.ownBlock:=fun aT ka=>by
  rcases ownsRow_ne_a KJ aT ka with e|e
  ·rw[e];simp
  ·exact fun cA=>e cA.symm
 clear xi;simp only[Qt]
 gi_wp2_with gi_round_op_a
 simp only[Qu]
 gi_wp2_with (first
  | (gi_at_builtin;refine wpListIn_append_own _ rfl _ _ 236 rfl iO.heap.size 235 Qv (.agg #[.int .i64 0,.string ⟨#[]⟩]) 2 24 t24 an jq Kk sn rfl (by decide) _ _ _ rfl (KJ.alloc _) ⟨fZ.heap.size,0,none⟩ 1 1 [.int .i64 o,.string kP] rfl rfl (ara _ _ _ _) (by intro u aZ;simp only[fA] at aZ;rcases aZ with rfl|rfl<;>rfl) (by omega) (Nat.le_trans (Nat.mul_le_mul_right _ (by omega)) GN) (by have:=ri.size;simp;omega) ?_;intro gq oV GL fQ hnil3;have DP:oV.heap[Bs]? =some (.cells #[v] 236 (0,0)):=(fQ.block Bs (by simp;omega) (Qx gd (fun mS e=>by first|cases e|exact hne (Obj.cells.inj e).2.1))).trans ((Below.heap_alloc _ _ Bs atZ).trans gd);obtain⟨aub,auc⟩:=cell_of_box_a DP;obtain⟨yN,gQ,KK,rfl,aIe,aIf,iA,KL,KM,KN⟩: ∃ yN gQ KK,gq= .slice (some ⟨yN,0,none⟩) (bN.length+1) gQ∧iO.heap.size≤yN∧oV.heap[yN]? =some (.cells KK 235 (0,0))∧bN.length+1≤gQ∧gQ≤maxLen∧KK.size=gQ*2∧KK.toList.take ((bN.length+1)*2)=tT bN++ [.int .i64 o,.string kP]:=GL.2.elim (fun h=>absurd h.2 (by omega)) fun cJ=>cJ;go_frame)
  |gi_round_op_a)
 have KO: (fZ.alloc (.cells #[.int .i64 o,.string kP] 235)).grownBy oV v.ownBlock:=fQ;have Yn:oV.heap[l]? =some (.loop {sL fn oi Bs ax .ready none with state:= .busy}):=(KO.block l (by simp;omega) (Qx Gx (fun mS e=>by first|cases e|exact hne (Obj.cells.inj e).2.1))).trans ((Below.heap_alloc _ _ l kO).trans Gx);have GO:oV.heap[ax]? =some (.deferred (some [])):=(KO.block ax (by simp;omega) (Qx qL (fun mS e=>by first|cases e|exact hne (Obj.cells.inj e).2.1))).trans ((Below.heap_alloc _ _ ax aua).trans qL);obtain⟨mQ,Bn⟩: ∃ mQ,oV.setCell ⟨Bs,0,none⟩ (.slice (some ⟨yN,0,none⟩) (bN.length+1) gQ)=mQ:=⟨_,rfl⟩;rw[Bn];have oj:oV.grownBy mQ (some Bs):=by rw[←Bn];exact grownBy_setCell0_a _ _ _
 have aud:mQ.heap[Bs]? =some (.cells #[.slice (some ⟨yN,0,none⟩) (bN.length+1) gQ] 236 (0,0)):=by rw[←Bn];exact heap_setCell_box_a _ DP
 have KP:mQ.heap[l]? =some (.loop {sL fn oi Bs ax .ready none with state:= .busy}):=(oj.block l (Array.getElem?_eq_some_iff.1 Yn).1 (fun e=>GM (by cases e;rfl))).trans Yn;have aue:mQ.heap[ax]? =some (.deferred (some [])):=(oj.block ax (Array.getElem?_eq_some_iff.1 GO).1 (fun e=>atU (by cases e;rfl))).trans GO;have Yo:=GL.kept oj (ownsRow_ne_a GL DP (fun mS e=>by first|cases e|exact hne (Obj.cells.inj e).2.1));have Yp:l < mQ.heap.size:=(Array.getElem?_eq_some_iff.1 KP).1;have DH:Below iO.heap.size iO oV:=(ri.alloc ri.size _).grown KO (by have:=ri.size;simp;omega) (fun k e=>(KJ.lt k e).1);have Yq:Below iO.heap.size iO mQ:=DH.grown oj DH.size (fun k e=>by cases e;exact atV);have Qy:KeepsWalks W mQ:=((rq.trans (KeepsWalks.alloc _ _)).trans (KeepsWalks.of_grownBy KO (ownsRow_not_walk_a (KJ.alloc _)))).trans (by rw[←Bn];exact KeepsWalks.setCell _ _ _);clear Bn;refine⟨_,_,run_endRound none KP,rfl,⟨⟨_,(World.putObj_heap_other GM).trans aud,?_,by simp⟩,World.putObj_heap_same Yp,(World.putObj_heap_other Yj).trans aue,Yq.grown (grownBy_putObj_a _ _ _) Yq.size (fun k e=>by cases e;exact Yk)⟩,Qy.trans (KeepsWalks.putObj _ KP rfl)⟩;have:=Yo.kept (grownBy_putObj_a mQ l (.loop {{sL fn oi Bs ax .ready none with state:= .busy} with state:=if (none:Option Code).isNone then .ready else .done,pending:=none})) (ownsRow_ne_a Yo KP (fun mS e=>by first|cases e|exact hne (Obj.cells.inj e).2.1));rw[show tT (bN++ [Value.agg #[.int .i64 o,.string kP]])=tT bN++ [.int .i64 o,.string kP] from by simp[tT,Value.cells],List.length_append];simpa using this
set_option maxHeartbeats 2000000 in
theorem auC (be:Fence)(n:Nat)(QS:be.fn 261)(kD:be.round=none)(aB:2≤n)(g:Nat)(pP:Array Value)(QT:be.fn g)(AU: ∀ args w,(callFunc g args).run prog w= .ok (.enter g args) w)
 (S:List Value→Prop) (cj:Nat) (fu:cj≤maxLen) (GN:cj*24≤140737488355328) (w:World) (rN:Ph prog 235 be (n-1) g pP S cj w):
 CallsIn be n prog 261 #[.slice none 0 0,.func (.func g) #[] pP] w fun e w'=> ∃ (v:Value) (bN:List Value),e= .returned v∧S bN∧w'.ownsRow w.heap.size 235 2 v bN.length (tT bN)∧(v= .slice none 0 0↔bN= [])∧Below w.heap.size w w':=by
 have h1:1≤n:=by omega
 have mixed:prog.follows .mixedOrders=true:=by kernel_rfl
 have t0:=underlying0;have a0:=isAgg0;have z0:=sizeOf0;have v0:=zeroValue0;have t4:=underlying4;have a4:=isAgg4;have z4:=sizeOf4;have v4:=zeroValue4;have t23:=underlying232;have a23:=isAgg232;have z23:=sizeOf232;have v23:=zeroValue232;have t24:=underlying236;have a24:=isAgg236;have z24:=sizeOf236;have v24:=zeroValue236;have t28:=underlying239;have a28:=isAgg239;have z28:=sizeOf239;have v28:=zeroValue239;have t33:=underlying322;have a33:=isAgg322;have z33:=sizeOf322;have v33:=zeroValue322;have t26:=underlying235;have a26:=isAgg235;have z26:=sizeOf235;have v26:=zeroValue235;have Qk:=run_underlying t0;have Ak:=run_underlying t4;have Ql:=run_underlying t23;have Qm:=run_underlying t33;have Qn:=run_underlying t24;have Qo:=run_underlying t28;have Qp:=run_underlying t26;refine callsIn_of_wp_marks func261 rfl QS ?_ kD;simp only[ntmps261,List.size_toArray,List.length_cons,List.length_nil,Nat.reduceAdd,Nat.reduceSub,Array.replicate_succ,Array.replicate_zero,List.push_toArray,List.append_toArray,List.nil_append,List.cons_append]
 gi_wp2
 refine wpIn_rangeFunc ?_;intro fn hfn;rw[kD];obtain⟨jj,DW⟩: ∃ jj,w.alloc (.cells #[.slice none 0 0] 236)=jj:=⟨_,rfl⟩;have nR:jj.heap.size=w.heap.size+1:=by rw[←DW];simp
 have jJ:jj.heap[w.heap.size]? =some (.cells #[.slice none 0 0] 236 (0,0)):=by rw[←DW];exact World.alloc_heap_new w _
 have lY:Below w.heap.size w jj:=by rw[←DW];exact (Below.refl _ w).alloc (Nat.le_refl _) _
 rw[DW];obtain⟨ha,sM⟩: ∃ ha,(jj.alloc (.deferred (some []))).alloc (.loop (sL fn (.func (.func g) #[] pP) w.heap.size jj.heap.size .ready none))=ha:=⟨_,rfl⟩;have mf: ∀ k,k < jj.heap.size→ha.heap[k]? =jj.heap[k]? :=fun k I=>by
  rw[←sM];exact (Below.heap_alloc _ _ k (by simp;omega)).trans (Below.heap_alloc _ _ k I)
 have tv:Below w.heap.size w ha:=by rw[←sM];exact (lY.alloc lY.size _).alloc (by have:=lY.size;simp;omega) _
 have kN:ha.heap.size=jj.heap.size+2:=by rw[←sM];simp
 have Bg:Bl w fn (.func (.func g) #[] pP) w.heap.size (jj.heap.size+1) jj.heap.size [] ha:=
  ⟨⟨_,(mf w.heap.size (by omega)).trans jJ,⟨rfl,.inl ⟨rfl,rfl⟩⟩,by simp⟩,
   by rw[←sM];have:=World.alloc_heap_new (jj.alloc (.deferred (some []))) (.loop (sL fn (.func (.func g) #[] pP) w.heap.size jj.heap.size .ready none));rwa [World.size_alloc] at this,
   by rw[←sM];exact (Below.heap_alloc _ _ _ (by simp)).trans (World.alloc_heap_new jj _),tv⟩
 refine⟨jj.heap.size+1,[{target:= .collected jj.heap.size,args:= #[]}],ha,{target:= .fn (.func g) pP,args:= #[.func (.yield (jj.heap.size+1)) #[] #[]]},ha,g,
  #[.func (.yield (jj.heap.size+1)) #[] #[]]++pP,ha,?_,?_,?_,?_,fun _=>h1,?_⟩
 ·rw[←sM];exact run_enterLoop_outer _ _ _ _ _
 ·simp[resolve,go_sem]
 ·intro UJ hf';simp[Target.leads] at hf';subst hf';exact QT
 ·simp[invoke,go_sem,AU]
 ·refine (rN (jj.heap.size+1) (Bl w fn (.func (.func g) #[] pP) w.heap.size (jj.heap.size+1) jj.heap.size) ha tv (Bl.atS _ _ _ _ _ _ _ tv.size)
   (fun pre x W jh hl I=>atT be (n-1-1) w fn hfn _ w.heap.size (jj.heap.size+1) jj.heap.size (by omega) (by omega) (by omega) (Nat.le_refl _) (by omega) cj fu GN pre x I W jh hl) Bg).mono ?_
  rintro e fZ ⟨⟨v0,rfl⟩,bN,de,B⟩;obtain⟨v,ag,hrow,iq⟩:=B.box;have vp:=run_endLoop (P:=prog) B.aU (by simp[sL]);obtain⟨sK,G1⟩: ∃ sK,fZ.putObj (jj.heap.size+1) (.loop {sL fn (.func (.func g) #[] pP) w.heap.size jj.heap.size .ready none with state:= .exhausted})=sK:=⟨_,rfl⟩;rw[G1] at vp;have fQ:fZ.grownBy sK (some (jj.heap.size+1)):=by rw[←G1];exact grownBy_putObj_a _ _ _
  have DP:sK.heap[w.heap.size]? =some (.cells #[v] 236 (0,0)):=by rw[←G1];exact (World.putObj_heap_other (by omega)).trans ag
  have GO:sK.heap[jj.heap.size]? =some (.deferred (some [])):=by rw[←G1];exact (World.putObj_heap_other (by omega)).trans B.K
  have YL:=hrow.kept fQ (ownsRow_ne_a hrow B.aU (fun mS e=>by first|cases e|exact hne (Obj.cells.inj e).2.1));have DH:Below w.heap.size w sK:=B.below.grown fQ B.below.size (fun k e=>by cases e;omega);obtain⟨aub,auc⟩:=cell_of_box_a DP;clear G1;refine⟨none,sK,vp,?_⟩
  gi_wp2
  rw[←nR];refine⟨by simp,.inl ⟨_,_,rfl,run_takeDeferred GO,?_⟩⟩;exact⟨_,results_tmp rfl _ _ _,v,bN,rfl,de,YL.kept (grownBy_putObj_a _ _ _) (ownsRow_ne_a YL GO (fun mS e=>by first|cases e|exact hne (Obj.cells.inj e).2.1)),iq,DH.grown (grownBy_putObj_a _ _ _) DH.size (fun k e=>by cases e;omega)⟩
set_option maxHeartbeats 1000000 in
theorem auD (be:Fence)(n:Nat)(DX:be.fn 205)(QS:be.fn 261)(kD:be.round=none)(aB:3≤n)(g:Nat)(pP:Array Value)(QT:be.fn g)(AU: ∀ args w,(callFunc g args).run prog w= .ok (.enter g args) w)
 (S:List Value→Prop) (cj:Nat) (fu:cj≤maxLen) (GN:cj*24≤140737488355328) (w:World) (rN:Ph prog 235 be (n-1-1) g pP S cj w):
 CallsIn be n prog 205 #[.func (.func g) #[] pP] w fun e w'=> ∃ (v:Value) (bN:List Value),e= .returned v∧S bN∧w'.ownsRow w.heap.size 235 2 v bN.length (tT bN)∧(v= .slice none 0 0↔bN= [])∧Below w.heap.size w w':=by
 have h1:1≤n:=by omega
 have aIk: ∀ args w,(callFunc 261 args).run prog w= .ok (.enter 261 args) w:=enters_of func261 (by kernel_rfl) rfl;have mixed:prog.follows .mixedOrders=true:=by kernel_rfl
 have t0:=underlying0;have a0:=isAgg0;have z0:=sizeOf0;have v0:=zeroValue0;have t4:=underlying4;have a4:=isAgg4;have z4:=sizeOf4;have v4:=zeroValue4;have t23:=underlying232;have a23:=isAgg232;have z23:=sizeOf232;have v23:=zeroValue232;have t24:=underlying236;have a24:=isAgg236;have z24:=sizeOf236;have v24:=zeroValue236;have t28:=underlying239;have a28:=isAgg239;have z28:=sizeOf239;have v28:=zeroValue239;have t33:=underlying322;have a33:=isAgg322;have z33:=sizeOf322;have v33:=zeroValue322;have t26:=underlying235;have a26:=isAgg235;have z26:=sizeOf235;have v26:=zeroValue235;have Qk:=run_underlying t0;have Ak:=run_underlying t4;have Ql:=run_underlying t23;have Qm:=run_underlying t33;have Qn:=run_underlying t24;have Qo:=run_underlying t28;have Qp:=run_underlying t26;refine callsIn_of_wp func205 rfl DX ?_ kD;simp only[ntmps205,List.size_toArray,List.length_cons,List.length_nil,Nat.reduceAdd,Nat.reduceSub,Array.replicate_succ,Array.replicate_zero,List.push_toArray,List.append_toArray,List.nil_append,List.cons_append]
 gi_wp2_with (gi_at_fn 261;refine (auC be (n-1) QS kD (by omega) g pP QT AU S cj fu GN _ rN).mono ?_;rintro e w' ⟨v,bN,rfl,de,hrow,iq,Z⟩)
 go_ret
 exact⟨v,bN,rfl,de,hrow,iq,Z⟩
def qb (k:cm):Value:= .agg #[.int .i64 k.o,.string k.n]
theorem KX {a b:cm}(h:qb a=qb b):a=b:=by
 cases a;cases b;unfold qb at h;simp only[Value.agg.injEq,Array.mk.injEq,List.cons.injEq,Value.int.injEq,Value.string.injEq,true_and,and_true] at h;obtain⟨rfl,rfl⟩:=h;rfl
def zb (M:List cm):List z:=M.map fun k=> .agg (aG.F k)
theorem YM {C:bv}: ∀ {M:List cm} {vs:List Value},ay C (zb M) vs→vs=M.map qb
 | [],vs,h=>by simpa[zb,ay] using h
 |k::M,vs,h=>by
  unfold zb at h;rw[List.map_cons,ay] at h;obtain⟨v,bW,rfl,ag,G⟩:=h;simp only[Rep] at ag;obtain⟨aj,rfl,es⟩:=ag;rw[Kz,ay] at es;obtain⟨v1,r1,bF,h1,es⟩:=es;rw[ay] at es;obtain⟨re,cO,rfl,B,es⟩:=es;rw[ay] at es;subst es;simp only[Rep] at h1 B;subst h1;subst B;rw[List.map_cons,←YM (M:=M) G];congr 1;unfold qb;congr 1;exact Array.toList_inj.1 bF
theorem YN: ∀ (l:List cm),tT (l.map qb)=(l.map fg).flatten
 | []=>rfl
 |k::l=>by
  have ih:=YN l;unfold tT at *;rw[List.map_cons,List.flatMap_cons,List.map_cons,List.flatten_cons,ih];rfl
instance:tR cm:=⟨fun _=>rfl⟩
theorem auE {d:List R}{a b:Nat}{aP:TypeId}{ents:List (z×z)}{M:List cm}(aw:d[a]? =some (.aY (.map true [.int .i64,.str] ents)))(Z:d[b]? =some (.aa aP 1 [[.bu a]]))(I:ents.map (·.1)=zb M)(pU:M.Nodup)
 (je: ∀ x∈M,(Lit.int .i64 x.o).wf=true∧x.n.size≤maxLen) (cB:M.length≤1000000):
 aK prog 205 [.fn 207 [.aW b 1 0 0]] d
  (fun v rs=> ∃ l:List cm,l.Perm M∧v= .own d.length l.length 0 l.length∧rs=d++ [.aa 235 2 (ac l)]):=by
 refine aK.arc (fun h=>h) ?_;intro C du G ar hG dk;have hM:C.d[a]? =some (.aY (.map true [.int .i64,.str] ents)):=by rw[G];exact aw
 have iA:C.d[b]? =some (.aa aP 1 [[.bu a]]):=by rw[G];exact Z
 rw[ay] at dk;obtain⟨v0,bW,rfl,ag,aB⟩:=dk;rw[ay] at aB;subst aB;rw[Rep] at ag;obtain⟨vs,rfl,jz⟩:=ag;rw[ay] at jz;obtain⟨KY,bW,xm,ae,aB⟩:=jz;rw[ay] at aB;subst aB;rw[Rep] at ae;obtain⟨gV,_,_,hall⟩:=ae;obtain⟨_,B⟩:=hall _ _ _ iA;obtain⟨_,Bm,F,oP,rfl⟩:=B rfl;obtain rfl:vs= #[.pointer (some ⟨Bm,0,none⟩)]:=by
  apply Array.toList_inj.1;rw[xm]
 rcases ar.aa iA with ⟨_,nV⟩|⟨b1,cap,aj,hn,wO,lF,es,tA,ed,cY⟩
 ·cases nV
 rw[oP] at hn;simp only[Option.some.injEq,Prod.mk.injEq] at hn;obtain⟨rfl,rfl⟩:=hn;rw[cT,dn] at cY;obtain⟨⟨KZ,lz,_,iC⟩,_⟩:=cY.2.1;rw[Rep] at iC;obtain⟨_,_,_,iC⟩:=iC;obtain⟨b0,c0,xn,rfl⟩:=iC _ hM;have kD:=ar.d _ _ hM;rw[dA] at kD;obtain⟨K0,K1,al,nc,K2,lY,oJ,ty,Cf,Cg⟩:=kD;rw[xn] at nc;simp only[Option.some.injEq,Prod.mk.injEq] at nc;obtain⟨rfl,rfl⟩:=nc;have fP:al.toList.map (·.key)=M.map qb:=YM (by rw[←I];exact ty);have dt:al.size=M.length:=by
  have:=congrArg List.length fP;simpa using this
 let az:Value→Option (DataW Unit×List MemPlace):=fun _=>some (.nil,[])
 have qc: ∀ x∈al.toList,∃ k,x.key=qb k∧k∈M∧Go.WideElems.rd prog 235 az x=some (.string (keyBytes [.int .i64 k.o,.string k.n.data.toList]),.nil):=by
  intro x ad;have:x.key∈M.map qb:=by rw[←fP];exact List.mem_map_of_mem ad
  obtain⟨k,aS,pg⟩:=List.mem_map.1 this;refine⟨k,pg.symm,aS,?_⟩;unfold Go.WideElems.rd;rw[←pg];unfold qb;rw[G2 (je k aS).1 (je k aS).2];rfl
 have rl:Go.WideElems.Fit prog 235 az al al.size:=by
  refine⟨by rw[dt];unfold maxLen;omega,⟨fun x ad=> ?_,?_,?_⟩,fun x ad=> ?_⟩
  ·obtain⟨c,an,rfl⟩:=List.getElem_of_mem ad;have:=oJ c _ (by rw[←Array.getElem?_toList,List.getElem?_eq_getElem an]);rw[this];simpa using an
  ·have:al.toList.map (·.born)=List.range al.size:=by
    refine List.ext_getElem? fun c=> ?_
    by_cases an:c < al.size
    ·rw[List.getElem?_map,Array.getElem?_toList,Array.getElem?_eq_getElem an,List.getElem?_range an];simp[oJ c _ (Array.getElem?_eq_getElem an)]
    ·rw[List.getElem?_eq_none (by simp;omega),List.getElem?_eq_none (by simp;omega)]
   rw[this];exact List.nodup_range
  ·rw[fP];exact List.pairwise_map.2 (pU.imp fun h e=>h (KX e))
  ·obtain⟨k,_,_,h⟩:=qc x ad;exact⟨_,h⟩
 let dM:=al.toList.map (Go.WideElems.rg prog 235 az)
 let ax:DataW Unit:= .map (dM.foldr DataW.insert [])
 have nB:C.w.ownsMap prog 235 az b0 al.size ax:=⟨al,al.size,lY,rl,Nat.le_refl _,rfl⟩;have QU: (dM.foldr DataW.insert []).Perm dM:=Go.WideShapes.sorted_perm dM;have fu:Maps.size ax=M.length:=by
  show (dM.foldr DataW.insert []).length=_;rw[QU.length_eq,List.length_map,Array.length_toList,dt]
 have YO: ∀ k:cm,(Lit.int .i64 k.o).wf=true→k.n.size≤maxLen→(has ax (.string (keyBytes [.int .i64 k.o,.string k.n.data.toList]))=true↔k∈M):=by
  intro k jt ju;rw[show has ax _=(dM.foldr DataW.insert []).any (fun p=>p.1.sameKey (.string (keyBytes [.int .i64 k.o,.string k.n.data.toList]))) from has_eq _ _,List.any_eq_true];constructor
  ·rintro⟨p,ae,ak⟩;have hC:=QU.mem_iff.1 ae;obtain⟨x,ad,rfl⟩:=List.mem_map.1 hC;obtain⟨bo,h1,B,am⟩:=qc x ad;rw[Go.WideElems.rg_of am] at ak;have:=WideAt.sameKey_eq ak;have e:=Qq.inj (G2 (je bo B).1 (je bo B).2) (this▸G2 jt ju);rw[←KX e];exact B
  ·intro gc;have:qb k∈al.toList.map (·.key):=by rw[fP];exact List.mem_map_of_mem gc
   obtain⟨x,ad,he⟩:=List.mem_map.1 this;refine⟨Go.WideElems.rg prog 235 az x,QU.mem_iff.2 (List.mem_map_of_mem ad),?_⟩;obtain⟨bo,h1,B,am⟩:=qc x ad;rw[Go.WideElems.rg_of am];have e:bo=k:=KX (h1.symm.trans he);subst e;exact WideAt.sameKey_self (Qq.key (G2 jt ju))
 have rN:=atN (H:=Unit) (az:=az) Fence.wide 1 trivial rfl (by omega) Bm b0 al.size ax C.w (Array.getElem?_eq_some_iff.1 lF).1 lz nB;have xo:=auD Fence.wide 3 trivial trivial rfl (by omega) 207 #[.pointer (some ⟨Bm,0,none⟩)] trivial
  (enters_of func207 (by kernel_rfl) rfl) _ (Maps.size ax) (by rw[fu];unfold maxLen;omega) (by rw[fu];omega) C.w rN
 refine (callsIn_wide.1 xo).mono ?_;rintro e w' ⟨v,bN,rfl,de,hrow,iq,pd⟩;have vy: ∃ l:List cm,bN=l.map qb∧l.Perm M:=by
  have hall: ∀ x∈bN,∃ k,x=qb k∧k∈M:=fun x ad=>by
   obtain⟨lt,h1,B,_⟩:=(de.2 x).1 ad;obtain⟨o,n,rfl,jt,ju,rfl⟩:=Qr x lt h1;exact⟨⟨o,n⟩,rfl,(YO ⟨o,n⟩ jt ju).1 B⟩
  obtain⟨l,hl,gZ⟩:=OX (f:=qb) (br:=(·∈M)) bN hall;refine⟨l,hl,?_⟩;have ns:l.Nodup:=by
   have DY:=de.1;rw[hl] at DY;exact (List.pairwise_map.1 DY).imp fun h e=>h (by rw[e])
  rw[List.perm_ext_iff_of_nodup ns pU];intro k;refine⟨gZ k,fun gc=> ?_⟩;have:=(de.2 (qb k)).2 ⟨_,G2 (je k gc).1 (je k gc).2,(YO k (je k gc).1 (je k gc).2).2 gc,rfl⟩;rw[hl] at this;obtain⟨bo,h1,B⟩:=List.mem_map.1 this;rw[←KX B];exact h1
 obtain⟨l,rfl,jN⟩:=vy;refine⟨v,235,2,ac l,(l.map fg).flatten,rfl,pd,?_,VW l,l,jN,by rw[bO],by rw[←G]⟩;rw[bO,←YN];simpa using hrow
open Go.Sort (SWO)
def axA:Go.Shelf.Ren:=
 {f:=fun x=>match x with|6=>206|15=>158|14=>262|28=>241|29=>242|20=>325|21=>326|22=>327|23=>328|24=>329|25=>330|26=>331|27=>332|46=>354|47=>290|48=>291|49=>355|50=>356|57=>367|n=>n,
  t:=fun x=>match x with|22=>236|24=>235|25=>242|3=>3|39=>284|0=>0|53=>347|55=>349|4=>4|46=>341|45=>340|50=>206|5=>5|9=>9|66=>376|70=>380|76=>412|77=>308|n=>n,
  g:=fun n=>n}
set_option maxRecDepth 100000 in
theorem axB:SlLaysF0.n6 prog axA where
 mixed:=by kernel_rfl
 f6:=⟨"slices.SortFunc[[]payroll/timesheet.key,payroll/timesheet.key]",by decide,Eq.trans func206 (congrArg some (by kernel_rfl))⟩
 f14:=⟨"slices.pdqsortCmpFunc[payroll/timesheet.key]",by decide,Eq.trans func262 (congrArg some (by kernel_rfl))⟩
 f15:=Eq.trans func158 (congrArg some (by kernel_rfl))
 f20:=⟨"slices.insertionSortCmpFunc[payroll/timesheet.key]",by decide,Eq.trans func325 (congrArg some (by kernel_rfl))⟩
 f21:=⟨"slices.heapSortCmpFunc[payroll/timesheet.key]",by decide,Eq.trans func326 (congrArg some (by kernel_rfl))⟩
 f22:=⟨"slices.breakPatternsCmpFunc[payroll/timesheet.key]",by decide,Eq.trans func327 (congrArg some (by kernel_rfl))⟩
 f23:=⟨"slices.choosePivotCmpFunc[payroll/timesheet.key]",by decide,Eq.trans func328 (congrArg some (by kernel_rfl))⟩
 f24:=⟨"slices.reverseRangeCmpFunc[payroll/timesheet.key]",by decide,Eq.trans func329 (congrArg some (by kernel_rfl))⟩
 f25:=⟨"slices.partialInsertionSortCmpFunc[payroll/timesheet.key]",by decide,Eq.trans func330 (congrArg some (by kernel_rfl))⟩
 f26:=⟨"slices.partitionEqualCmpFunc[payroll/timesheet.key]",by decide,Eq.trans func331 (congrArg some (by kernel_rfl))⟩
 f27:=⟨"slices.partitionCmpFunc[payroll/timesheet.key]",by decide,Eq.trans func332 (congrArg some (by kernel_rfl))⟩
 f28:=Eq.trans func241 (congrArg some (by kernel_rfl))
 f29:=Eq.trans func242 (congrArg some (by kernel_rfl))
 f46:=⟨"slices.siftDownCmpFunc[payroll/timesheet.key]",by decide,Eq.trans func354 (congrArg some (by kernel_rfl))⟩
 f47:=Eq.trans func290 (congrArg some (by kernel_rfl))
 f48:=Eq.trans func291 (congrArg some (by kernel_rfl))
 f49:=⟨"slices.medianAdjacentCmpFunc[payroll/timesheet.key]",by decide,Eq.trans func355 (congrArg some (by kernel_rfl))⟩
 f50:=⟨"slices.medianCmpFunc[payroll/timesheet.key]",by decide,Eq.trans func356 (congrArg some (by kernel_rfl))⟩
 f57:=⟨"slices.order2CmpFunc[payroll/timesheet.key]",by decide,Eq.trans func367 (congrArg some (by kernel_rfl))⟩
 t0:=underlying0
 a0:=isAgg0
 z0:=sizeOf0
 v0:=zeroValue0
 t3:=underlying3
 a3:=isAgg3
 z3:=sizeOf3
 v3:=zeroValue3
 t4:=underlying4
 a4:=isAgg4
 z4:=sizeOf4
 v4:=zeroValue4
 t5:=underlying5
 a5:=isAgg5
 z5:=sizeOf5
 v5:=zeroValue5
 t9:=underlying9
 a9:=isAgg9
 z9:=sizeOf9
 v9:=zeroValue9
 t22:=underlying236
 a22:=isAgg236
 z22:=sizeOf236
 v22:=zeroValue236
 t25:=underlying242
 a25:=isAgg242
 z25:=sizeOf242
 v25:=zeroValue242
 t39:=underlying284
 a39:=isAgg284
 z39:=sizeOf284
 v39:=zeroValue284
 t45:=underlying340
 a45:=isAgg340
 z45:=sizeOf340
 v45:=zeroValue340
 t46:=underlying341
 a46:=isAgg341
 z46:=sizeOf341
 v46:=zeroValue341
 t50:=underlying206
 a50:=isAgg206
 z50:=sizeOf206
 v50:=zeroValue206
 t53:=underlying347
 a53:=isAgg347
 z53:=sizeOf347
 v53:=zeroValue347
 t55:=underlying349
 a55:=isAgg349
 z55:=sizeOf349
 v55:=zeroValue349
 t66:=underlying376
 a66:=isAgg376
 z66:=sizeOf376
 v66:=zeroValue376
 t70:=underlying380
 a70:=isAgg380
 z70:=sizeOf380
 v70:=zeroValue380
 t76:=underlying412
 a76:=isAgg412
 z76:=sizeOf412
 v76:=zeroValue412
 t77:=underlying308
 a77:=isAgg308
 z77:=sizeOf308
 v77:=zeroValue308
theorem Hp {bd:Type}{sB:bd→bd→Int}{az:bd→bd→Prop}(h: ∀ a b,sB a b < 0↔az a b)(h1: ∀ a,¬az a a)(B: ∀ a b F,az a b→az b F→az a F)(am: ∀ a b F,¬az a b→ ¬az b F→ ¬az a F):SWO (ltOf sB):=by
 refine⟨fun x=> ?_,fun x y D=> ?_,fun x y D=> ?_⟩<;>simp only[ltOf,decide_eq_true_eq,decide_eq_false_iff_not,h]
 ·exact h1 x
 ·exact B x y D
 ·exact am x y D
theorem axC:SWO (ltOf G4):=by
 refine Hp (az:=pb) (fun a b=>YZ) (fun a=> ?_) (fun a b F=> ?_) (fun a b F=> ?_)<;>unfold pb
 ·rintro (h|⟨_,h⟩)
  ·omega
  ·exact G3 _ h
 ·rintro (h|⟨e,h⟩) (k|⟨cA,k⟩)
  ·exact .inl (by omega)
  ·exact .inl (by omega)
  ·exact .inl (by omega)
  ·exact .inr ⟨by omega,YQ h k⟩
 ·intro h k sx;rcases sx with sx|⟨e,sx⟩
  ·have h1: ¬a.o < b.o:=fun e=>h (.inl e);have B: ¬b.o < F.o:=fun e=>k (.inl e);omega
  ·have h1: ¬a.o < b.o:=fun e=>h (.inl e);have B: ¬b.o < F.o:=fun e=>k (.inl e);have bF:a.o=b.o:=by omega
   have bJ:b.o=F.o:=by omega
   have am: ¬a.n.toList < b.n.toList:=fun e=>h (.inr ⟨bF,e⟩);have bp: ¬b.n.toList < F.n.toList:=fun e=>k (.inr ⟨bJ,e⟩);rcases K5 am with it|it
   ·rw[it] at sx;exact bp sx
   ·exact bp (YQ it sx)
theorem axt (l:List cm)(hl:l.length < 4611686018427387904):aK prog 206 [.own 0 l.length 0 l.length,.fn 122 []] [.aa 235 2 (ac l)]
 (fun v rs=>v= .bg []∧ ∃ bX:List cm,bX.Perm l∧bX.Pairwise (fun x y=> ¬pb y x)∧rs= [.aa 235 2 (ac bX)]):=by
 refine aK.F6 inferInstance ?_;refine @aK.mono (dw.ax inferInstance) _ _ _ _ _ _ (@aK.FV (dw.ax inferInstance) trivial cm _ _ _ _ _ _ _ 235 axB rfl isAgg235 sizeOf235 G4 axC (@auN (dw.ax inferInstance)) (enters_of func122 (by kernel_rfl) rfl) l hl) ?_;rintro v rs ⟨rfl,bX,h1,B,rfl⟩;exact⟨rfl,bX,h1,B.imp fun h e=>h (YZ.2 e),rfl⟩
theorem Lc {a b:ByteArray}(h:a.toList=b.toList):a=b:=by
 have e: ∀ x:ByteArray,x.toList=x.data.toList:=fun x=>ByteArray.toList_eq x;rw[e,e] at h;cases a;cases b;congr 1;exact Array.toList_inj.1 h
theorem axs {a b:cm}(h: ¬pb a b)(hne:a≠b):pb b a:=by
 unfold pb at *;rcases Int.lt_trichotomy a.o b.o with h1|h1|h1
 ·exact absurd (.inl h1) h
 ·by_cases B:a.n.toList < b.n.toList
  ·exact absurd (.inr ⟨h1,B⟩) h
  ·rcases K5 B with am|am
   ·refine absurd ?_ hne;cases a;cases b;simp only at h1 am;rw[h1,Lc am]
   ·exact .inr ⟨h1.symm,am⟩
 ·exact .inl h1
theorem Gw {d:List R}{x:R}(h:jA d)(ad:iM (d.length+1) x=true):jA (d++ [x]):=DI h (by simpa using ad)
theorem X0 {d:List R}{a b:Nat}{aP:TypeId}{ents:List (z×z)}{M:List cm}(G:jA d)(aw:d[a]? =some (.aY (.map true [.int .i64,.str] ents)))(Z:d[b]? =some (.aa aP 1 [[.bu a]]))(I:ents.map (·.1)=zb M)(pU:M.Nodup)
 (je: ∀ x∈M,(Lit.int .i64 x.o).wf=true∧x.n.size≤maxLen) (cB:M.length≤1000000):
 aK prog 120 [.fn 207 [.aW b 1 0 0],.fn 122 []] d
  (fun v rs=> ∃ l:List cm,l.Perm M∧l.Pairwise pb∧v= .own d.length l.length 0 l.length∧rs=d++ [.aa 235 2 (ac l)]):=by
 refine cr func120 aaM (by simp[LH,RI]) ?_;have pd:b < d.length:=(List.getElem?_eq_some_iff.1 Z).1;simp only[go_sem,LH,RI];refine tV G (by simp[gl,di,pd]) (auE aw Z I pU je cB) ?_;rintro _ _ ⟨l,hl,rfl,rfl⟩;refine⟨by simp,?_⟩;simp only[go_sem];refine oW [d.length] [] (by simp) (by simp only[go_sem,dz]<;>rfl) (by simp only[go_sem]<;>rfl) (axt l (by rw[hl.length_eq];omega)) ?_;rintro _ _ ⟨rfl,bX,h1,B,rfl⟩;refine⟨.inl rfl,?_⟩;simp only[go_sem,dT];have aB:bX.Nodup:=(h1.trans hl).nodup_iff.2 pU;refine s.U ⟨bX,h1.trans hl,?_,by rw[h1.length_eq];rfl,rfl⟩;exact (B.and aB).imp fun h=>axs h.1 (fun e=>h.2 e.symm)
end Go.Proofs.YtpincjkjoeopkaaGreatDoor
