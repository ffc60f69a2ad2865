/- Time evaluation. -/
import Derived.Test.YtpincjkjoeopkaaGreatDoorW21
import Derived.Test.YtpincjkjoeopkaaGreatDoorW16
import Derived.Test.YtpincjkjoeopkaaGreatDoorW15
set_option linter.all false
namespace Go.Proofs.YtpincjkjoeopkaaGreatDoor
open Go Go.Abs Go.Proofs.Tryz
set_option maxRecDepth 20000 in
theorem awp:aO prog 154 [.pure 2 []] [] (fun v rs=>v= .pure 2 []∧rs= []):=by
 refine aO.D2 fun C dA N aA hG dv=> ?_;rw[aE] at dv;obtain⟨v,bS,rfl,h1,G⟩:=dv;rw[aE] at G;subst G;rw[Rep] at h1;obtain⟨cy,cap,rfl,_,_⟩:=h1;have aP: (Go.RowKit.Below C.w.heap.size C.w C.w∧C.w.drawn≤C.w.drawn):=⟨Go.RowKit.Below.refl _ _,Nat.le_refl _⟩
 go_enter func154,ntmps154
 cases cy with
 |none=>
  go_wp2
  rw[Z5]
  go_wp2
  go_ret
  exact⟨_,.pure 2 [],rfl,aP,fun aB _=>(by rw[Rep];exact⟨none,0,rfl,Nat.le_refl _,.inl rfl⟩),rfl,trivial⟩
 |some a=>
  go_wp2
  rw[Z6]
  go_wp2
  go_ret
  exact⟨_,.pure 2 [],rfl,⟨aP.1.alloc (Nat.le_refl _) _,aP.2⟩,fun aB _=>(by rw[Rep];exact⟨_,_,rfl,Nat.le_refl _,.inl rfl⟩),rfl,trivial⟩
theorem Ma (l:List Pr.bx)(hl:l.length≤100000):aO prog 154 [.pure 2 (ai l)] [] (fun v rs=>v= .pure 2 (ai l)∧rs= []):=by
 by_cases h:l= []
 ·subst h;exact awp
 have ak:0 < l.length:=List.length_pos_iff.2 h;refine cu func154 Z7 (by simp[Mf,R3]) ?_;simp only[go_sem,Mf,R3,bT];refine⟨ak,by omega,?_⟩;have nL:bW [.ag 64 2 (ai l)] [] [0] (.own 0 l.length 0 l.length)= .pure 2 (ai l):=qx rfl rfl rfl (by rw[bT]) ck;refine E.jN [] [0] rfl rfl (by simp only[go_sem]<;>rfl) ?_;have nF:List.take l.length (ai l)=ai l:=List.take_of_length_le (by rw[bT];exact Nat.le_refl _);simp only[go_sem,nL,bT,ck,nF];exact E.ac ⟨rfl,rfl⟩
structure eX where
 bP:Int
 ah:Int
 aa:List Pr.dF
instance:aJ eX:=⟨fun a=> [.int .i64 a.bP,.int .i64 a.ah,.pure 3 (ai a.aa)],3,fun _=>rfl,fun a=>by simp only[bU,bJ,ck,Bool.and_self,Bool.and_true,Bool.true_and],fun _=>rfl⟩
theorem Ri (e:eX):aJ.J e= [.int .i64 e.bP,.int .i64 e.ah,.pure 3 (ai e.aa)]:=rfl
theorem avQ:aJ.U eX=3:=rfl
theorem avR (e:eX):List.take 3 (aJ.J e)=aJ.J e:=rfl
attribute [go_sem] avQ avR
def HY (a b:Int)(B:eX):Bool:=decide (B.bP=a∧B.ah=b)
def cM (a b:Int):List eX→Nat
 | []=>0
 |B::t=>if HY a b B then 0 else cM a b t+1
theorem RA (a b:Int): ∀ ds:List eX,cM a b ds≤ds.length
 | []=>Nat.le_refl _
 |B::t=>by
  have:=RA a b t;unfold cM;split
  ·omega
  ·rw[List.length_cons];omega
def fI (a b:Int)(p:Pr.dF):List eX→List eX
 | []=> [⟨a,b,[p]⟩]
 |B::t=>if HY a b B then ⟨B.bP,B.ah,B.aa++ [p]⟩::t else B::fI a b p t
theorem E2 {a b:Int}{p:Pr.dF}: ∀ {ds:List eX},cM a b ds=ds.length→fI a b p ds=ds++ [⟨a,b,[p]⟩]
 | [],_=>rfl
 |B::t,h=>by
  unfold cM at h;unfold fI;split at h
  ·simp at h
  ·rename_i ay;rw[if_neg ay,E2 (by simpa using h)];rfl
theorem vc {a b:Int}{p:Pr.dF}: ∀ {ds:List eX} (h:cM a b ds < ds.length),fI a b p ds=ds.set (cM a b ds) ⟨ds[cM a b ds].bP,ds[cM a b ds].ah,ds[cM a b ds].aa++ [p]⟩
 |B::t,h=>by
  by_cases ay:HY a b B
  ·have e:cM a b (B::t)=0:=by unfold cM;rw[if_pos ay]
   unfold fI;rw[if_pos ay];simp only[e,List.set_cons_zero,List.getElem_cons_zero]
  ·have e:cM a b (B::t)=cM a b t+1:=by rw[cM,if_neg ay]
   have cR:cM a b t < t.length:=by rw[e] at h;simpa using h
   unfold fI;rw[if_neg ay,vc cR];simp only[e,List.set_cons_succ,List.getElem_cons_succ]
def fZ:Nat→List eX→List (F×F)
 |_,[]=> []
 |c,B::t=>(.agg [.int .i64 B.bP,.int .i64 B.ah],.int .i64 (c:Int))::fZ (c+1) t
theorem ZH (a b J B:Int):fB (.agg [.int .i64 a,.int .i64 b]) (.agg [.int .i64 J,.int .i64 B])=decide (J=a∧B=b):=by
 simp only[fB,cp,ed,Bool.and_true];rw[Bool.eq_iff_iff];simp only[Bool.and_eq_true,beq_iff_eq,decide_eq_true_eq];constructor<;>rintro⟨h1,G⟩<;>exact⟨h1.symm,G.symm⟩
theorem HZ {a b:Int}: ∀ {ds:List eX} {c:Nat},dm (.agg [.int .i64 a,.int .i64 b]) (fZ c ds)=if cM a b ds < ds.length then some (.int .i64 ((c+cM a b ds:Nat):Int)) else none
 | [],c=>by simp[fZ,dm,cM]
 |B::t,c=>by
  have ih:=HZ (a:=a) (b:=b) (ds:=t) (c:=c+1);rw[fZ,dm,ZH,cM];unfold HY
  by_cases ay:B.bP=a∧B.ah=b
  ·simp[ay]
  ·simp only[ay,decide_false,Bool.false_eq_true,if_false,ih,List.length_cons,Nat.add_lt_add_iff_right];split
   ·congr 3;omega
   ·rfl
theorem ZI {a b:Int}{v:F}: ∀ {ds:List eX} {c:Nat},cM a b ds=ds.length→dy (.agg [.int .i64 a,.int .i64 b]) v (fZ c ds)=fZ c ds++ [(.agg [.int .i64 a,.int .i64 b],v)]
 | [],c,_=>rfl
 |B::t,c,h=>by
  unfold cM at h;split at h
  ·simp at h
  ·rename_i ay;have ih:=ZI (a:=a) (b:=b) (v:=v) (ds:=t) (c:=c+1) (by simpa using h);rw[fZ,dy,ZH,ih];unfold HY at ay;simp only[decide_eq_true_eq] at ay;simp[ay]
theorem ZJ {B:eX}: ∀ {ds:List eX} {c:Nat},fZ c (ds++ [B])=fZ c ds++ [(.agg [.int .i64 B.bP,.int .i64 B.ah],.int .i64 ((c+ds.length:Nat):Int))]
 | [],c=>rfl
 |x::t,c=>by
  rw[List.cons_append,fZ,ZJ,fZ,List.cons_append,List.length_cons,show c+1+t.length=c+(t.length+1) by omega]
theorem ZK: ∀ {ds ar:List eX} {c:Nat},ds.map (fun B=>(B.bP,B.ah))=ar.map (fun B=>(B.bP,B.ah))→fZ c ds=fZ c ar
 | [],[],_,_=>rfl
 | [],_::_,_,h=>by simp at h
 |_::_,[],_,h=>by simp at h
 |B::ds,e::ar,c,h=>by
  simp only[List.map_cons,List.cons.injEq,Prod.mk.injEq] at h;rw[fZ,fZ,ZK h.2,h.1.1,h.1.2]
theorem avS {a b:Int}{p:Pr.dF}{ds:List eX}(c:Nat)(h:cM a b ds < ds.length):fZ c (fI a b p ds)=fZ c ds:=by
 refine ZK ?_;rw[vc h,List.map_set];refine List.ext_getElem (by simp) fun j h1 G=> ?_;rw[List.getElem_set];split
 ·rename_i e;subst e;simp
 ·rfl
theorem avT {a b:Int}{p:Pr.dF}{ds:List eX}(c:Nat)(h:cM a b ds=ds.length):fZ c (fI a b p ds)=dy (.agg [.int .i64 a,.int .i64 b]) (.int .i64 ((c+ds.length:Nat):Int)) (fZ c ds):=by
 rw[E2 h,ZJ,ZI h]
theorem ZL {n:Nat}: ∀ {ds:List eX} {c:Nat},nG n (fZ c ds)=true
 | [],_=>rfl
 |B::t,c=>by
  show (dt n (.agg [.int .i64 B.bP,.int .i64 B.ah])&&dt n (.int .i64 (c:Int))&&nG n (fZ (c+1) t))=true;rw[ZL];rfl
def qG (X:Nat→Nat)(c:Nat)(B:eX):List F:= [.int .i64 B.bP,.int .i64 B.ah,.own (X c) B.aa.length 0 B.aa.length]
def gq (X:Nat→Nat)(ds:List eX):List (List F):=ds.mapIdx (qG X)
theorem kC {X:Nat→Nat}{ds:List eX}: (gq X ds).length=ds.length:=by simp[gq]
theorem L6 {X:Nat→Nat}{ds:List eX}{c:Nat}(h:c < ds.length): (gq X ds)[c]? =some (qG X c ds[c]):=by simp[gq,h]
theorem L8 {n:Nat}{X:Nat→Nat}{ds:List eX}(h: ∀ c,c < ds.length→X c < n):mj n (gq X ds)=true:=by
 have: ∀ el:List (List F),(∀ J∈el,gx n J=true)→mj n el=true:=by
  intro el
  induction el with
  |nil=>intro _;rfl
  |cons J el ih=>
   intro h;rw[mj,h J List.mem_cons_self,ih fun x aj=>h x (List.mem_cons_of_mem _ aj)];rfl
 refine this _ fun J ad=> ?_;obtain⟨c,av,rfl⟩:=List.getElem_of_mem ad;rw[kC] at av;have:=L6 (X:=X) av;rw[List.getElem?_eq_getElem (by rw[kC];exact av)] at this;rw[Option.some.inj this];unfold qG;simp only[gx,dt,Bool.and_true,Bool.true_and,decide_eq_true_eq];exact h c av
structure Cs (r:List Z) (M:cc) (ds:List eX) (X:Nat→Nat):Prop where
 all:jP r
 M:r[0]? =some (.ag 32 2 [[.int .i64 M.off,.pure 2 (ai M.cS)]])
 m:r[1]? =some (.be (.map true [.int .i64,.int .i64] (fZ 0 ds)))
 B:r[2]? =some (.ag 157 3 (gq X ds))
 x: ∀ c (h:c < ds.length),r[X c]? =some (.ag 88 3 (ai ds[c].aa))
 inj: ∀ c j,c < ds.length→j < ds.length→X c=X j→c=j
theorem RB {X:Nat→Nat}{ds:List eX}{k:Nat}{B:eX}:gq X (ds.set k B)=(gq X ds).set k (qG X k B):=by
 unfold gq;refine List.ext_getElem (by simp) fun j h1 G=> ?_;rw[List.getElem_mapIdx,List.getElem_set,List.getElem_set];split
 ·rename_i e;subst e;rfl
 ·rw[List.getElem_mapIdx]
theorem RD {X:Nat→Nat}{ds:List eX}{B:eX}:gq X (ds++ [B])=gq X ds++ [qG X ds.length B]:=by unfold gq;rw[List.mapIdx_append];simp
theorem RE {X ly:Nat→Nat}{ds:List eX}(h: ∀ c,c < ds.length→X c=ly c):gq X ds=gq ly ds:=by
 unfold gq;refine List.ext_getElem (by simp) fun j h1 G=> ?_;rw[List.getElem_mapIdx,List.getElem_mapIdx];unfold qG;rw[h j (by simpa using h1)]
theorem sA {r:List Z}{M:cc}{ds:List eX}{X:Nat→Nat}(h:Cs r M ds X){c:Nat}(av:c < ds.length):X c≠0∧X c≠1∧X c≠2∧X c < r.length:=by
 have aj:=h.x c av;refine⟨fun e=> ?_,fun e=> ?_,fun e=> ?_,km aj⟩
 ·rw[e,h.M] at aj;simp at aj
 ·rw[e,h.m] at aj;cases aj
 ·rw[e,h.B] at aj;simp at aj
theorem ZM {r W:List Z}{M:cc}{ds:List eX}{X:Nat→Nat}(h:Cs r M ds X){a b:Int}{p:Pr.dF}(ak:cM a b ds < ds.length)(hW:jP W)
 (bp: ∀ z bG,r[z]? =some bG→z≠2→z≠X (cM a b ds)→W[z]? =some bG)
 (G:W[2]? =some (.ag 157 3 ((gq X ds).set (cM a b ds) (qG X (cM a b ds) ⟨ds[cM a b ds].bP,ds[cM a b ds].ah,ds[cM a b ds].aa++ [p]⟩))))
 (aV:W[X (cM a b ds)]? =some (.ag 88 3 (ai (ds[cM a b ds].aa++ [p])))):Cs W M (fI a b p ds) X:=by
 obtain⟨bb,n1,eo,_⟩:=sA h ak;have hl: (fI a b p ds).length=ds.length:=by rw[vc ak,List.length_set]
 refine⟨hW,bp _ _ h.M (by omega) (fun e=>bb e.symm),?_,by rw[vc ak,RB];exact G,fun c av=> ?_,fun c j av hj=>h.inj c j (by omega) (by omega)⟩
 ·rw[avS 0 ak];exact bp _ _ h.m (by omega) (fun e=>n1 e.symm)
 ·rw[hl] at av;simp only[vc ak,List.getElem_set]
  by_cases e:cM a b ds=c
  ·subst e;rw[if_pos rfl];exact aV
  ·rw[if_neg e];exact bp _ _ (h.x c av) (sA h av).2.2.1 fun bK=>e (h.inj _ _ ak av bK.symm)
theorem ZN {r W:List Z}{M:cc}{ds:List eX}{X:Nat→Nat}(h:Cs r M ds X){a b:Int}{p:Pr.dF}(ak:cM a b ds=ds.length)(q:Nat)(avU:r.length≤q)(hW:jP W)
 (bp: ∀ z bG,r[z]? =some bG→z≠1→z≠2→W[z]? =some bG)
 (h1:W[1]? =some (.be (.map true [.int .i64,.int .i64] (dy (.agg [.int .i64 a,.int .i64 b]) (.int .i64 (ds.length:Int)) (fZ 0 ds)))))
 (G:W[2]? =some (.ag 157 3 (gq X ds++ [[.int .i64 a,.int .i64 b,.own q 1 0 1]])))
 (aV:W[q]? =some (.ag 88 3 (ai [p]))): ∃ ly,Cs W M (fI a b p ds) ly:=by
 refine⟨fun c=>if c < ds.length then X c else q,?_⟩;rw[E2 ak];refine⟨hW,bp _ _ h.M (by omega) (by omega),?_,?_,fun c av=> ?_,fun c j av hj=> ?_⟩
 ·rw[←E2 ak,avT 0 ak,Nat.zero_add];exact h1
 ·rw[RD,G];congr 3
  ·exact RE fun c av=>by rw[if_pos av]
  ·unfold qG;simp
 ·rw[List.length_append,List.length_singleton] at av
  by_cases e:c < ds.length
  ·simp only[if_pos e,List.getElem_append_left e];exact bp _ _ (h.x c e) (sA h e).2.1 (sA h e).2.2.1
  ·obtain rfl:c=ds.length:=by omega
   simp only[Nat.lt_irrefl,if_false,List.getElem_append_right (Nat.le_refl _),Nat.sub_self,List.getElem_cons_zero];exact aV
 ·rw[List.length_append,List.length_singleton] at av hj
  by_cases e:c < ds.length<;>by_cases f:j < ds.length
  ·simp only[if_pos e,if_pos f];exact h.inj c j e f
  ·simp only[if_pos e,if_neg f];intro g;have:=(sA h e).2.2.2;omega
  ·simp only[if_neg e,if_pos f];intro g;have:=(sA h f).2.2.2;omega
  ·intro _;omega
theorem avV {r:List Z}{M:cc}{ds:List eX}{X:Nat→Nat}(h:Cs r M ds X):lJ r [some 2] (List.range r.length) (gq X ds)=ai ds:=by
 rw[KV];unfold ai;refine List.ext_getElem (by simp[gq]) fun j h1 G=> ?_;have hj:j < ds.length:=by simpa using G
 rw[List.getElem_map,List.getElem_map];have aw:=L6 (X:=X) hj;rw[List.getElem?_eq_getElem (by rw[kC];exact hj)] at aw;rw[Option.some.inj aw];obtain⟨_,_,eo,hl⟩:=sA h hj;unfold qG;have af:bW r [some 2] (List.range r.length) (.own (X j) ds[j].aa.length 0 ds[j].aa.length)= .pure 3 (ai ds[j].aa):=by
  refine qx ?_ ?_ (h.x j hj) (by rw[bT]) ck
  ·simp[hE,eo.symm]
  ·simp;exact hl
 simp only[dT,af];rfl
theorem ZO: ∀ {l:List Pr.dF} {e:Int},Pr.io e l=true→0≤e→ ∀ p∈l,0≤p.R∧p.R < p.ab∧p.ab≤120968640∧p.ey.length≤1024∧Pr.dd p.R p.ab p.ey=true
 | [],_,_,_,p,ak=>by simp at ak
 |x::z,e,h,he,p,ak=>by
  simp only[Pr.io,Pr.tL,Pr.hR,Bool.and_eq_true,decide_eq_true_eq] at h;rcases List.mem_cons.1 ak with rfl|ak
  ·exact⟨by omega,by omega,by omega,h.1.1.2,h.1.2⟩
  ·exact ZO h.2 (by omega) p ak
theorem ZP {r t:List Z}(h: ∀ (z:Nat) (bG:Z),r[z]? =some bG→jc (r.length+t.length) bG=true)(ht: ∀ bG∈t,jc (r.length+t.length) bG=true):jP (r++t):=by
 intro z bG N;rw[List.length_append];rw[List.getElem?_append] at N;split at N
 ·exact h z bG N
 ·exact ht _ (List.mem_of_getElem? N)
theorem ZQ {n:Nat}{a b J:Int}{ds:List eX}:jc n (.be (.map true [.int .i64,.int .i64] (dy (.agg [.int .i64 a,.int .i64 b]) (.int .i64 J) (fZ 0 ds))))=true:=by
 have key: ∀ (el:List (F×F)),nG n el=true→nG n (dy (.agg [.int .i64 a,.int .i64 b]) (.int .i64 J) el)=true:=by
  intro el
  induction el with
  |nil=>intro _;rfl
  |cons x el ih=>
   intro h;obtain⟨k,v⟩:=x;have cR: (dt n k&&dt n v&&nG n el)=true:=h;simp only[Bool.and_eq_true] at cR;rw[dy];split
   ·show (dt n (.agg [.int .i64 a,.int .i64 b])&&dt n (.int .i64 J)&&nG n el)=true;rw[cR.2];rfl
   ·show (dt n k&&dt n v&&nG n _)=true;rw[cR.1.1,cR.1.2,ih cR.2];rfl
 exact key _ ZL
def Ct (M:cc)(ae:List cw)(e l:Int)(p:Pr.dF):Int:=bel p.R e l (ae.map (fW M))
def L9 (M:cc)(ae:List cw)(e l:Int)(p:Pr.dF):Int:=if 0≤Ct M ae e l p then (ae.map cw.ah).getD (Ct M ae e l p).toNat 0 else mm M p.R
def mY (M:cc)(ae:List cw)(e l:Int)(aa:List Pr.dF):List eX:=aa.foldl (fun ds p=>fI (Ct M ae e l p) (L9 M ae e l p) p ds) []
theorem RF {M:cc}{ae:List cw}{e l:Int}{aa:List Pr.dF}{c:Nat}(h:c < aa.length):mY M ae e l (aa.take (c+1))=fI (Ct M ae e l aa[c]) (L9 M ae e l aa[c]) aa[c] (mY M ae e l (aa.take c)):=by
 unfold mY;rw[List.take_succ_eq_append_getElem h,List.foldl_append];rfl
theorem ZR {a b:Int}{p:Pr.dF}: ∀ {ds:List eX},(fI a b p ds).length≤ds.length+1
 | []=>Nat.le_refl _
 |B::t=>by
  have:=ZR (a:=a) (b:=b) (p:=p) (ds:=t);unfold fI;split
  ·simp
  ·simpa using this
theorem ZS {a b:Int}{p:Pr.dF}{n:Nat}: ∀ {ds:List eX},(∀ B∈ds,B.aa.length≤n)→ ∀ B∈fI a b p ds,B.aa.length≤n+1
 | [],_,B,ay=>by rw[fI,List.mem_singleton] at ay;subst ay;simp
 |x::t,h,B,ay=>by
  unfold fI at ay;split at ay
  ·rcases List.mem_cons.1 ay with rfl|ay
   ·have:=h x List.mem_cons_self;simp only[List.length_append,List.length_singleton];omega
   ·have:=h B (List.mem_cons_of_mem _ ay);omega
  ·rcases List.mem_cons.1 ay with rfl|ay
   ·have:=h B List.mem_cons_self;omega
   ·exact ZS (fun d bt=>h d (List.mem_cons_of_mem _ bt)) B ay
theorem H0 {M:cc}{ae:List cw}{e l:Int}{aa:List Pr.dF}: ∀ {c:Nat},c≤aa.length→(mY M ae e l (aa.take c)).length≤c∧ ∀ B∈mY M ae e l (aa.take c),B.aa.length≤c
 |0,_=>by simp[mY]
 |c+1,h=>by
  obtain⟨h1,G⟩:=H0 (M:=M) (ae:=ae) (e:=e) (l:=l) (aa:=aa) (c:=c) (by omega);rw[RF (by omega)];exact⟨Nat.le_trans ZR (by omega),ZS G⟩
set_option maxHeartbeats 4000000 in
theorem avW (M:cc)(ae:List cw)(gy:jd M ae=0)(aa:List Pr.dF)(kk:Pr.lx aa=0)(e l:Int)(he:0≤e∧e≤1440)(hl:0≤l∧l≤1440):
 aO prog 69 [M.v,.pure 3 (ai ae),.pure 3 (ai aa),.int .i64 e,.int .i64 l] [] (fun v rs=>v= .bo [.pure 3 (ai (mY M ae e l aa)),.int .i64 0]∧rs= []):=by
 have avo:=YM gy;have aJL:=aun gy;have du:=LH M ae (by omega);have H1:aa.length≤1024∧Pr.io 0 aa=true:=by
  unfold Pr.lx at kk;split at kk
  ·cases kk
  ·split at kk
   ·exact⟨by omega,by assumption⟩
   ·cases kk
 have hV:=Pr.lQ aa (by omega);rw[kk] at hV;refine hJ func69 ZT (by simp[E3,H2]) ?_;unfold cc.v at *;simp only[go_sem,E3,H2]
 (refine E.ac ?_;simp only[go_sem])
 refine om [] [] (by simp) rfl (qw _ (by first|rfl|simp only[go_sem,ck])) du ?_;intro v rs an;unfold zV at an;rw[if_pos gy] at an;obtain⟨rfl,rfl⟩:=an;refine⟨.inl rfl,?_⟩;simp only[go_sem];generalize kU:ae.map (fW M)=vs at *;have xx:vs.length=ae.length:=by rw[←kU,List.length_map]
 have LI: ∀ v∈vs,0≤v.R∧v.R≤120968640:=fun v an=>by
  rw[←kU] at an;obtain⟨I,ao,rfl⟩:=List.mem_map.1 an;have:=QN (QP gy I ao);omega
 have nL: ∀ r0:Z,bW [r0,.ag 64 2 (ai vs)] [some 0] [1] (.own 1 ae.length 0 ae.length)= .pure 2 (ai vs):=fun r0=>qx rfl rfl rfl (by rw[bT,xx]) ck;refine E.jN [some 0] [1] rfl rfl (by simp only[go_sem]<;>rfl) ?_;simp only[List.map_cons,List.map_nil,nL,tv (.pure 3 (ai ae)) (by simp only[bJ,ck]),tv (.pure 3 (ai aa)) (by simp only[bJ,ck])];have bF:decide (e < 0)=false:=decide_eq_false (by omega);have bK:decide (1440 < e)=false:=decide_eq_false (by omega);have gX:decide (l < 0)=false:=decide_eq_false (by omega);have rt:decide (1440 < l)=false:=decide_eq_false (by omega);simp only[go_sem]
 (repeat (first| (refine E.ac ?_;simp only[go_sem,bF,bK,gX,rt])|simp only[go_sem,bF,bK,gX,rt]))
 refine bM hV (by simp only[bU,bJ,ck,Bool.and_self]) rfl ?_
 (repeat (first| (refine E.ac ?_;simp only[go_sem,bT])|simp only[go_sem,bT]))
 refine hv (fun D r=> ∃ (c:Nat) (X:Nat→Nat),c≤aa.length∧D= [(1,.pure 3 (ai ae)),(3,.int .i64 e),(4,.int .i64 l),(5,.bd 0 1 0 0),(12,.pure 2 (ai vs)),(15,.bE 1),(16,.own 2 (mY M ae e l (aa.take c)).length 0 (mY M ae e l (aa.take c)).length),(51,.pure 3 (ai aa)),(52,.int .i64 aa.length),(53,.int .i64 c)]∧Cs r M (mY M ae e l (aa.take c)) X)
  (fun D _=>match bs D 53 with| .int _ j=>(aa.length-j).toNat|_=>0) ?_ ?_
 ·(refine E.iv 16 157 3 rfl (E.eW [1,3,4,5,12,15,16,51,52,53] ?_);simp only[go_sem])
  refine E.ac ⟨0,fun _=>0,by omega,rfl,⟨?_,rfl,rfl,rfl,fun c h=>absurd h (by simp[mY]),fun c j h=>absurd h (by simp[mY])⟩⟩;intro z bG N
  match z,N with
  |0,N=>cases N;exact kA (by simp only[dY,bU,bJ,ck,Bool.and_self,Bool.and_true])
  |1,N=>cases N;rfl
  |2,N=>cases N;rfl
  |z+3,N=>simp at N
 rintro D r ⟨c,X,av,rfl,eZ⟩;have aP:=dB (c:=c) (by omega)
 by_cases aI:c < aa.length
 rotate_left
 ·have h1:decide ((c:Int) < aa.length)=false:=decide_eq_false (by omega);obtain rfl:c=aa.length:=by omega
  rw[List.take_length] at *;simp only[go_sem,E3,H2]
  (repeat (first| (refine E.ac ?_;simp only[go_sem,h1])|simp only[go_sem,h1]))
  have jK:=(H0 (M:=M) (ae:=ae) (e:=e) (l:=l) (aa:=aa) (c:=aa.length) (Nat.le_refl _)).1;rw[List.take_length] at jK;generalize mY M ae e l aa=ds at *;have ay:=eZ.B;have hf:lJ r [some 2] (List.range r.length) (gq X ds)=ai ds:=avV eZ;have RG:eC r (List.range r.length) [some 2] [some 2]=some [.ag 157 3 (ai ds)]:=by simp only[eC,ay,hr,hf]
  refine E.jN [some 2] (List.range r.length) rfl rfl RG ?_;have lZ:bW r [some 2] (List.range r.length) (.own 2 ds.length 0 ds.length)= .own 0 ds.length 0 ds.length:=by simp[bW,hE]
  simp only[go_sem];have nL:bW [.ag 157 3 (ai ds)] [] [0] (.bo [.own 0 ds.length 0 ds.length,.int .i64 0])= .bo [.pure 3 (ai ds),.int .i64 0]:=by
   have:bW [.ag 157 3 (ai ds)] [] [0] (.own 0 ds.length 0 ds.length)= .pure 3 (ai ds):=qx rfl rfl rfl (by rw[bT]) ck;rw[bW];simp only[dT,this];rfl
  refine E.jN [] [0] rfl rfl (by simp only[go_sem]<;>rfl) ?_;have nF:List.take ds.length (ai ds)=ai ds:=List.take_of_length_le (by rw[bT];exact Nat.le_refl _);simp only[go_sem,nL,bT,ck,nF];exact E.ac ⟨rfl,rfl⟩
 have h1:decide ((c:Int) < aa.length)=true:=decide_eq_true (by omega);have tM: (0:Int)≤c:=by omega
 have tN: (c:Int) < aa.length:=by omega
 have nM: (ai aa).getD c []=aJ.J aa[c]:=cT aI;have dV:=RF (M:=M) (ae:=ae) (e:=e) (l:=l) aI;obtain⟨uv,rX⟩:=H0 (M:=M) (ae:=ae) (e:=e) (l:=l) (aa:=aa) (c:=c) av;have hC:=ZO H1.2 (by omega) aa[c] (List.getElem_mem aI);have uB:Ct M ae e l aa[c]=bel aa[c].R e l vs:=by unfold Ct;rw[kU]
 have avX:L9 M ae e l aa[c]=if 0≤bel aa[c].R e l vs then (ae.map cw.ah).getD (bel aa[c].R e l vs).toNat 0 else mm M aa[c].R:=by unfold L9;rw[uB]
 have RH:=YP aa[c].R e l vs;rw[uB,avX] at dV;generalize ak:aa[c]=p at *;generalize Af:mY M ae e l (aa.take c)=ds at *;have ba:=eZ.M;have hm:=eZ.m;have ay:=eZ.B;simp only[go_sem,E3,H2]
 (repeat (first| (refine E.ac ?_;simp only[go_sem,h1,tM,tN,nM,bT,Pr.H3,dH,dO,ee,ec,List.append_assoc])|simp only[go_sem,h1,tM,tN,nM,bT,Pr.H3,dH,dO,ee,ec,List.append_assoc]))
 refine bM (auq vs (by omega) LI p.R e l (by omega) he) rfl rfl ?_;generalize bel p.R e l vs=bP at *
 by_cases oK:0≤bP
 ·rw[if_pos oK] at dV;have lo:decide (0≤bP)=true:=decide_eq_true oK;have vX:bP < ae.length:=by omega
  have gs: (ai ae).getD bP.toNat []=aJ.J (ae[bP.toNat]'(by omega)):=cT (by omega);have avY: (ae.map cw.ah).getD bP.toNat 0=(ae[bP.toNat]'(by omega)).ah:=by
   rw[List.getD_eq_getElem?_getD,List.getElem?_map,List.getElem?_eq_getElem (by omega)];rfl
  rw[avY] at dV
  (repeat (first| (refine E.ac ?_;simp only[go_sem,dH,dO,ee,ec,List.append_assoc,List.length_append,lo,oK,vX,gs,uZ,bT])|simp only[go_sem,dH,dO,ee,ec,List.append_assoc,List.length_append,lo,oK,vX,gs,uZ,bT]))
  generalize (ae[bP.toNat]'(by omega)).ah=ah at dV ⊢;have avZ:=RA bP ah ds
  by_cases gi:cM bP ah ds < ds.length
  ·have hw:dm (.agg [.int .i64 bP,.int .i64 ah]) (fZ 0 ds)=some (.int .i64 (cM bP ah ds:Int)):=by
    rw[HZ,if_pos gi,Nat.zero_add]
   (repeat (first| (refine E.ac ?_;simp only[go_sem,dH,dO,ee,ec,List.append_assoc,List.length_append,bQ ba,bQ hm,bQ ay,hw])|simp only[go_sem,dH,dO,ee,ec,List.append_assoc,List.length_append,bQ ba,bQ hm,bQ ay,hw]))
   refine bM (Ma p.ey (by omega)) (by simp only[bU,bJ,ck,Bool.and_self]) rfl ?_;have yr: (gq X ds).getD (cM bP ah ds) []= [.int .i64 (ds[cM bP ah ds]).bP,.int .i64 (ds[cM bP ah ds]).ah,.own (X (cM bP ah ds)) (ds[cM bP ah ds]).aa.length 0 (ds[cM bP ah ds]).aa.length]:=by
    rw[List.getD_eq_getElem?_getD,L6 gi];rfl
   have aj:=eZ.x _ gi;have mZ: ((cM bP ah ds:Nat):Int) < ds.length:=by omega
   have iN: (0:Int)≤((cM bP ah ds:Nat):Int):=by omega
   (repeat (first| (refine E.ac ?_;simp only[go_sem,dH,dO,ee,ec,List.append_assoc,List.length_append,bQ ba,bQ hm,bQ ay,bQ aj,yr,kC,iN,mZ,Int.toNat_natCast])|simp only[go_sem,dH,dO,ee,ec,List.append_assoc,List.length_append,bQ ba,bQ hm,bQ ay,bQ aj,yr,kC,iN,mZ,Int.toNat_natCast]))
   have L2:=km ay;have hne: (2==r.length+2)=false:=beq_false_of_ne (by omega);rw[hne];refine⟨trivial,by have:=rX _ (List.getElem_mem gi);omega,?_⟩;have RI:X (cM bP ah ds)≠0:=fun e=>by rw[e,ba] at aj;simp at aj
   have RJ:X (cM bP ah ds)≠1:=fun e=>by rw[e,hm] at aj;cases aj
   have H4:X (cM bP ah ds)≠2:=fun e=>by rw[e,ay] at aj;simp at aj
   simp only[tF aj];have sB: (r.set (X (cM bP ah ds)) (.ag 88 3 (ai (ds[cM bP ah ds].aa++ [⟨p.R,p.ab,p.ey⟩]))))[0]? =some (.ag 32 2 [[.int .i64 M.off,.pure 2 (ai M.cS)]]):=by rw[List.getElem?_set,if_neg RI];exact ba
   have ov: (r.set (X (cM bP ah ds)) (.ag 88 3 (ai (ds[cM bP ah ds].aa++ [⟨p.R,p.ab,p.ey⟩]))))[1]? =some (.be (.map true [.int .i64,.int .i64] (fZ 0 ds))):=by rw[List.getElem?_set,if_neg RJ];exact hm
   have qH: (r.set (X (cM bP ah ds)) (.ag 88 3 (ai (ds[cM bP ah ds].aa++ [⟨p.R,p.ab,p.ey⟩]))))[2]? =some (.ag 157 3 (gq X ds)):=by rw[List.getElem?_set,if_neg H4];exact ay
   have nJ: (r.set (X (cM bP ah ds)) (.ag 88 3 (ai (ds[cM bP ah ds].aa++ [⟨p.R,p.ab,p.ey⟩])))).length=r.length:=List.length_set;generalize dc:r.set (X (cM bP ah ds)) (.ag 88 3 (ai (ds[cM bP ah ds].aa++ [⟨p.R,p.ab,p.ey⟩])))=aF at *;simp only[←nJ]
   (repeat (first| (refine E.ac ?_;simp only[go_sem,dH,dO,ee,ec,List.append_assoc,List.length_append,bQ sB,bQ ov,bQ qH,yr,kC,iN,mZ,Int.toNat_natCast,aP])|simp only[go_sem,dH,dO,ee,ec,List.append_assoc,List.length_append,bQ sB,bQ ov,bQ qH,yr,kC,iN,mZ,Int.toNat_natCast,aP]))
   refine⟨⟨c+1,X,by omega,by rw[dV,vc gi,List.length_set],?_⟩,by omega⟩;rw[dV,tF qH];have Cu:=(sA eZ gi).2.2.2;have RK: ∀ j,j < ds.length→X j < aF.length:=fun j hj=>by rw[nJ];exact (sA eZ hj).2.2.2
   refine ZM eZ gi ?_ (fun z bG N G aV=> ?_) ?_ ?_
   ·have RL:jP aF:=by rw[←dc];exact Co eZ.all (kA ck)
    refine EV (Co RL ?_) ?_
    ·have e: ((gq X ds).set (cM bP ah ds) [.int .i64 (ds[cM bP ah ds]).bP,.int .i64 (ds[cM bP ah ds]).ah,.own (X (cM bP ah ds)) ((ds[cM bP ah ds]).aa.length+1) 0 ((ds[cM bP ah ds]).aa.length+1)])=gq X (fI bP ah p ds):=by
      rw[vc gi,RB];unfold qG;simp
     rw[e];refine L8 fun j hj=> ?_;rw[vc gi,List.length_set] at hj;exact RK j hj
    ·intro bG y;simp only[fR] at y;rcases y with rfl|rfl|rfl
     ·exact kA (by simp only[dY,bU,bJ,ck,Bool.and_self,Bool.and_true])
     ·exact kA (by simp only[dY,bU,bJ,Bool.and_self,Bool.and_true])
     ·exact kA (by simp only[dY,bU,bJ,ck,Bool.and_self,Bool.and_true])
   ·refine bQ ?_;rw[List.getElem?_set,if_neg (fun e=>G e.symm),←dc,List.getElem?_set,if_neg (fun e=>aV e.symm)];exact N
   ·refine bQ ?_;rw[List.getElem?_set,if_pos rfl,if_pos (by omega)];unfold qG;simp
   ·refine bQ ?_;rw[List.getElem?_set,if_neg (fun e=>H4 e.symm),←dc,List.getElem?_set,if_pos rfl,if_pos Cu]
  ·have hw:dm (.agg [.int .i64 bP,.int .i64 ah]) (fZ 0 ds)=none:=by
    rw[HZ,if_neg gi]
   have Cv:cM bP ah ds=ds.length:=by omega
   (repeat (first| (refine E.ac ?_;simp only[go_sem,dH,dO,ee,ec,List.append_assoc,List.length_append,bQ ba,bQ hm,bQ ay,hw])|simp only[go_sem,dH,dO,ee,ec,List.append_assoc,List.length_append,bQ ba,bQ hm,bQ ay,hw]))
   have L2:=km ay;simp only[tF hm];have sB: (r.set 1 (.be (.map true [.int .i64,.int .i64] (dy (.agg [.int .i64 bP,.int .i64 ah]) (.int .i64 (ds.length:Int)) (fZ 0 ds)))))[0]? =some (.ag 32 2 [[.int .i64 M.off,.pure 2 (ai M.cS)]]):=by rw[List.getElem?_set,if_neg (by omega)];exact ba
   have ov: (r.set 1 (.be (.map true [.int .i64,.int .i64] (dy (.agg [.int .i64 bP,.int .i64 ah]) (.int .i64 (ds.length:Int)) (fZ 0 ds)))))[1]? =some (.be (.map true [.int .i64,.int .i64] (dy (.agg [.int .i64 bP,.int .i64 ah]) (.int .i64 (ds.length:Int)) (fZ 0 ds)))):=by rw[List.getElem?_set,if_pos rfl,if_pos (by omega)]
   have qH: (r.set 1 (.be (.map true [.int .i64,.int .i64] (dy (.agg [.int .i64 bP,.int .i64 ah]) (.int .i64 (ds.length:Int)) (fZ 0 ds)))))[2]? =some (.ag 157 3 (gq X ds)):=by rw[List.getElem?_set,if_neg (by omega)];exact ay
   have nJ: (r.set 1 (.be (.map true [.int .i64,.int .i64] (dy (.agg [.int .i64 bP,.int .i64 ah]) (.int .i64 (ds.length:Int)) (fZ 0 ds))))).length=r.length:=List.length_set;generalize dc:r.set 1 (.be (.map true [.int .i64,.int .i64] (dy (.agg [.int .i64 bP,.int .i64 ah]) (.int .i64 (ds.length:Int)) (fZ 0 ds))))=aF at *;simp only[←nJ]
   (repeat (first| (refine E.ac ?_;simp only[go_sem,dH,dO,ee,ec,List.append_assoc,List.length_append,bQ sB,bQ ov,bQ qH,kC])|simp only[go_sem,dH,dO,ee,ec,List.append_assoc,List.length_append,bQ sB,bQ ov,bQ qH,kC]))
   refine⟨by omega,?_⟩;simp only[tF qH];obtain⟨cs,fS⟩: ∃ cs,cs=gq X ds++ [[.int .i64 bP,.int .i64 ah,.bH]]:=⟨_,rfl⟩;have yt:cs.length=ds.length+1:=by rw[fS,List.length_append,kC];rfl
   have tO:cs.getD ds.length []= [.int .i64 bP,.int .i64 ah,.bH]:=by rw[fS,List.getD_eq_getElem?_getD,List.getElem?_append_right (by rw[kC];exact Nat.le_refl _),kC,Nat.sub_self];rfl
   have H5: ∀ d,cs.set ds.length d=gq X ds++ [d]:=fun d=>by rw[fS,List.set_append_right _ _ (by rw[kC];exact Nat.le_refl _),kC,Nat.sub_self];rfl
   rw[←fS];have yu: (aF.set 2 (.ag 157 3 cs))[0]? =some (.ag 32 2 [[.int .i64 M.off,.pure 2 (ai M.cS)]]):=by rw[List.getElem?_set,if_neg (by omega)];exact sB
   have vd: (aF.set 2 (.ag 157 3 cs))[2]? =some (.ag 157 3 cs):=by rw[List.getElem?_set,if_pos rfl,if_pos (by omega)]
   have sC: (aF.set 2 (.ag 157 3 cs))[1]? =aF[1]? :=by rw[List.getElem?_set,if_neg (by omega)]
   rw[ov] at sC;have Ag: (aF.set 2 (.ag 157 3 cs)).length=aF.length:=List.length_set;generalize du:aF.set 2 (.ag 157 3 cs)=S at *;simp only[←Ag];have mZ: (ds.length:Int) < ((ds.length+1:Nat):Int):=by omega
   have iN: (0:Int)≤(ds.length:Int):=by omega
   (repeat (first| (refine E.ac ?_;simp only[go_sem,dH,dO,ee,ec,List.append_assoc,List.length_append,bQ yu,bQ sC,bQ vd,tO,yt,iN,mZ])|simp only[go_sem,dH,dO,ee,ec,List.append_assoc,List.length_append,bQ yu,bQ sC,bQ vd,tO,yt,iN,mZ]))
   refine bM (Ma p.ey (by omega)) (by simp only[bU,bJ,ck,Bool.and_self]) rfl ?_
   (repeat (first| (refine E.ac ?_;simp only[go_sem,dH,dO,ee,ec,List.append_assoc,List.length_append,bQ yu,bQ sC,bQ vd,tO,yt,H5,iN,mZ,Int.toNat_natCast,aP])|simp only[go_sem,dH,dO,ee,ec,List.append_assoc,List.length_append,bQ yu,bQ sC,bQ vd,tO,yt,H5,iN,mZ,Int.toNat_natCast,aP]))
   have hne: (2==S.length+3)=false:=beq_false_of_ne (by omega);rw[hne];refine⟨trivial,?_⟩;rw[tF vd]
   (repeat (first| (refine E.ac ?_;simp only[go_sem,aP])|simp only[go_sem,aP]))
   obtain⟨ly,yp⟩:=ZN (W:=S.set 2 (.ag 157 3 (gq X ds++ [[.int .i64 bP,.int .i64 ah,.own (S.length+4) 1 0 1]]))++ [.ag 88 3 [[.int .i64 p.R,.int .i64 p.ab,.pure 2 (ai p.ey)]],.ag 280 2 [[.int .i64 bP,.int .i64 ah]],.ag 157 3 [[.int .i64 bP,.int .i64 ah,.bH]],.ag 88 3 [[.int .i64 p.R,.int .i64 p.ab,.pure 2 (ai p.ey)]],.ag 88 3 [[.int .i64 p.R,.int .i64 p.ab,.pure 2 (ai p.ey)]]]) (p:=p) eZ Cv (S.length+4) (by omega) (by
    refine ZP (fun z bG N=> ?_) ?_
    ·rw[List.getElem?_set] at N;split at N
     ·split at N
      ·cases N;have e:gq X ds++ [[.int .i64 bP,.int .i64 ah,.own (S.length+4) 1 0 1]]=gq (fun c=>if c < ds.length then X c else S.length+4) (ds++ [⟨bP,ah,[p]⟩]):=by
        rw[RD];congr 1
        ·exact RE fun c av=>by rw[if_pos av]
        ·unfold qG;simp
       rw[e];refine L8 fun c av=> ?_;rw[List.length_append,List.length_singleton] at av;simp only[List.length_set,List.length_cons,List.length_nil];split
       ·have:=(sA eZ (by assumption)).2.2.2;omega
       ·omega
      ·cases N
     ·rename_i G;rw[←du,List.getElem?_set,if_neg G,←dc,List.getElem?_set] at N;split at N
      ·split at N
       ·cases N;exact ZQ
       ·cases N
      ·exact Qx (by rw[List.length_set];omega) (eZ.all z bG N)
    ·intro bG y;simp only[fR] at y;rcases y with rfl|rfl|rfl|rfl|rfl
     all_goals exact kA (by simp only[dY,bU,bJ,ck,Bool.and_self,Bool.and_true])) (fun z bG N h1 G=>by
    refine bQ ?_;rw[List.getElem?_set,if_neg (fun e=>G e.symm),←du,List.getElem?_set,if_neg (fun e=>G e.symm),←dc,List.getElem?_set,if_neg (fun e=>h1 e.symm)];exact N) (by
    refine bQ ?_;rw[List.getElem?_set,if_neg (by omega)];exact sC) (by
    refine bQ ?_;rw[List.getElem?_set,if_pos rfl,if_pos (by omega)]) (by
    rw[List.getElem?_append_right (by rw[List.length_set];omega),List.length_set,Nat.add_sub_cancel_left];rfl)
   exact⟨⟨c+1,ly,by omega,by rw[dV,E2 Cv,List.length_append];rfl,by rw[dV];exact yp⟩,by omega⟩
 ·rw[if_neg oK] at dV;have lo:decide (0≤bP)=false:=decide_eq_false oK;have awa:ot M p.R=0:=by unfold ot;rw[if_neg (by omega),if_neg (by omega)]
  have fC:=YA M p.R;rw[awa,if_pos rfl] at fC;unfold cc.v at fC
  (repeat (first| (refine E.ac ?_;simp only[go_sem,dH,dO,ee,ec,List.append_assoc,List.length_append,lo,oK,bQ ba])|simp only[go_sem,dH,dO,ee,ec,List.append_assoc,List.length_append,lo,oK,bQ ba]))
  refine bM fC (by simp only[bU,bJ,ck,Bool.and_self,Bool.and_true]) rfl ?_;generalize mm M p.R=ah at dV ⊢
  (repeat (first| (refine E.ac ?_;simp only[go_sem,dH,dO,ee,ec,List.append_assoc,List.length_append,lo,oK,bQ ba])|simp only[go_sem,dH,dO,ee,ec,List.append_assoc,List.length_append,lo,oK,bQ ba]))
  have avZ:=RA bP ah ds
  by_cases gi:cM bP ah ds < ds.length
  ·have hw:dm (.agg [.int .i64 bP,.int .i64 ah]) (fZ 0 ds)=some (.int .i64 (cM bP ah ds:Int)):=by
    rw[HZ,if_pos gi,Nat.zero_add]
   (repeat (first| (refine E.ac ?_;simp only[go_sem,dH,dO,ee,ec,List.append_assoc,List.length_append,bQ ba,bQ hm,bQ ay,hw])|simp only[go_sem,dH,dO,ee,ec,List.append_assoc,List.length_append,bQ ba,bQ hm,bQ ay,hw]))
   refine bM (Ma p.ey (by omega)) (by simp only[bU,bJ,ck,Bool.and_self]) rfl ?_;have yr: (gq X ds).getD (cM bP ah ds) []= [.int .i64 (ds[cM bP ah ds]).bP,.int .i64 (ds[cM bP ah ds]).ah,.own (X (cM bP ah ds)) (ds[cM bP ah ds]).aa.length 0 (ds[cM bP ah ds]).aa.length]:=by
    rw[List.getD_eq_getElem?_getD,L6 gi];rfl
   have aj:=eZ.x _ gi;have mZ: ((cM bP ah ds:Nat):Int) < ds.length:=by omega
   have iN: (0:Int)≤((cM bP ah ds:Nat):Int):=by omega
   (repeat (first| (refine E.ac ?_;simp only[go_sem,dH,dO,ee,ec,List.append_assoc,List.length_append,bQ ba,bQ hm,bQ ay,bQ aj,yr,kC,iN,mZ,Int.toNat_natCast])|simp only[go_sem,dH,dO,ee,ec,List.append_assoc,List.length_append,bQ ba,bQ hm,bQ ay,bQ aj,yr,kC,iN,mZ,Int.toNat_natCast]))
   have L2:=km ay;have hne: (2==r.length+2)=false:=beq_false_of_ne (by omega);rw[hne];refine⟨trivial,by have:=rX _ (List.getElem_mem gi);omega,?_⟩;have RI:X (cM bP ah ds)≠0:=fun e=>by rw[e,ba] at aj;simp at aj
   have RJ:X (cM bP ah ds)≠1:=fun e=>by rw[e,hm] at aj;cases aj
   have H4:X (cM bP ah ds)≠2:=fun e=>by rw[e,ay] at aj;simp at aj
   simp only[tF aj];have sB: (r.set (X (cM bP ah ds)) (.ag 88 3 (ai (ds[cM bP ah ds].aa++ [⟨p.R,p.ab,p.ey⟩]))))[0]? =some (.ag 32 2 [[.int .i64 M.off,.pure 2 (ai M.cS)]]):=by rw[List.getElem?_set,if_neg RI];exact ba
   have ov: (r.set (X (cM bP ah ds)) (.ag 88 3 (ai (ds[cM bP ah ds].aa++ [⟨p.R,p.ab,p.ey⟩]))))[1]? =some (.be (.map true [.int .i64,.int .i64] (fZ 0 ds))):=by rw[List.getElem?_set,if_neg RJ];exact hm
   have qH: (r.set (X (cM bP ah ds)) (.ag 88 3 (ai (ds[cM bP ah ds].aa++ [⟨p.R,p.ab,p.ey⟩]))))[2]? =some (.ag 157 3 (gq X ds)):=by rw[List.getElem?_set,if_neg H4];exact ay
   have nJ: (r.set (X (cM bP ah ds)) (.ag 88 3 (ai (ds[cM bP ah ds].aa++ [⟨p.R,p.ab,p.ey⟩])))).length=r.length:=List.length_set;generalize dc:r.set (X (cM bP ah ds)) (.ag 88 3 (ai (ds[cM bP ah ds].aa++ [⟨p.R,p.ab,p.ey⟩])))=aF at *;simp only[←nJ]
   (repeat (first| (refine E.ac ?_;simp only[go_sem,dH,dO,ee,ec,List.append_assoc,List.length_append,bQ sB,bQ ov,bQ qH,yr,kC,iN,mZ,Int.toNat_natCast,aP])|simp only[go_sem,dH,dO,ee,ec,List.append_assoc,List.length_append,bQ sB,bQ ov,bQ qH,yr,kC,iN,mZ,Int.toNat_natCast,aP]))
   refine⟨⟨c+1,X,by omega,by rw[dV,vc gi,List.length_set],?_⟩,by omega⟩;rw[dV,tF qH];have Cu:=(sA eZ gi).2.2.2;have RK: ∀ j,j < ds.length→X j < aF.length:=fun j hj=>by rw[nJ];exact (sA eZ hj).2.2.2
   refine ZM eZ gi ?_ (fun z bG N G aV=> ?_) ?_ ?_
   ·have RL:jP aF:=by rw[←dc];exact Co eZ.all (kA ck)
    refine EV (Co RL ?_) ?_
    ·have e: ((gq X ds).set (cM bP ah ds) [.int .i64 (ds[cM bP ah ds]).bP,.int .i64 (ds[cM bP ah ds]).ah,.own (X (cM bP ah ds)) ((ds[cM bP ah ds]).aa.length+1) 0 ((ds[cM bP ah ds]).aa.length+1)])=gq X (fI bP ah p ds):=by
      rw[vc gi,RB];unfold qG;simp
     rw[e];refine L8 fun j hj=> ?_;rw[vc gi,List.length_set] at hj;exact RK j hj
    ·intro bG y;simp only[fR] at y;rcases y with rfl|rfl|rfl
     ·exact kA (by simp only[dY,bU,bJ,ck,Bool.and_self,Bool.and_true])
     ·exact kA (by simp only[dY,bU,bJ,Bool.and_self,Bool.and_true])
     ·exact kA (by simp only[dY,bU,bJ,ck,Bool.and_self,Bool.and_true])
   ·refine bQ ?_;rw[List.getElem?_set,if_neg (fun e=>G e.symm),←dc,List.getElem?_set,if_neg (fun e=>aV e.symm)];exact N
   ·refine bQ ?_;rw[List.getElem?_set,if_pos rfl,if_pos (by omega)];unfold qG;simp
   ·refine bQ ?_;rw[List.getElem?_set,if_neg (fun e=>H4 e.symm),←dc,List.getElem?_set,if_pos rfl,if_pos Cu]
  ·have hw:dm (.agg [.int .i64 bP,.int .i64 ah]) (fZ 0 ds)=none:=by
    rw[HZ,if_neg gi]
   have Cv:cM bP ah ds=ds.length:=by omega
   (repeat (first| (refine E.ac ?_;simp only[go_sem,dH,dO,ee,ec,List.append_assoc,List.length_append,bQ ba,bQ hm,bQ ay,hw])|simp only[go_sem,dH,dO,ee,ec,List.append_assoc,List.length_append,bQ ba,bQ hm,bQ ay,hw]))
   have L2:=km ay;simp only[tF hm];have sB: (r.set 1 (.be (.map true [.int .i64,.int .i64] (dy (.agg [.int .i64 bP,.int .i64 ah]) (.int .i64 (ds.length:Int)) (fZ 0 ds)))))[0]? =some (.ag 32 2 [[.int .i64 M.off,.pure 2 (ai M.cS)]]):=by rw[List.getElem?_set,if_neg (by omega)];exact ba
   have ov: (r.set 1 (.be (.map true [.int .i64,.int .i64] (dy (.agg [.int .i64 bP,.int .i64 ah]) (.int .i64 (ds.length:Int)) (fZ 0 ds)))))[1]? =some (.be (.map true [.int .i64,.int .i64] (dy (.agg [.int .i64 bP,.int .i64 ah]) (.int .i64 (ds.length:Int)) (fZ 0 ds)))):=by rw[List.getElem?_set,if_pos rfl,if_pos (by omega)]
   have qH: (r.set 1 (.be (.map true [.int .i64,.int .i64] (dy (.agg [.int .i64 bP,.int .i64 ah]) (.int .i64 (ds.length:Int)) (fZ 0 ds)))))[2]? =some (.ag 157 3 (gq X ds)):=by rw[List.getElem?_set,if_neg (by omega)];exact ay
   have nJ: (r.set 1 (.be (.map true [.int .i64,.int .i64] (dy (.agg [.int .i64 bP,.int .i64 ah]) (.int .i64 (ds.length:Int)) (fZ 0 ds))))).length=r.length:=List.length_set;generalize dc:r.set 1 (.be (.map true [.int .i64,.int .i64] (dy (.agg [.int .i64 bP,.int .i64 ah]) (.int .i64 (ds.length:Int)) (fZ 0 ds))))=aF at *;simp only[←nJ]
   (repeat (first| (refine E.ac ?_;simp only[go_sem,dH,dO,ee,ec,List.append_assoc,List.length_append,bQ sB,bQ ov,bQ qH,kC])|simp only[go_sem,dH,dO,ee,ec,List.append_assoc,List.length_append,bQ sB,bQ ov,bQ qH,kC]))
   refine⟨by omega,?_⟩;simp only[tF qH];obtain⟨cs,fS⟩: ∃ cs,cs=gq X ds++ [[.int .i64 bP,.int .i64 ah,.bH]]:=⟨_,rfl⟩;have yt:cs.length=ds.length+1:=by rw[fS,List.length_append,kC];rfl
   have tO:cs.getD ds.length []= [.int .i64 bP,.int .i64 ah,.bH]:=by rw[fS,List.getD_eq_getElem?_getD,List.getElem?_append_right (by rw[kC];exact Nat.le_refl _),kC,Nat.sub_self];rfl
   have H5: ∀ d,cs.set ds.length d=gq X ds++ [d]:=fun d=>by rw[fS,List.set_append_right _ _ (by rw[kC];exact Nat.le_refl _),kC,Nat.sub_self];rfl
   rw[←fS];have yu: (aF.set 2 (.ag 157 3 cs))[0]? =some (.ag 32 2 [[.int .i64 M.off,.pure 2 (ai M.cS)]]):=by rw[List.getElem?_set,if_neg (by omega)];exact sB
   have vd: (aF.set 2 (.ag 157 3 cs))[2]? =some (.ag 157 3 cs):=by rw[List.getElem?_set,if_pos rfl,if_pos (by omega)]
   have sC: (aF.set 2 (.ag 157 3 cs))[1]? =aF[1]? :=by rw[List.getElem?_set,if_neg (by omega)]
   rw[ov] at sC;have Ag: (aF.set 2 (.ag 157 3 cs)).length=aF.length:=List.length_set;generalize du:aF.set 2 (.ag 157 3 cs)=S at *;simp only[←Ag];have mZ: (ds.length:Int) < ((ds.length+1:Nat):Int):=by omega
   have iN: (0:Int)≤(ds.length:Int):=by omega
   (repeat (first| (refine E.ac ?_;simp only[go_sem,dH,dO,ee,ec,List.append_assoc,List.length_append,bQ yu,bQ sC,bQ vd,tO,yt,iN,mZ])|simp only[go_sem,dH,dO,ee,ec,List.append_assoc,List.length_append,bQ yu,bQ sC,bQ vd,tO,yt,iN,mZ]))
   refine bM (Ma p.ey (by omega)) (by simp only[bU,bJ,ck,Bool.and_self]) rfl ?_
   (repeat (first| (refine E.ac ?_;simp only[go_sem,dH,dO,ee,ec,List.append_assoc,List.length_append,bQ yu,bQ sC,bQ vd,tO,yt,H5,iN,mZ,Int.toNat_natCast,aP])|simp only[go_sem,dH,dO,ee,ec,List.append_assoc,List.length_append,bQ yu,bQ sC,bQ vd,tO,yt,H5,iN,mZ,Int.toNat_natCast,aP]))
   have hne: (2==S.length+3)=false:=beq_false_of_ne (by omega);rw[hne];refine⟨trivial,?_⟩;rw[tF vd]
   (repeat (first| (refine E.ac ?_;simp only[go_sem,aP])|simp only[go_sem,aP]))
   obtain⟨ly,yp⟩:=ZN (W:=S.set 2 (.ag 157 3 (gq X ds++ [[.int .i64 bP,.int .i64 ah,.own (S.length+4) 1 0 1]]))++ [.ag 88 3 [[.int .i64 p.R,.int .i64 p.ab,.pure 2 (ai p.ey)]],.ag 280 2 [[.int .i64 bP,.int .i64 ah]],.ag 157 3 [[.int .i64 bP,.int .i64 ah,.bH]],.ag 88 3 [[.int .i64 p.R,.int .i64 p.ab,.pure 2 (ai p.ey)]],.ag 88 3 [[.int .i64 p.R,.int .i64 p.ab,.pure 2 (ai p.ey)]]]) (p:=p) eZ Cv (S.length+4) (by omega) (by
    refine ZP (fun z bG N=> ?_) ?_
    ·rw[List.getElem?_set] at N;split at N
     ·split at N
      ·cases N;have e:gq X ds++ [[.int .i64 bP,.int .i64 ah,.own (S.length+4) 1 0 1]]=gq (fun c=>if c < ds.length then X c else S.length+4) (ds++ [⟨bP,ah,[p]⟩]):=by
        rw[RD];congr 1
        ·exact RE fun c av=>by rw[if_pos av]
        ·unfold qG;simp
       rw[e];refine L8 fun c av=> ?_;rw[List.length_append,List.length_singleton] at av;simp only[List.length_set,List.length_cons,List.length_nil];split
       ·have:=(sA eZ (by assumption)).2.2.2;omega
       ·omega
      ·cases N
     ·rename_i G;rw[←du,List.getElem?_set,if_neg G,←dc,List.getElem?_set] at N;split at N
      ·split at N
       ·cases N;exact ZQ
       ·cases N
      ·exact Qx (by rw[List.length_set];omega) (eZ.all z bG N)
    ·intro bG y;simp only[fR] at y;rcases y with rfl|rfl|rfl|rfl|rfl
     all_goals exact kA (by simp only[dY,bU,bJ,ck,Bool.and_self,Bool.and_true])) (fun z bG N h1 G=>by
    refine bQ ?_;rw[List.getElem?_set,if_neg (fun e=>G e.symm),←du,List.getElem?_set,if_neg (fun e=>G e.symm),←dc,List.getElem?_set,if_neg (fun e=>h1 e.symm)];exact N) (by
    refine bQ ?_;rw[List.getElem?_set,if_neg (by omega)];exact sC) (by
    refine bQ ?_;rw[List.getElem?_set,if_pos rfl,if_pos (by omega)]) (by
    rw[List.getElem?_append_right (by rw[List.length_set];omega),List.length_set,Nat.add_sub_cancel_left];rfl)
   exact⟨⟨c+1,ly,by omega,by rw[dV,E2 Cv,List.length_append];rfl,by rw[dV];exact yp⟩,by omega⟩
end Go.Proofs.YtpincjkjoeopkaaGreatDoor
