/- The abstract machine. -/
import Derived.Test.YtpincjkjoeopkaaGreatDoorC5
import Derived.Shelf.SlSortCmp.NoneTotal
set_option linter.all false
namespace Go.Abs
open Go.Sort Go.Proofs Go.Shelf Go.RowKit
variable [dE]
def B0:F->Value
 | .int k n=> .int k n
 | .bool b=> .bool b
 | .str I=> .string I
 |_=>undef
def zH:F->Bool
 | .int .. | .bool _| .str _=>true
 |_=>false
class uR (bj:Type) [aJ bj]:Prop where
 lt:∀x:bj,(aJ.J x).all zH=true
def fp {bj:Type}[aJ bj](x:bj):List Value:=(aJ.J x).map B0
theorem Xb {C:bD}{a:F}{v:Value}(h:zH a=true):Rep C a v↔v=B0 a:=by
 cases a<;>simp[zH] at h<;>simp[Rep,B0]
theorem arV {a:F}(h:zH a=true): (B0 a).oneCell'=true:=by
 cases a<;>simp[zH] at h<;>rfl
theorem D5 {C:bD}:∀{aq:List F} {vs:List Value},aq.all zH=true->(aE C aq vs↔vs=aq.map B0)
 | [],vs,_=>by simp[aE]
 |a::aq,vs,h=>by
  simp only[aMN,aKJ] at h;rw[aE,aKP];constructor
  ·rintro⟨v,bS,rfl,d,G⟩;rw[(Xb h.1).1 d,(D5 h.2).1 G]
  ·rintro rfl;exact⟨_,_,aKF rfl,(Xb h.1).2 (aKF rfl),(D5 h.2).2 (aKF rfl)⟩
section
variable {bj:Type} [aJ bj] [uR bj]
theorem Xc (x:bj): (fp x).length=aJ.U bj:=by rw[fp,aLe,aJ.len]
theorem Xd (x:bj):∀v∈fp x,v.oneCell'=true:=by
 intro v an;obtain⟨a,aC,rfl⟩:=aKZ.1 an;exact arV (aLW.1 (uR.lt x) a aC)
theorem Qe:∀(l:List bj),((ai l).flatten).all zH=true
 | []=>aKF rfl
 |x::l=>by
  show ((aJ.J x++(ai l).flatten).all zH)=true;rw[aP4,uR.lt x,Qe l];exact aKF rfl
theorem KZ:∀(l:List bj),((ai l).flatten).map B0=(l.map fp).flatten
 | []=>aKF rfl
 |x::l=>by
  show (aJ.J x++(ai l).flatten).map B0=fp x++(l.map fp).flatten;rw[aLU,KZ l];exact aKF rfl
theorem Xe {C:bD}(l:List bj):fs C (aJ.U bj) (ai l) ((l.map fp).flatten):=by
 refine⟨?_,?_,?_⟩
 ·intro e he;obtain⟨x,_,rfl⟩:=aKZ.1 he;exact aJ.len x
 ·rw[<-KZ];exact (D5 (Qe l)).2 (aKF rfl)
 ·intro v an;obtain⟨e,he,an⟩:=List.mem_flatten.1 an;obtain⟨x,_,rfl⟩:=aKZ.1 he;exact Xd x v an
theorem Xf [Inhabited bj]{k:Nat}(O:∀x:bj,(fp x).length=k):∀(l:List bj) (t:Nat),t<l.length*k->((l.map fp).flatten)[t]? =(fp (l.getD (t / k) default))[t%k]?
 | [],t,h=>by simp at h
 |x::l,t,h=>by
  rw[aK8,aLM,Nat.one_mul] at h;show (fp x++(l.map fp).flatten)[t]? =_;have K0:0<k:=by
   rcases aNJ k with h0|h0
   ·subst h0;simp at h
   ·exact h0
  rw[aK9,O];split
  ·rename_i aI;rw[Nat.div_eq_of_lt aI,aNI aI];rfl
  ·rename_i Bh;obtain⟨u,rfl⟩:∃u,t=u+k:=⟨t-k,by omega⟩;rw[aP5,Nat.add_div_right _ K0,Nat.add_mod_right,Xf O l u (by omega)];simp
theorem Xg [Inhabited bj](l:List bj): (Sort.flatK fp (aJ.U bj) l.toArray).toList=(l.map fp).flatten:=by
 have O:=Xc (bj:=bj);have hl: ((l.map fp).flatten).length=l.length*aJ.U bj:=by
  rw[<-KZ,aLe];exact (zi λe he=>by obtain⟨x,_,rfl⟩:=aKZ.1 he;exact aJ.len x).trans (by rw[bT])
 apply aLT;intro t
 by_cases ht:t<l.length*aJ.U bj
 ·have K0:0<aJ.U bj:=by
   rcases aNJ (aJ.U bj) with h0|h0
   ·rw[h0] at ht;simp at ht
   ·exact h0
  rw[Xf O l t ht];have ay:t / aJ.U bj<l.length:=by rw[Nat.div_lt_iff_lt_mul K0];exact ht
  have hm:t%aJ.U bj<(fp (l.getD (t / aJ.U bj) default)).length:=by rw[O];exact Nat.mod_lt _ K0
  rw[aLJ,aLN (by rw[size_flatK];simpa using ht),aKS hm];simp only[Sort.flatK,Array.getElem_map,Array.getElem_range];congr 1;have bF:l.toArray[t / aJ.U bj]! =l.getD (t / aJ.U bj) default:=by simp[ay]
  rw[bF];exact aP6 (fp (l.getD (t / aJ.U bj) default)) _ hm
 ·rw[aLB (by rw[aLE,size_flatK];simpa using ht),aLB (by rw[hl];omega)]
end
theorem arW {W w':World}(bp:w'.os=W.os)(ht:w'.tape=W.tape)(ak:w'.output=W.output)(ao:W.heap.size<=w'.heap.size)(af:∀b,b<W.heap.size->w'.heap[b]? =W.heap[b]?)(ay:W.drawn<=w'.drawn):
 ∃q arX,w'=grow (W.drewN q) arX:=by
 refine⟨w'.drawn-W.drawn,w'.heap.extract W.heap.size w'.heap.size,?_⟩;obtain⟨h,t,B,V,p⟩:=w';simp only at bp ht ak ao af ay;subst bp;subst ht;subst ak;unfold grow World.drewN;simp only[World.mk.injEq,aMi,aMh];refine⟨?_,by omega⟩;apply Array.ext_getElem?;intro c
 by_cases av:c<W.heap.size
 ·rw[aOr av];exact af c av
 ·rw[Array.getElem?_append_right (by omega)]
  by_cases G:c<h.size
  ·rw[aLN G,aLN (by simp;omega)];simp only[Array.getElem_extract];congr 2;omega
  ·rw[aO6 (by omega),aO6 (by simp;omega)]
theorem aO.G5 (zI:Dr.B){bj:Type}[aJ bj][uR bj][Inhabited bj]{P:Program}{ρ:Ren}{f g:FuncId}{aW:TypeId}(aY:SlLaysF0.n6 P ρ)(hf:ρ.f 6=f)(arY:∀w,(isAgg (ρ.t 24)).run P w= .ok true w)(arZ:∀w,(Go.sizeOf (ρ.t 24)).run P w= .ok (aJ.U bj) w)
 (tx:bj->bj->Int) (se:SWO (ltOf tx)) (hA:∀x y:bj,aO P g [.agg (aJ.J x),.agg (aJ.J y)] [] λv rs=>v= .int .i64 (tx x y)/\rs=[]) (B1:∀args w,(callFunc g args).run P w= .ok (.enter g args) w)
 (l:List bj) (hl:l.length<4611686018427387904):
 aO P f [.own 0 l.length 0 l.length,.fn g []] [.ag aW (aJ.U bj) (ai l)] λv rs=>v= .bo []/\ ∃cb:List bj,cb.Perm l/\cb.Pairwise (λx y=> ¬tx y x<0)/\rs=[.ag aW (aJ.U bj) (ai cb)]:=by
 subst hf;intro C dA N aA hG dv;rw[aE] at dv;obtain⟨v0,bS,rfl,an,aH⟩:=dv;rw[aE] at aH;obtain⟨aMp,bS,rfl,nD,aH⟩:=aH;rw[aE] at aH;subst aH;rw[Rep] at nD;obtain⟨asa,rfl,Xh⟩:=nD;rw[aE] at Xh;have asb:asa= #[]:=Array.toList_eq_nil_iff.1 Xh;subst asb;have iV:C.r[0]? =some (.ag aW (aJ.U bj) (ai l)):=by rw[N];rfl
 by_cases h0:l=[]
 ·subst h0;rw[Rep] at an;obtain⟨_,⟨cy,J,rfl⟩,_⟩:=an;refine (AnyF.slices_SortFunc_none aY cy J _ C.w).mono ?_;rintro e w' ⟨rfl,rfl⟩;exact⟨_,.bo [],C,rfl,rfl,by rw[Rep];exact⟨#[],rfl,by simp[aE]⟩,aA,by rw[N.symm];exact cm.refl C,rfl,[],aNK _,List.Pairwise.nil,N⟩
 have iG:0<l.length:=aNL.2 h0;rcases aA.ag iV with ⟨_,qo⟩|⟨b,cap,ap,ak,zG,nE,eK,vK,eA,dp⟩
 ·have:=bT (l:=l);rw[qo] at this;simp at this;omega
 rw[Rep] at an;obtain⟨hC,_,_,an⟩:=an;obtain⟨_,an⟩:=an _ _ _ iV;obtain⟨_,p,hT,an⟩:=an (by rw[bT]);obtain rfl:=aMY (ak.symm.trans hT);obtain⟨a,J,rfl,_,BT,D3,Qb,_⟩:=an;obtain⟨arQ,rfl⟩:=Qb rfl;have Qc:a=⟨b,0,none⟩:=by cases a;simp_all
 subst Qc;obtain⟨vs,jI,oM⟩:=dp.tg;have kU:vs=(l.map fp).flatten:=by rw[(D5 (Qe l)).1 jI.kO,KZ]
 subst kU;have vL:b<C.w.heap.size:=(aLp.1 nE).1;have uQ:HoldsK fp (aJ.U bj) C.w b 0 l.toArray:=by
  intro j hj;have oo:j<(Sort.flatK fp (aJ.U bj) l.toArray).toList.length:=by simpa using hj
  refine⟨?_,by simp[World.frozen?,nE]⟩;have d:=oM j ((Sort.flatK fp (aJ.U bj) l.toArray)[j]!) (by
   rw[<-Xg l,aLJ,aLN (by simpa using hj)];congr 1;exact (aP6 _ _ _).symm)
  exact d
 have asc:∀k,k<dE.n->k≠b:=λk O he=>by subst he;exact hG.2.1 k O 0 J ak
 have asd:CmpLays P g #[] fp (aJ.U bj) tx b 0 l.toArray.size C.w:=by
  intro m os K1 B2 x y;have ase:∀k,k<C.w.heap.size->k≠b->(sortWorldK fp (aJ.U bj) C.w b 0 m K1 os).heap[k]? =C.w.heap[k]? :=by
   intro k O OH;show ((C.w.heap.modify b _)++os)[k]? =_;rw[aOr (by simpa using O),aMw,S (λe=>OH e.symm)]
  have K2:C.w.heap.size<=(sortWorldK fp (aJ.U bj) C.w b 0 m K1 os).heap.size:=by
   show _<=((C.w.heap.modify b _)++os).size;simp
  have asf:GOk (ctx0 (sortWorldK fp (aJ.U bj) C.w b 0 m K1 os)):=
   ⟨aLk hG.1 K2,λk O z J h=>by simp[ctx0] at h,dE.oI _ _ (λk O=>ase k (aLI O hG.1) (asc k O)) hG.2.2⟩
  have aj:=hA x y (ctx0 (sortWorldK fp (aJ.U bj) C.w b 0 m K1 os)) [.agg (fp x).toArray,.agg (fp y).toArray] rfl (WG _) asf
   (repL_cons (by rw[Rep];exact⟨_,rfl,(D5 (uR.lt x)).2 (by rw[fp])⟩) (repL_cons (by rw[Rep];exact⟨_,rfl,(D5 (uR.lt y)).2 (by rw[fp])⟩) repL_nil))
  have hargs: #[Value.agg (fp x).toArray,.agg (fp y).toArray]++ #[]=[Value.agg (fp x).toArray,.agg (fp y).toArray].toArray:=by simp
  rw[hargs];refine Calls.mono aj ?_;rintro e w' ⟨aZ,v,aB,rfl,rfl,d,G,au,rfl,_⟩;rw[Rep] at d;subst d;exact⟨rfl,arW au.os au.tape au.output au.size (λk O=>au.block k O λz J h=>by simp[ctx0] at h) (au.drawn zI)⟩
 have JZ:=AnyQ.slices_SortFunc aY (aJ.U bj) arY arZ fp Xc Xd tx se g #[] b 0 J l.toArray C.w B1 asd uQ vL (by simpa using hl);rw[show l.toArray.size=l.length from by simp] at JZ;refine Calls.mono JZ ?_;rintro e w' ⟨rfl,iy,n,os,⟨lo,_,vY⟩,K3,rfl⟩;obtain⟨cb,rfl⟩:∃cb:List bj,iy=cb.toArray:=⟨iy.toList,by simp⟩;have cK:cb.length=l.length:=by simpa using lo
 have kV:cb.Perm l:=by
  have bF: (cb.toArray.extract 0 l.length).toList=cb:=by simp[<-cK]
  have bK: (l.toArray.extract 0 l.length).toList=l:=by simp
  rw[bF,bK] at vY;exact vY
 have K4:cb.Pairwise (λx y=> ¬tx y x<0):=by
  rw[aN4];intro c j av hj asg;have:=K3 c j (aOp _) asg (by rw[<-cK];exact hj);simpa[ltOf,av,hj] using this
 have lj:=Xg cb;have KX: (sortWorldK fp (aJ.U bj) C.w b 0 n cb.toArray os).heap[b]? =some (.cells (putCells id 0 (Sort.flatK fp (aJ.U bj) cb.toArray) ap) aW (0,0)):=by
  show (((C.w.heap.modify b (onCells (putCells id 0 (Sort.flatK fp (aJ.U bj) cb.toArray))))++os)[b]?)=_;rw[aOr (by simpa using vL),aMw];simp[nE,onCells]
 have dJ: (putCells id 0 (Sort.flatK fp (aJ.U bj) cb.toArray) ap).size=J*aJ.U bj:=by unfold putCells;simpa using eK
 have ash: (Sort.flatK fp (aJ.U bj) cb.toArray).size=l.length*aJ.U bj:=by rw[size_flatK];simp[cK]
 have gN:l.length*aJ.U bj<=ap.size:=by
  rw[eK];exact aMF _ (by simpa[bT] using eA)
 have ht: (putCells id 0 (Sort.flatK fp (aJ.U bj) cb.toArray) ap).toList.take ((cb.map fp).flatten).length=(cb.map fp).flatten:=by
  rw[<-lj];clear lj KX dJ;generalize Sort.flatK fp (aJ.U bj) cb.toArray=bm at ash ⊢;apply aLT;intro c
  by_cases av:c<bm.size
  ·have Qd:c<ap.size:=by omega
   simp only[aLE,aMO,Rc av,aLJ,putCells,Array.getElem?_mapIdx,aLN Qd,aML,aLN av];rw[Rc ⟨aOp _,by omega⟩];congr 1;exact aP6 bm c av
  ·rw[aLB (by simp at av ⊢;omega),aLB (by simpa using av)]
 have asi:C.w.grownBy (sortWorldK fp (aJ.U bj) C.w b 0 n cb.toArray os) (some b):=by
  refine⟨rfl,rfl,rfl,?_,λk O hne=> ?_⟩
  ·show _<=((C.w.heap.modify b _)++os).size;simp
  ·show ((C.w.heap.modify b _)++os)[k]? =_;rw[aOr (by simpa using O),aMw,S (λe=>hne (by rw[e]))]
 obtain⟨d,G⟩:=zl aA iV ak b J (putCells id 0 (Sort.flatK fp (aJ.U bj) cb.toArray) ap) (ai cb) ((cb.map fp).flatten) _ asi (.inl rfl) KX dJ vK
  (by simpa[bT,cK] using eA) (Xe cb) ht (by simp[bT,cK]) (λ_=>rfl) (aNs _ _)
 refine⟨_,.bo [],_,rfl,rfl,by rw[Rep];exact⟨#[],rfl,by simp[aE]⟩,d,?_,rfl,cb,kV,K4,?_⟩
 ·rw[N] at G ⊢;exact G
 ·rw[N];rfl
end Go.Abs
