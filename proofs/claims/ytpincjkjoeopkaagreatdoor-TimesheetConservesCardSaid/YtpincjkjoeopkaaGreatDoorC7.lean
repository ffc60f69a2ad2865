/- The abstract machine. -/
import Derived.Shelf.SlIterI.Collect
import Derived.RangeFuncGives
import Derived.Test.YtpincjkjoeopkaaGreatDoorC4
import Derived.Laws.AppendOwn
set_option linter.all false
namespace Go.Proofs
open Go.RowKit Go.Maps Go.Sort Go.Shelf
variable {P:Program}
def yc {H:Type}(P:Program)(k:TypeId)(ls:DataW H)(left:Lit->Bool)(bV:List Value):Prop:=
 bV.Nodup/\ ∀x,x∈bV↔ ∃l,keyOf P k x=some l/\has ls l=true/\left l=false
theorem yc.asL {H:Type}(k:TypeId)(ls:DataW H):yc P k ls (has ls) []:=
 ⟨List.nodup_nil,λx=>⟨λh=>by simp at h,fun⟨l,_,d,G⟩=>by rw[d] at G;cases G⟩⟩
theorem yc.oc {H:Type}{k:TypeId}(K:Keyed P k){ls:DataW H}{left:Lit->Bool}{bV:List Value}(h:yc P k ls left bV){x:Value}{l:Lit}{y:DataW H}(aj:keyOf P k x=some l)(hw:left l=true)(Qi:∀asM,ls.atKey l asM=y):
 yc P k ls (λM=>left M&& !M.sameKey l) (bV++[x]):=by
 have asN:has ls l=true:=has_true_of_atKey Qi;have gi:x∉bV:=λhm=>by
  obtain⟨cb,d,_,au⟩:=(h.2 x).1 hm;rw[aj] at d;cases d;rw[hw] at au;cases au
 refine⟨List.nodup_append.2 ⟨h.1,by simp,λa aC b af=>by simp at af;subst af;exact λe=>gi (e▸aC)⟩,λy=> ?_⟩;rw[List.mem_append,List.mem_singleton,h.2 y];constructor
 ·rintro (⟨cb,d,G,au⟩|rfl)
  ·exact⟨cb,d,G,by simp[au]⟩
  ·refine⟨l,aj,asN,?_⟩;simp[WideAt.sameKey_self (K.key aj)]
 ·rintro⟨cb,d,G,au⟩
  by_cases hl:left cb=true
  ·right
   simp only[hl,Bool.true_and,Bool.not_eq_false'] at au;cases WideAt.sameKey_eq au;exact K.inj d aj
  ·left;exact⟨cb,d,G,by simpa using hl⟩
theorem asO (w:World)(x y:Value)(t:TypeId):∀j u,[x,y][j]? =some u->(w.alloc (.cells #[x,y] t)).cell? ((⟨w.heap.size,0,none⟩:Addr).add j)=some u:=by
 intro j u hj
 match j,hj with
 |0,hj=>simp at hj;subst hj;simp[Addr.add]
 |1,hj=>simp at hj;subst hj;simp[Addr.add]
def uT (bV:List Value):List Value:=bV.flatMap λx=>x.cells.toList
def Qj (P:Program)(k:TypeId)(bm:Fence)(n:Nat)(g:Nat)(qy:Array Value)(Rd:List Value->Prop)(cs:Nat)(w:World):Prop:=
 ∀(l:Nat) (hY:List Value->World->Prop) (W:World),Below w.heap.size w W->AbidesFrom W.heap.size hY->
  (∀pre x hx,hY pre hx->pre.length<cs->(∃kl,keyOf P k x=some kl)->YieldAt bm (n-1) P l #[x] hx λe W'=>e= .returned (.bool true)/\hY (pre++[x]) W'/\KeepsWalks hx W')->
  hY [] W->
  CallsIn bm n P g (#[.func (.yield l) #[] #[]]++qy) W λe W'=>(∃v,e= .returned v)/\ ∃aq,Rd aq/\hY aq W'
end Go.Proofs
namespace Go.Abs
open Go.RowKit (Below)
variable [dE]
theorem asP {C:bD}(h:ci C)(e:TypeId)(U g cap:Nat)(ap:Array Value)(am:List (List F))(vs:List Value)(w':World)(af:Below C.w.heap.size C.w w')(wm:C.w.heap.size<=g)(gi:w'.heap[g]? =some (.cells ap e (0,0)))
 (ao:ap.size=cap*U) (hm:cap<=maxLen) (an:am.length<=cap) (he:fs C U am vs) (ht:ap.toList.take vs.length=vs) (ay:Dr.B->C.w.drawn<=w'.drawn):
 ci ⟨C.r++[.ag e U am],C.bu++[some (g,cap)],C.bY,w',C.bZ⟩/\
 cm C.r.length C ⟨C.r++[.ag e U am],C.bu++[some (g,cap)],C.bY,w',C.bZ⟩:=by
 have mQ:∀b,b<C.w.heap.size->w'.heap[b]? =C.w.heap[b]? :=λb hl=>af.block b hl;have later:cm C.r.length C ⟨C.r++[.ag e U am],C.bu++[some (g,cap)],C.bY,w',C.bZ⟩:=by
  refine⟨af.os,af.tape,af.output,af.size,λb af _=>mQ b af,λz b J N=> ?_,aKF rfl,aKF rfl,by simp,λz cO bz dk N df=> ?_,λz fa N df=> ?_,ay⟩
  ·simp only[aK9] at N;split at N
   ·exact .inl ⟨z,J,N⟩
   ·right
    rename_i aI;cases O:z-C.bu.length with
    |zero=>rw[O] at N;simp at N;omega
    |succ k=>rw[O] at N;simp at N
  ·simp only[aK9,N,aK5] at df;refine⟨dk,df,aKM _,λ_=> ?_⟩;simp only[aK9];rw[Rc (by rw[h.dw];exact N)]
  ·simp only[aK9,N,aK5] at df;refine⟨fa,df,?_⟩;simp only[aK9];rw[Rc (by rw[h.dw];exact N)]
 have nz:=later.ext;refine⟨⟨h.bZ,by simp[h.dw],λz bG N=> ?_,λz cG b J dR d G=> ?_,λb af=>aLI (h.bY b af) later.size⟩,later⟩
 ·simp only[aK9] at N;split at N
  ·rename_i aI;refine dQ.move nz (aKF rfl) ?_ (λb J af=>mQ b (h.lt af)) (h.r z bG N);simp only[aK9];rw[Rc (by rw[h.dw];exact aI)]
  ·rename_i aI;have O:z=C.r.length:=by
    cases O:z-C.r.length with
    |zero=>omega
    |succ k=>rw[O] at N;simp at N
   subst O;simp at N;subst N;rw[dQ];refine⟨some (g,cap),?_,λbp=> ?_,ap,gi,ao,hm,an,(he.ext nz).xB (KQ gi ht)⟩
   ·simp[h.dw.symm]
   ·have:=h.bY _ bp;omega
 ·simp only[aK9] at d G;have last:∀{z:Nat} {b J:Nat},¬z<C.bu.length-> [some (g,cap)][z-C.bu.length]? =some (some (b,J))->z=C.bu.length/\b=g:=by
   intro z b J N hh;cases O:z-C.bu.length with
   |zero=>rw[O] at hh;simp at hh;exact⟨by omega,hh.1.symm⟩
   |succ k=>rw[O] at hh;simp at hh
  split at d<;>split at G
  ·exact h.inj z cG b J dR d G
  ·rename_i cq;obtain⟨_,af⟩:=last cq G;have:=h.lt d;omega
  ·rename_i N _;obtain⟨_,af⟩:=last N d;have:=h.lt G;omega
  ·rename_i N cq;rw[(last N d).1,(last cq G).1]
theorem aO.asQ {P:Program}{f:FuncId}{args:List F}{r:List Z}{bh:F->List Z->Prop}(h0:¬Dr.B)
 (h:∀(C:bD) (dA:List Value),C.r=r->ci C->GOk C->aE C args dA->Calls P f dA.toArray C.w λe w'=> ∃(aZ:Value) (aW:TypeId) (U:Nat) (l:List (List F)) (vs:List Value),
  e= .returned aZ/\Below C.w.heap.size C.w w'/\w'.ownsRow C.w.heap.size aW U aZ l.length vs/\fs C U l vs/\bh (.own r.length l.length 0 l.length) (r++[.ag aW U l])):aO P f args r bh:=by
 intro C dA N aA hG dv;refine (h C dA N aA hG dv).mono ?_;rintro e w' ⟨aZ,aW,U,l,vs,rfl,af,pK,jI,aV⟩;subst N;obtain⟨cK,⟨rfl,oY⟩|⟨g,cap,oZ,rfl,wm,nE,eA,hm,eK,nF⟩⟩:=pK
 ·obtain⟨bO,cd⟩:=P4 aA af (λB=>absurd B h0);have hl:l=[]:=aN5.1 oY;subst hl;obtain⟨fk,hB⟩:=GE bO aW U;refine⟨_,.own C.r.length 0 0 0,_,aKF rfl,aKF rfl,?_,fk,cd.trans hB (aKM _),aV⟩;rw[Rep];refine⟨aA.bZ,⟨_,_,aKF rfl⟩,by simp,λbK pu mM an=> ?_⟩;simp at an;obtain⟨rfl,rfl,rfl⟩:=an;exact⟨by simp,λ_=>⟨by simp,none,by simp[<-aA.dw],⟨_,aKF rfl⟩,aKF rfl,aKF rfl⟩⟩
 ·have xx:vs.length=l.length*U:=cK;obtain⟨bO,cd⟩:=asP aA aW U g cap oZ l vs w' af wm nE eK hm eA jI (by rw[xx];exact nF) (λB=>absurd B h0);refine⟨_,.own C.r.length l.length 0 l.length,_,aKF rfl,aKF rfl,?_,bO,cd,aV⟩;rw[aA.bZ];exact JJ aA.dw eA
end Go.Abs
