/- The abstract machine. -/
import Derived.Shelf.SlIterI.Collect
import Derived.RangeFuncGives
import Derived.Test.YtpincjkjoeopkaaGreatDoorD4
import Derived.Laws.AppendOwn
set_option linter.all false
namespace Go.Proofs
open Go.RowKit Go.Maps Go.Sort Go.Shelf
variable {P:Program}
def yc {H:Type}(P:Program)(k:TypeId)(ls:DataW H)(left:Lit→Bool)(bV:List Value):Prop:=
 bV.Nodup∧ ∀ x,x∈bV↔ ∃ l,keyOf P k x=some l∧has ls l=true∧left l=false
theorem yc.asL {H:Type}(k:TypeId)(ls:DataW H):yc P k ls (has ls) []:=
 ⟨List.nodup_nil,fun x=>⟨fun h=>by simp at h,fun⟨l,_,h1,G⟩=>by rw[h1] at G;cases G⟩⟩
theorem yc.oc {H:Type}{k:TypeId}(K:Keyed P k){ls:DataW H}{left:Lit→Bool}{bV:List Value}(h:yc P k ls left bV){x:Value}{l:Lit}{y:DataW H}(aj:keyOf P k x=some l)(hw:left l=true)(Qi: ∀ asM,ls.atKey l asM=y):
 yc P k ls (fun M=>left M&& !M.sameKey l) (bV++ [x]):=by
 have asN:has ls l=true:=has_true_of_atKey Qi;have gi:x∉bV:=fun hm=>by
  obtain⟨cb,h1,_,au⟩:=(h.2 x).1 hm;rw[aj] at h1;cases h1;rw[hw] at au;cases au
 refine⟨List.nodup_append.2 ⟨h.1,by simp,fun a aC b hb=>by simp at hb;subst hb;exact fun e=>gi (e▸aC)⟩,fun y=> ?_⟩;rw[List.mem_append,List.mem_singleton,h.2 y];constructor
 ·rintro (⟨cb,h1,G,au⟩|rfl)
  ·exact⟨cb,h1,G,by simp[au]⟩
  ·refine⟨l,aj,asN,?_⟩;simp[WideAt.sameKey_self (K.key aj)]
 ·rintro⟨cb,h1,G,au⟩
  by_cases hl:left cb=true
  ·right
   simp only[hl,Bool.true_and,Bool.not_eq_false'] at au;cases WideAt.sameKey_eq au;exact K.inj h1 aj
  ·left;exact⟨cb,h1,G,by simpa using hl⟩
theorem asO (w:World)(x y:Value)(t:TypeId): ∀ j u,[x,y][j]? =some u→(w.alloc (.cells #[x,y] t)).cell? ((⟨w.heap.size,0,none⟩:Addr).add j)=some u:=by
 intro j u aX
 match j,aX with
 |0,aX=>simp at aX;subst aX;simp[Addr.add]
 |1,aX=>simp at aX;subst aX;simp[Addr.add]
def uT (bV:List Value):List Value:=bV.flatMap fun x=>x.cells.toList
def Qj (P:Program)(k:TypeId)(bm:Fence)(n:Nat)(g:Nat)(qy:Array Value)(S:List Value→Prop)(cs:Nat)(w:World):Prop:=
 ∀ (l:Nat) (hY:List Value→World→Prop) (W:World),Below w.heap.size w W→AbidesFrom W.heap.size hY→
  (∀ pre x hx,hY pre hx→pre.length < cs→(∃ kl,keyOf P k x=some kl)→YieldAt bm (n-1) P l #[x] hx fun e W'=>e= .returned (.bool true)∧hY (pre++ [x]) W'∧KeepsWalks hx W')→
  hY [] W→
  CallsIn bm n P g (#[.func (.yield l) #[] #[]]++qy) W fun e W'=>(∃ v,e= .returned v)∧ ∃ aq,S aq∧hY aq W'
end Go.Proofs
namespace Go.Abs
open Go.RowKit (Below)
variable [dE]
theorem asP {C:bD}(h:ci C)(e:TypeId)(U g cap:Nat)(ap:Array Value)(am:List (List F))(vs:List Value)(w':World)(hb:Below C.w.heap.size C.w w')(wm:C.w.heap.size≤g)(gi:w'.heap[g]? =some (.cells ap e (0,0)))
 (ao:ap.size=cap*U) (hm:cap≤maxLen) (an:am.length≤cap) (he:fs C U am vs) (ht:ap.toList.take vs.length=vs) (ay:Dr.B→C.w.drawn≤w'.drawn):
 ci ⟨C.r++ [.ag e U am],C.bu++ [some (g,cap)],C.bY,w',C.bZ⟩∧
 cm C.r.length C ⟨C.r++ [.ag e U am],C.bu++ [some (g,cap)],C.bY,w',C.bZ⟩:=by
 have mQ: ∀ b,b < C.w.heap.size→w'.heap[b]? =C.w.heap[b]? :=fun b hl=>hb.block b hl;have later:cm C.r.length C ⟨C.r++ [.ag e U am],C.bu++ [some (g,cap)],C.bY,w',C.bZ⟩:=by
  refine⟨hb.os,hb.tape,hb.output,hb.size,fun b hb _=>mQ b hb,fun z b J N=> ?_,_root_.id rfl,_root_.id rfl,by simp,fun z cO bz dk N df=> ?_,fun z fa N df=> ?_,ay⟩
  ·simp only[List.getElem?_append] at N;split at N
   ·exact .inl ⟨z,J,N⟩
   ·right
    rename_i aI;cases O:z-C.bu.length with
    |zero=>rw[O] at N;simp at N;omega
    |succ k=>rw[O] at N;simp at N
  ·simp only[List.getElem?_append,N,if_true] at df;refine⟨dk,df,Nat.le_refl _,fun _=> ?_⟩;simp only[List.getElem?_append];rw[if_pos (by rw[h.dw];exact N)]
  ·simp only[List.getElem?_append,N,if_true] at df;refine⟨fa,df,?_⟩;simp only[List.getElem?_append];rw[if_pos (by rw[h.dw];exact N)]
 have nz:=later.ext;refine⟨⟨h.bZ,by simp[h.dw],fun z bG N=> ?_,fun z cG b J dR h1 G=> ?_,fun b hb=>Nat.lt_of_lt_of_le (h.bY b hb) later.size⟩,later⟩
 ·simp only[List.getElem?_append] at N;split at N
  ·rename_i aI;refine dQ.move nz (_root_.id rfl) ?_ (fun b J hb=>mQ b (h.lt hb)) (h.r z bG N);simp only[List.getElem?_append];rw[if_pos (by rw[h.dw];exact aI)]
  ·rename_i aI;have O:z=C.r.length:=by
    cases O:z-C.r.length with
    |zero=>omega
    |succ k=>rw[O] at N;simp at N
   subst O;simp at N;subst N;rw[dQ];refine⟨some (g,cap),?_,fun bp=> ?_,ap,gi,ao,hm,an,(he.ext nz).xB (KQ gi ht)⟩
   ·simp[h.dw.symm]
   ·have:=h.bY _ bp;omega
 ·simp only[List.getElem?_append] at h1 G;have last: ∀ {z:Nat} {b J:Nat},¬z < C.bu.length→ [some (g,cap)][z-C.bu.length]? =some (some (b,J))→z=C.bu.length∧b=g:=by
   intro z b J N hh;cases O:z-C.bu.length with
   |zero=>rw[O] at hh;simp at hh;exact⟨by omega,hh.1.symm⟩
   |succ k=>rw[O] at hh;simp at hh
  split at h1<;>split at G
  ·exact h.inj z cG b J dR h1 G
  ·rename_i cq;obtain⟨_,hb⟩:=last cq G;have:=h.lt h1;omega
  ·rename_i N _;obtain⟨_,hb⟩:=last N h1;have:=h.lt G;omega
  ·rename_i N cq;rw[(last N h1).1,(last cq G).1]
theorem aO.asQ {P:Program}{f:FuncId}{args:List F}{r:List Z}{bh:F→List Z→Prop}(h0: ¬Dr.B)
 (h: ∀ (C:bD) (dA:List Value),C.r=r→ci C→GOk C→aE C args dA→Calls P f dA.toArray C.w fun e w'=> ∃ (aZ:Value) (aW:TypeId) (U:Nat) (l:List (List F)) (vs:List Value),
  e= .returned aZ∧Below C.w.heap.size C.w w'∧w'.ownsRow C.w.heap.size aW U aZ l.length vs∧fs C U l vs∧bh (.own r.length l.length 0 l.length) (r++ [.ag aW U l])):aO P f args r bh:=by
 intro C dA N aA hG dv;refine (h C dA N aA hG dv).mono ?_;rintro e w' ⟨aZ,aW,U,l,vs,rfl,hb,pK,jI,aV⟩;subst N;obtain⟨cK,⟨rfl,oY⟩|⟨g,cap,oZ,rfl,wm,nE,eA,hm,eK,nF⟩⟩:=pK
 ·obtain⟨bO,cd⟩:=P4 aA hb (fun B=>absurd B h0);have hl:l= []:=List.length_eq_zero_iff.1 oY;subst hl;obtain⟨fk,hB⟩:=GE bO aW U;refine⟨_,.own C.r.length 0 0 0,_,_root_.id rfl,_root_.id rfl,?_,fk,cd.trans hB (Nat.le_refl _),aV⟩;rw[Rep];refine⟨aA.bZ,⟨_,_,_root_.id rfl⟩,by simp,fun bK pu mM an=> ?_⟩;simp at an;obtain⟨rfl,rfl,rfl⟩:=an;exact⟨by simp,fun _=>⟨by simp,none,by simp[←aA.dw],⟨_,_root_.id rfl⟩,_root_.id rfl,_root_.id rfl⟩⟩
 ·have xx:vs.length=l.length*U:=cK;obtain⟨bO,cd⟩:=asP aA aW U g cap oZ l vs w' hb wm nE eK hm eA jI (by rw[xx];exact nF) (fun B=>absurd B h0);refine⟨_,.own C.r.length l.length 0 l.length,_,_root_.id rfl,_root_.id rfl,?_,bO,cd,aV⟩;rw[aA.bZ];exact JJ aA.dw eA
end Go.Abs
