/- The abstract machine. -/
import Derived.Shelf.SlIterI.Collect
import Derived.RangeFuncGives
import Derived.Test.YtpincjkjoeopkaaGreatDoorK4
import Derived.Laws.AppendOwn
set_option linter.unusedSimpArgs false
set_option linter.unusedVariables false
set_option linter.unusedSectionVars false
namespace Go.Proofs
open Go.RowKit Go.Maps Go.Sort Go.Shelf
variable {P:Program}
def wV {H:Type}(P:Program)(k:TypeId)(kR:DataW H)(left:Lit→Bool)(bN:List Value):Prop:=
 bN.Nodup∧ ∀ x,x∈bN↔ ∃ l,keyOf P k x=some l∧has kR l=true∧left l=false
theorem wV.aqX {H:Type}(k:TypeId)(kR:DataW H):wV P k kR (has kR) []:=
 ⟨List.nodup_nil,fun x=>⟨fun h=>by simp at h,fun⟨l,_,h1,B⟩=>by rw[h1] at B;cases B⟩⟩
theorem wV.nt {H:Type}{k:TypeId}(K:Keyed P k){kR:DataW H}{left:Lit→Bool}{bN:List Value}(h:wV P k kR left bN){x:Value}{l:Lit}{y:DataW H}(ad:keyOf P k x=some l)(gZ:left l=true)(Pg: ∀ aqY,kR.atKey l aqY=y):
 wV P k kR (fun D=>left D&& !D.sameKey l) (bN++ [x]):=by
 have aqZ:has kR l=true:=has_true_of_atKey Pg;have gb:x∉bN:=fun hm=>by
  obtain⟨bX,h1,_,am⟩:=(h.2 x).1 hm;rw[ad] at h1;cases h1;rw[gZ] at am;cases am
 refine⟨List.nodup_append.2 ⟨h.1,by simp,fun a aw b Z=>by simp at Z;subst Z;exact fun e=>gb (e▸aw)⟩,fun y=> ?_⟩;rw[List.mem_append,List.mem_singleton,h.2 y];constructor
 ·rintro (⟨bX,h1,B,am⟩|rfl)
  ·exact⟨bX,h1,B,by simp[am]⟩
  ·refine⟨l,ad,aqZ,?_⟩;simp[WideAt.sameKey_self (K.key ad)]
 ·rintro⟨bX,h1,B,am⟩
  by_cases hl:left bX=true
  ·right
   simp only[hl,Bool.true_and,Bool.not_eq_false'] at am;cases WideAt.sameKey_eq am;exact K.inj h1 ad
  ·left;exact⟨bX,h1,B,by simpa using hl⟩
theorem ara (w:World)(x y:Value)(t:TypeId): ∀ j u,[x,y][j]? =some u→(w.alloc (.cells #[x,y] t)).cell? ((⟨w.heap.size,0,none⟩:Addr).add j)=some u:=by
 intro j u aT
 match j,aT with
 |0,aT=>simp at aT;subst aT;simp[Addr.add]
 |1,aT=>simp at aT;subst aT;simp[Addr.add]
def tT (bN:List Value):List Value:=bN.flatMap fun x=>x.cells.toList
def Ph (P:Program)(k:TypeId)(be:Fence)(n:Nat)(g:Nat)(pP:Array Value)(S:List Value→Prop)(cj:Nat)(w:World):Prop:=
 ∀ (l:Nat) (aI9:List Value→World→Prop) (W:World),Below w.heap.size w W→AbidesFrom W.heap.size aI9→
  (∀ pre x ha,aI9 pre ha→pre.length < cj→(∃ kl,keyOf P k x=some kl)→YieldAt be (n-1) P l #[x] ha fun e W'=>e= .returned (.bool true)∧aI9 (pre++ [x]) W'∧KeepsWalks ha W')→
  aI9 [] W→
  CallsIn be n P g (#[.func (.yield l) #[] #[]]++pP) W fun e W'=>(∃ v,e= .returned v)∧ ∃ ai,S ai∧aI9 ai W'
end Go.Proofs
namespace Go.Abs
open Go.RowKit (Below)
variable [dw]
theorem arb {C:bv}(h:cb C)(e:TypeId)(N g cap:Nat)(aj:Array Value)(ah:List (List z))(vs:List Value)(w':World)(Z:Below C.w.heap.size C.w w')(vi:C.w.heap.size≤g)(gb:w'.heap[g]? =some (.cells aj e (0,0)))
 (ak:aj.size=cap*N) (hm:cap≤maxLen) (ag:ah.length≤cap) (he:fj C N ah vs) (ht:aj.toList.take vs.length=vs) (aq:Dr.o→C.w.drawn≤w'.drawn):
 cb ⟨C.d++ [.aa e N ah],C.bm++ [some (g,cap)],C.bS,w',C.bT⟩∧
 cd C.d.length C ⟨C.d++ [.aa e N ah],C.bm++ [some (g,cap)],C.bS,w',C.bT⟩:=by
 have mf: ∀ b,b < C.w.heap.size→w'.heap[b]? =C.w.heap[b]? :=fun b hl=>Z.block b hl;have later:cd C.d.length C ⟨C.d++ [.aa e N ah],C.bm++ [some (g,cap)],C.bS,w',C.bT⟩:=by
  refine⟨Z.os,Z.tape,Z.output,Z.size,fun b Z _=>mf b Z,fun i b F G=> ?_,_root_.id rfl,_root_.id rfl,by simp,fun i cA bt dl G db=> ?_,fun i eN G db=> ?_,aq⟩
  ·simp only[List.getElem?_append] at G;split at G
   ·exact .inl ⟨i,F,G⟩
   ·right
    rename_i aC;cases I:i-C.bm.length with
    |zero=>rw[I] at G;simp at G;omega
    |succ k=>rw[I] at G;simp at G
  ·simp only[List.getElem?_append,G,if_true] at db;refine⟨dl,db,Nat.le_refl _,fun _=> ?_⟩;simp only[List.getElem?_append];rw[if_pos (by rw[h.dm];exact G)]
  ·simp only[List.getElem?_append,G,if_true] at db;refine⟨eN,db,?_⟩;simp only[List.getElem?_append];rw[if_pos (by rw[h.dm];exact G)]
 have mO:=later.ext;refine⟨⟨h.bT,by simp[h.dm],fun i bz G=> ?_,fun i cy b F dH h1 B=> ?_,fun b Z=>Nat.lt_of_lt_of_le (h.bS b Z) later.size⟩,later⟩
 ·simp only[List.getElem?_append] at G;split at G
  ·rename_i aC;refine dA.move mO (_root_.id rfl) ?_ (fun b F Z=>mf b (h.lt Z)) (h.d i bz G);simp only[List.getElem?_append];rw[if_pos (by rw[h.dm];exact aC)]
  ·rename_i aC;have I:i=C.d.length:=by
    cases I:i-C.d.length with
    |zero=>omega
    |succ k=>rw[I] at G;simp at G
   subst I;simp at G;subst G;rw[dA];refine⟨some (g,cap),?_,fun bi=> ?_,aj,gb,ak,hm,ag,(he.ext mO).wu (Jy gb ht)⟩
   ·simp[h.dm.symm]
   ·have:=h.bS _ bi;omega
 ·simp only[List.getElem?_append] at h1 B;have last: ∀ {i:Nat} {b F:Nat},¬i < C.bm.length→ [some (g,cap)][i-C.bm.length]? =some (some (b,F))→i=C.bm.length∧b=g:=by
   intro i b F G hh;cases I:i-C.bm.length with
   |zero=>rw[I] at hh;simp at hh;exact⟨by omega,hh.1.symm⟩
   |succ k=>rw[I] at hh;simp at hh
  split at h1<;>split at B
  ·exact h.inj i cy b F dH h1 B
  ·rename_i ch;obtain⟨_,Z⟩:=last ch B;have:=h.lt h1;omega
  ·rename_i G _;obtain⟨_,Z⟩:=last G h1;have:=h.lt B;omega
  ·rename_i G ch;rw[(last G h1).1,(last ch B).1]
theorem aK.arc {P:Program}{f:FuncId}{args:List z}{d:List R}{br:z→List R→Prop}(h0: ¬Dr.o)
 (h: ∀ (C:bv) (du:List Value),C.d=d→cb C→GOk C→ay C args du→Calls P f du.toArray C.w fun e w'=> ∃ (aV:Value) (aP:TypeId) (N:Nat) (l:List (List z)) (vs:List Value),
  e= .returned aV∧Below C.w.heap.size C.w w'∧w'.ownsRow C.w.heap.size aP N aV l.length vs∧fj C N l vs∧br (.own d.length l.length 0 l.length) (d++ [.aa aP N l])):aK P f args d br:=by
 intro C du G ar hG dk;refine (h C du G ar hG dk).mono ?_;rintro e w' ⟨aV,aP,N,l,vs,rfl,Z,nB,iV,aQ⟩;subst G;obtain⟨cB,⟨rfl,oe⟩|⟨g,cap,mS,rfl,vi,lF,ed,hm,es,mT⟩⟩:=nB
 ·obtain⟨bI,ca⟩:=O0 ar Z (fun o=>absurd o h0);have hl:l= []:=List.length_eq_zero_iff.1 oe;subst hl;obtain⟨fc,hi⟩:=Ft bI aP N;refine⟨_,.own C.d.length 0 0 0,_,_root_.id rfl,_root_.id rfl,?_,fc,ca.trans hi (Nat.le_refl _),aQ⟩;rw[Rep];refine⟨ar.bT,⟨_,_,_root_.id rfl⟩,by simp,fun bJ oF ma ag=> ?_⟩;simp at ag;obtain⟨rfl,rfl,rfl⟩:=ag;exact⟨by simp,fun _=>⟨by simp,none,by simp[←ar.dm],⟨_,_root_.id rfl⟩,_root_.id rfl,_root_.id rfl⟩⟩
 ·have wm:vs.length=l.length*N:=cB;obtain⟨bI,ca⟩:=arb ar aP N g cap mS l vs w' Z vi lF es hm ed iV (by rw[wm];exact mT) (fun o=>absurd o h0);refine⟨_,.own C.d.length l.length 0 l.length,_,_root_.id rfl,_root_.id rfl,?_,bI,ca,aQ⟩;rw[ar.bT];exact Ix ar.dm ed
end Go.Abs
