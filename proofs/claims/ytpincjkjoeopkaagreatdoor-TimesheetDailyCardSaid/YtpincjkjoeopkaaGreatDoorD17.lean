/- Time evaluation. -/
import Derived.Test.YtpincjkjoeopkaaGreatDoorD15
import Derived.Test.YtpincjkjoeopkaaGreatDoorD16
import Derived.WalkKit
import Derived.Test.YtpincjkjoeopkaaGreatDoorD4
import Derived.Shelf.Sort.Plain
import Derived.Shelf.Slices.In.SortNone
import Derived.Shelf.Slices.CompactI
import Derived.Lib.SlicesCompact
set_option linter.all false
namespace Go.Proofs.YtpincjkjoeopkaaGreatDoor
open Go Go.Abs Go.Proofs.Tryz
def hP (f:cv→Int)(Y:List cv):List (F×F):=Y.map fun k=>(.agg (aJ.J k),.int .i64 (f k))
theorem abt {a b:cv}:a=b↔a.B=b.B∧a.n.toList=b.n.toList:=
 ⟨fun e=>by rw[e];exact⟨rfl,rfl⟩,fun⟨h1,G⟩=>by cases a;cases b;simp only at h1 G;rw[h1,Mp G]⟩
instance:DecidableEq cv:=fun a b=>decidable_of_iff _ (abt (a:=a) (b:=b)).symm
theorem Sq (a b:cv):fB (.agg (aJ.J a)) (.agg (aJ.J b))=decide (a=b):=by
 simp only[fB,cp,LP,ed,Bool.and_true];rw[Bool.eq_iff_iff];simp only[Bool.and_eq_true,beq_iff_eq,decide_eq_true_eq];exact abt.symm
def pa (k:cv)(Y:List cv):List cv:=if k∈Y then Y else Y++ [k]
theorem ET {k x:cv}{Y:List cv}:x∈pa k Y↔x=k∨x∈Y:=by
 unfold pa;split
 ·constructor
  ·exact .inr
  ·rintro (rfl|h)
   ·assumption
   ·exact h
 ·rw[List.mem_append,List.mem_singleton];exact Or.comm
theorem Y3 {k:cv}{Y:List cv}(h:Y.Nodup): (pa k Y).Nodup:=by
 unfold pa;split
 ·exact h
 ·rename_i O;rw[List.nodup_append];exact⟨h,by simp,fun a aC b hb=>by rw[List.mem_singleton] at hb;subst hb;exact fun e=>O (e▸aC)⟩
theorem auW {k:cv}{Y:List cv}: (pa k Y).length≤Y.length+1:=by
 unfold pa;split
 ·omega
 ·simp
theorem Q2 {f:cv→Int}{k:cv}: ∀ {l:List cv},dm (.agg (aJ.J k)) (hP f l)=if k∈l then some (.int .i64 (f k)) else none
 | []=>by simp[hP,dm]
 |p::l=>by
  have ih:=Q2 (f:=f) (k:=k) (l:=l);unfold hP at *;rw[List.map_cons,dm];simp only[Sq,decide_eq_true_eq]
  by_cases O:k=p
  ·subst O;simp
  ·rw[if_neg O,ih];simp only[List.mem_cons,O,false_or]
theorem Za {f g:cv→Int}{k:cv}(vj: ∀ x,x≠k→f x=g x): ∀ {l:List cv},l.Nodup→dy (.agg (aJ.J k)) (.int .i64 (g k)) (hP f l)=hP g (pa k l)
 | [],_=>by simp[hP,dy,pa]
 |p::l,hl=>by
  rw[List.nodup_cons] at hl;have ih:=Za vj hl.2;unfold hP pa at *;rw[List.map_cons,dy];simp only[Sq,decide_eq_true_eq]
  by_cases O:k=p
  ·subst O;simp;exact fun a aC=>vj a (fun e=>hl.1 (e▸aC))
  ·simp only[O,if_false,ih,List.mem_cons,false_or];split<;>simp[vj p (fun e=>O e.symm)]
def lO (k:cv):List cv→Nat
 | []=>0
 |p::l=>if k=p then 0 else lO k l+1
theorem Y9 {f:cv→Int}{k:cv}: ∀ {l:List cv},(gB (.agg (aJ.J k)) (hP f l)).getD (hP f l).length=lO k l
 | []=>rfl
 |p::l=>by
  have ih:=Y9 (f:=f) (k:=k) (l:=l);unfold hP at *;rw[List.map_cons,gB];simp only[Sq,decide_eq_true_eq,lO]
  by_cases O:k=p
  ·simp[O]
  ·rw[if_neg O,if_neg O,←ih,List.length_cons];cases gB (.agg (aJ.J k)) (List.map (fun k=>(F.agg (aJ.J k),F.int IntKind.i64 (f k))) l)<;>simp
theorem Q3 {k:cv}: ∀ {l:List cv},k∈l→lO k l < l.length
 | [],h=>by simp at h
 |p::l,h=>by
  rw[lO];split
  ·simp
  ·rename_i O;have:=Q3 (k:=k) (l:=l) (by rcases List.mem_cons.1 h with e|e;(·exact absurd e O);exact e);simp;omega
theorem Y8 {k:cv}: ∀ {l:List cv},lO k l=lO k (pa k l)
 | []=>by simp[pa,lO]
 |p::l=>by
  have ih:=Y8 (k:=k) (l:=l);unfold pa at *
  by_cases O:k=p
  ·subst O;simp[lO]
  ·simp only[List.mem_cons,O,false_or]
   by_cases hm:k∈l
   ·rw[if_pos hm]
   ·rw[if_neg hm] at ih ⊢;rw[List.cons_append,lO,lO,if_neg O,if_neg O,ih]
theorem abu {k:cv}: ∀ {l:List cv},k∈l→l[lO k l]? =some k
 | [],h=>by simp at h
 |p::l,h=>by
  rw[lO];split
  ·rename_i e;simp[e]
  ·rename_i O;simpa using abu (k:=k) (l:=l) (by rcases List.mem_cons.1 h with e|e;(·exact absurd e O);exact e)
theorem auY {f:cv→Int}{k:cv}{v:Int}{l:List cv}(aH:l.Nodup)(O:k∈l){M:F×F}:
 (hP f l).set (lO k l) (((hP f l).getD (lO k l) M).1,.int .i64 v)=hP (fun x=>if x=k then v else f x) l:=by
 have aw:=abu O;have aI:=Q3 O;refine List.ext_getElem? fun c=> ?_;rw[List.getElem?_set];unfold hP;rw[List.getD_eq_getElem?_getD,List.getElem?_map,List.getElem?_map,aw];simp only[Option.map_some,Option.getD_some,List.length_map]
 by_cases av:lO k l=c
 ·subst av;rw[if_pos rfl,if_pos aI,List.getElem?_map,aw];simp
 ·rw[if_neg av,List.getElem?_map];cases h:l[c]? with
  |none=>rfl
  |some x=>
   have aj:x≠k:=fun e=>by
    subst e;refine av ?_;obtain⟨h1,bF⟩:=List.getElem?_eq_some_iff.1 h;obtain⟨G,bK⟩:=List.getElem?_eq_some_iff.1 aw;exact (List.getElem_inj aH).1 (bK.trans bF.symm)
   simp[aj]
theorem avd {f:cv→Int}{l:List cv}: (hP f l).map (·.1)=Ak l:=by unfold hP Ak;simp
theorem auX {f:cv→Int}{l:List cv}: (hP f l).length=l.length:=by unfold hP;simp
theorem LN {n:Nat}{f:cv→Int}: ∀ {l:List cv},nG n (hP f l)=true
 | []=>rfl
 |B::l=>by
  show (dt n (.agg (aJ.J B))&&dt n (.int .i64 (f B))&&nG n (hP f l))=true;rw[LN];rfl
theorem aO.rZ {f g:FuncId}{aW:TypeId}(h: ∀ (oy:Nat) (w:World),Calls prog f #[.map (some oy)] w fun e w'=>e= .returned (.func (.func g) #[] #[.pointer (some ⟨w.heap.size,0,none⟩)])∧w'=w.alloc (.cells #[.map (some oy)] aW)){r:List Z}{a:Nat}:
 aO prog f [.bE a] r (fun v rs=>v= .fn g [.bd r.length 1 0 0]∧rs=r++ [.ag aW 1 [[.bE a]]]):=by
 intro C dA N aA hG dv;rw[aE] at dv;obtain⟨v0,bS,rfl,an,aH⟩:=dv;rw[aE] at aH;subst aH;have df:=an;rw[Rep] at an;obtain⟨hC,⟨oy,rfl⟩,_,_⟩:=an;refine (h oy C.w).mono ?_;rintro e w' ⟨rfl,rfl⟩;obtain⟨bO,cd⟩:=DJ df (rfl: (cp (.bE a)).all Abs.cV=true);have ak:=Bf aA aW 1 1 #[.map (some oy)] [[.bE a]] [.map (some oy)] (C.w.alloc (.cells #[.map (some oy)] aW)) ⟨rfl,rfl,rfl,rfl⟩ (by simp) (by simp[maxLen]) (by simp) (DX rfl bO cd) rfl;refine⟨_,.fn g [.bd r.length 1 0 0],_,rfl,rfl,?_,ak.1,by rw[←N];exact ak.2,rfl,by rw[N]⟩;rw[Rep];refine⟨_,rfl,?_⟩;rw[aE];refine⟨_,[],rfl,?_,by rw[aE]⟩;have h1:=Ln (r:=C.r) (bu:=C.bu) (bY:=C.bY) (w:=C.w.alloc (.cells #[.map (some oy)] aW)) (e:=aW) (U:=1) (b:=C.w.heap.size) (cap:=1) (cells:= [.bE a]) aA.dw;rw[aA.bZ,←N];exact h1
theorem Ze {r:List Z}{a:Nat}:aO prog 121 [.bE a] r
 (fun v rs=>v= .fn 207 [.bd r.length 1 0 0]∧rs=r++ [.ag 232 1 [[.bE a]]]):=by
 refine aO.rZ fun oy w=> ?_
 go_enter func121,ntmps121
 go_wp2
 go_ret
 exact⟨rfl,rfl⟩
theorem aaZ {r:List Z}{a:Nat}:aO prog 48 [.bE a] r
 (fun v rs=>v= .fn 128 [.bd r.length 1 0 0]∧rs=r++ [.ag 116 1 [[.bE a]]]):=by
 refine aO.rZ fun oy w=> ?_
 go_enter func48,ntmps48
 go_wp2
 go_ret
 exact⟨rfl,rfl⟩
theorem rz.ext {r t:List Z}{I m:Nat}{R ab:Int}{Y:List Int}{bf:Int→Bool→List (List F)}{X:Int→Bool→Nat}(h:rz r I m R ab Y bf X)(ht: ∀ bG∈t,jc (r.length+t.length) bG=true):rz (r++t) I m R ab Y bf X:=
 ⟨EV h.all ht,bQ h.I,bQ h.m,h.HK,h.ea,h.fX,fun B k an=>bQ (h.x B k an),h.inj⟩
def hQ (r:List Z)(I m:Nat)(R ab:Int)(Y:List Int)(bf:Int→Bool→List (List F)):Prop:= ∃ X,rz r I m R ab Y bf X
theorem gf.mh {r t:List Z}{m:Nat}:gf r (r++t) m:=⟨by simp,fun z bG h _ _=>bQ h⟩
theorem Zh {X:Int→Bool→Nat}{bf:Int→Bool→List (List F)}{B:Int}{k:Bool}:cV (hy X bf B k)=true:=by
 unfold hy;split<;>rfl
theorem Zi {X:Int→Bool→Nat}{bf:Int→Bool→List (List F)}{Y:List Int}{ah:Int}(h: ∀ B k,bf B k≠ []→B∈Y):
 ∃ il:Int,(dm (.int .i64 ah) (de (nI X bf) Y)).getD (.agg [.int .i64 0,.bH,.bH])= .agg [.int .i64 il,hy X bf ah false,hy X bf ah true]:=by
 rw[EW]
 by_cases ay:ah∈Y
 ·exact⟨ah,by rw[if_pos ay];rfl⟩
 ·have an: ∀ k,bf ah k= []:=fun k=>by
   apply Classical.byContradiction;intro hne;exact ay (h ah k hne)
  exact⟨0,by rw[if_neg ay];simp[hy,an]⟩
theorem ave {X:Int→Bool→Nat}{bf:Int→Bool→List (List F)}{Y:List Int}{ah:Int}{J:List F}{q:Nat}(aH:Y.Nodup)(k:Bool)(v:F)(an:v=nI (sy X ah k q) (gR bf ah k J) ah):
 dy (.int .i64 ah) v (de (nI X bf) Y)=de (nI (sy X ah k q) (gR bf ah k J)) (ek ah Y):=by
 rw[an];refine EX (fun x aj=> ?_) aH;have bF: ∀ br,sy X ah k q x br=X x br:=fun br=>by unfold sy;rw[if_neg (fun e=>aj e.1)]
 have bK: ∀ br,gR bf ah k J x br=bf x br:=fun br=>by unfold gR;rw[if_neg (fun e=>aj e.1)]
 unfold nI hy;rw[bF,bF,bK,bK]
theorem avf {X:Int→Bool→Nat}{bf:Int→Bool→List (List F)}{B:Int}{J:List F}{q:Nat}(k:Bool):
 nI (sy X B k q) (gR bf B k J) B= .agg [.int .i64 B,if k then hy X bf B false else .own q ((bf B k).length+1) 0 ((bf B k).length+1),if k then .own q ((bf B k).length+1) 0 ((bf B k).length+1) else hy X bf B true]:=by
 unfold nI hy sy gR;cases k<;>simp
def ym (X:Int→Bool→Nat)(bf:Int→Bool→List (List F))(Y:List Int)(B:Int)(v:F):Z:= .be (.map false [.int .i64] (dy (.int .i64 B) v (de (nI X bf) Y)))
theorem rz.lt {r:List Z}{I m:Nat}{R ab:Int}{Y:List Int}{bf:Int→Bool→List (List F)}{X:Int→Bool→Nat}(h:rz r I m R ab Y bf X)(B:Int)(k:Bool)(an:bf B k≠ []):X B k < r.length:=km (h.x B k an)
theorem Zj {r W:List Z}{I m:Nat}{R ab:Int}{Y:List Int}{bf:Int→Bool→List (List F)}{X:Int→Bool→Nat}(h:rz r I m R ab Y bf X)(B:Int)(k:Bool)(J:List F)(ad:bU J=true)(q:Nat)(v:F)
 (an:v= .agg [.int .i64 B,if k then hy X bf B false else .own q ((bf B k).length+1) 0 ((bf B k).length+1),if k then .own q ((bf B k).length+1) 0 ((bf B k).length+1) else hy X bf B true])
 (aV:bf B k≠ []→q=X B k) (iN:bf B k= []→r.length≤q) (hW:jP W) (hl:r.length≤W.length) (aH:W[q]? =some (.ag (tE k) 2 (bf B k++ [J]))) (bp: ∀ z bG,r[z]? =some bG→z≠q→W[z]? =some bG):
 gf r (W.set m (ym X bf Y B v)) m∧hQ (W.set m (ym X bf Y B v)) I m R ab (ek B Y) (gR bf B k J):=by
 have avg:m≠q:=fun e=>by
  by_cases jZ:bf B k= []
  ·have:=iN jZ;have:=km h.m;omega
  ·have h1:=h.m;rw[e,aV jZ,h.x B k jZ] at h1;cases h1
 have avh:m < W.length:=Nat.lt_of_lt_of_le (km h.m) hl;have Cn:ym X bf Y B v= .be (.map false [.int .i64] (de (nI (sy X B k q) (gR bf B k J)) (ek B Y))):=by
  unfold ym;rw[ave (J:=J) (q:=q) h.HK k v (by rw[an,avf])]
 have Zk: ∀ z bG,r[z]? =some bG→z≠m→z≠q→(W.set m (ym X bf Y B v))[z]? =some bG:=fun z bG h1 G au=>by
  rw[List.getElem?_set,if_neg (fun e=>G e.symm)];exact bp z bG h1 au
 refine⟨⟨by rw[List.length_set];exact hl,fun z bG h1 G au=>Zk z bG h1 G fun e=> ?_⟩,sy X B k q,h.mh B k J ad q aV iN ?_ ?_ ?_ Zk⟩
 ·by_cases jZ:bf B k= []
  ·have:=iN jZ;have:=km h1;omega
  ·rw[e,aV jZ,h.x B k jZ] at h1;exact au k _ (Option.some.inj h1).symm
 ·refine Co hW ?_;rw[Cn];refine LQ fun x _=>avi (fun iy br df=> ?_) x;unfold gR at df;unfold sy;split
  ·exact km aH
  ·rename_i e;rw[if_neg e] at df;exact Nat.lt_of_lt_of_le (h.lt iy br df) hl
 ·rw[List.getElem?_set,if_pos rfl,if_pos avh,Cn]
 ·rw[List.getElem?_set,if_neg avg];exact aH
theorem Zl {r aW:List Z}{I m:Nat}{R ab:Int}{Y:List Int}{bf:Int→Bool→List (List F)}{X:Int→Bool→Nat}(h:rz r I m R ab Y bf X)(B:Int)(k:Bool)(J:List F)(ad:bU J=true)(j:Nat)(v:F)
 (jZ:bf B k= []) (an:v= .agg [.int .i64 B,if k then hy X bf B false else .own (r.length+j) 1 0 1,if k then .own (r.length+j) 1 0 1 else hy X bf B true])
 (hN:aW[j]? =some (.ag (tE k) 2 [J])) (Q9: ∀ bG∈aW,jc (r.length+aW.length) bG=true):
 gf r ((r++aW).set m (ym X bf Y B v)) m∧hQ ((r++aW).set m (ym X bf Y B v)) I m R ab (ek B Y) (gR bf B k J):=
 Zj h B k J ad (r.length+j) v (by rw[an,jZ];rfl) (fun e=>absurd jZ e) (fun _=>by omega) (EV h.all Q9) (by simp) (by rw[dO,hN,jZ];rfl) fun z bG h1 _=>bQ h1
theorem Zm {r aW:List Z}{I m:Nat}{R ab:Int}{Y:List Int}{bf:Int→Bool→List (List F)}{X:Int→Bool→Nat}(h:rz r I m R ab Y bf X)(B:Int)(k:Bool)(J:List F)(ad:bU J=true)(v:F)
 (jZ:bf B k≠ []) (an:v= .agg [.int .i64 B,if k then hy X bf B false else .own (X B k) ((bf B k).length+1) 0 ((bf B k).length+1),if k then .own (X B k) ((bf B k).length+1) 0 ((bf B k).length+1) else hy X bf B true])
 (Q9: ∀ bG∈aW,jc (r.length+aW.length) bG=true):
 gf r ((r.set (X B k) (.ag (tE k) 2 (bf B k++ [J]))++aW).set m (ym X bf Y B v)) m∧hQ ((r.set (X B k) (.ag (tE k) 2 (bf B k++ [J]))++aW).set m (ym X bf Y B v)) I m R ab (ek B Y) (gR bf B k J):=by
 have hl:=h.lt B k jZ;have av:jP (r.set (X B k) (.ag (tE k) 2 (bf B k++ [J]))):=Co h.all (kA (by rw[P2,h.fX];simp[dY,ad]));refine Zj h B k J ad (X B k) v an (fun _=>rfl) (fun e=>absurd e jZ) (EV av (by rw[List.length_set];exact Q9)) (by simp) ?_ fun z bG h1 G=>bQ ?_
 ·refine bQ ?_;rw[List.getElem?_set,if_pos rfl,if_pos hl]
 ·rw[List.getElem?_set,if_neg (fun e=>G e.symm)];exact h1
theorem Q8 {r:List Z}{I m:Nat}{R ab:Int}{Y:List Int}{bf:Int→Bool→List (List F)}(h0:hQ r I m R ab Y bf)(cU: ∀ B k,(bf B k).length≤1000000)(ah:Int)(ef:ByteArray)(cN:Int):
 aO prog 118 [.bd I 1 0 0,.int .i64 ah,.agg [.str ef,.int .i64 cN]] r
  (fun v W=>v= .bo []∧gf r W m∧if R≤ah∧ah≤ab then hQ W I m R ab (ek ah Y) (gR bf ah false [.str ef,.int .i64 cN]) else hQ W I m R ab Y bf):=by
 obtain⟨X,h⟩:=h0;refine cu func118 Zn (by simp[Cp,EY]) ?_;have ao:=h.I;have hm:=h.m
 by_cases ay:R≤ah∧ah≤ab
 rotate_left
 ·have key: ∀ (t:List Z),(∀ bG∈t,jc (r.length+t.length) bG=true)→gf r (r++t) m∧if R≤ah∧ah≤ab then hQ (r++t) I m R ab (ek ah Y) (gR bf ah false [.str ef,.int .i64 cN]) else hQ (r++t) I m R ab Y bf:=fun t ht=>
   ⟨gf.mh,by rw[if_neg ay];exact⟨X,h.ext ht⟩⟩
  by_cases d1:ah < R
  ·simp only[go_sem,Cp,EY,List.append_assoc,bQ ao,d1];exact E.ac ⟨rfl,key _ (by simp[jc,mj,gx,dt])⟩
  ·have ky:ab < ah:=by omega
   simp only[go_sem,Cp,EY,List.append_assoc,bQ ao,d1,ky];exact E.ac ⟨rfl,key _ (by simp[jc,mj,gx,dt])⟩
 have d1: ¬ah < R:=by omega
 have ky: ¬ab < ah:=by omega
 obtain⟨il,vb⟩:=Zi (X:=X) (ah:=ah) h.ea;have avj:=cU ah false;have h1:cV (hy X bf ah true)=true:=Zh;have vP: ∀ n,r.length≤n→dt n (hy X bf ah true)=true:=fun n aH=>Hb aH _ (Ra h.lt ah true)
 by_cases an:bf ah false= []
 ·have iI:hy X bf ah false= .bH:=by unfold hy;rw[an];rfl
  rw[iI] at vb;simp only[go_sem,Cp,EY,List.append_assoc,bQ ao,bQ hm,dO,dH,ee,ec,List.length_append,d1,ky,vb,h1];refine E.ac ⟨rfl,?_⟩;rw[if_pos ay];exact Zl h ah false _ rfl 3 _ an rfl rfl (by
   simp only[List.mem_cons,List.not_mem_nil,or_false,forall_eq_or_imp,forall_eq,jc,mj,gx,dt,vP _ (Nat.le_add_right _ _),List.length_cons,List.length_nil,Bool.and_true,Bool.true_and,decide_eq_true_eq,true_and,and_true];omega)
 ·have aj:=h.x ah false an;have ak:0 < (bf ah false).length:=List.length_pos_iff.2 an;have iI:hy X bf ah false= .own (X ah false) (bf ah false).length 0 (bf ah false).length:=by unfold hy;rw[if_neg (by omega)]
  rw[iI] at vb;simp only[go_sem,Cp,EY,List.append_assoc,bQ ao,bQ hm,bQ aj,dO,dH,ee,ec,List.length_append,d1,ky,vb,h1];refine⟨rfl,by omega,?_⟩;have ts:X ah false≠I:=fun e=>(by rw[e,ao] at aj;simp only[Option.some.injEq,Z.ag.injEq] at aj;omega);have Gl:X ah false≠m:=fun e=>(by rw[e,hm] at aj;cases aj);have LR: (r.set (X ah false) (.ag 78 2 (bf ah false++ [[.str ef,.int .i64 cN]])))[I]? =some (.ag 118 3 [[.int .i64 R,.int .i64 ab,.bE m]]):=by rw[List.getElem?_set,if_neg ts];exact ao
  have ov: (r.set (X ah false) (.ag 78 2 (bf ah false++ [[.str ef,.int .i64 cN]])))[m]? =some (.be (.map false [.int .i64] (de (nI X bf) Y))):=by rw[List.getElem?_set,if_neg Gl];exact hm
  have nJ: (r.set (X ah false) (.ag 78 2 (bf ah false++ [[.str ef,.int .i64 cN]]))).length=r.length:=List.length_set;have mX:=fun (aW:List Z) hN=>Zm (aW:=aW) h ah false [.str ef,.int .i64 cN] rfl _ an rfl hN;simp only[tF aj];have HL: ∀ n,r.length≤n→dt n (.own (X ah false) ((bf ah false).length+1) 0 ((bf ah false).length+1))=true:=fun n aH=>by
   have:=h.lt ah false an;simp only[dt,decide_eq_true_eq];omega
  simp only[show tE false=78 from rfl] at mX;generalize r.set (X ah false) (.ag 78 2 (bf ah false++ [[.str ef,.int .i64 cN]]))=aF at *;simp only[←nJ] at vP HL mX ⊢;simp only[go_sem,bQ LR,bQ ov,dO,dH,ee,ec,List.length_append,h1];refine E.ac ⟨rfl,?_⟩;rw[if_pos ay];refine mX _ ?_;simp only[List.mem_cons,List.not_mem_nil,or_false,forall_eq_or_imp,forall_eq,jc,mj,gx,dt,vP _ (Nat.le_add_right _ _),HL _ (Nat.le_add_right _ _),List.length_cons,List.length_nil,Bool.and_true,Bool.true_and,decide_eq_true_eq,true_and,and_true]
  all_goals (have:=h.lt ah false an;omega)
def hn (a:eH):cv:=⟨a.ah,a.name⟩
def su (ae:List cw)(a:eH):Int:=if a.min= -1 then Ck ae a.ah else a.min
def gJ (bk:Int)(l:List eH):List cv:=l.foldl (fun Y a=>if a.bk=bk then pa (hn a) Y else Y) []
def eb (ae:List cw)(bk:Int)(l:List eH)(k:cv):Int:=(l.map fun a=>if a.bk=bk∧hn a=k then su ae a else 0).sum
def Cl (a:eH):Prop:= -1≤a.min∧a.min≤1440
theorem LM {bk:Int}{l:List eH}{c:Nat}(av:c < l.length):gJ bk (l.take (c+1))=if l[c].bk=bk then pa (hn l[c]) (gJ bk (l.take c)) else gJ bk (l.take c):=by
 unfold gJ;rw[List.take_succ_eq_append_getElem av,List.foldl_append];rfl
theorem Y2 (bk:Int)(l:List eH): (gJ bk l).Nodup:=by
 have: ∀ (l:List eH) (Y:List cv),Y.Nodup→(l.foldl (fun Y a=>if a.bk=bk then pa (hn a) Y else Y) Y).Nodup:=by
  intro l
  induction l with
  |nil=>intro Y h;exact h
  |cons a l ih=>
   intro Y h;rw[List.foldl_cons];refine ih _ ?_;split
   ·exact Y3 h
   ·exact h
 exact this l [] List.nodup_nil
theorem QZ {bk:Int}{l:List eH}{k:cv}:k∈gJ bk l↔ ∃ a∈l,a.bk=bk∧hn a=k:=by
 have: ∀ (l:List eH) (Y:List cv),k∈l.foldl (fun Y a=>if a.bk=bk then pa (hn a) Y else Y) Y↔k∈Y∨ ∃ a∈l,a.bk=bk∧hn a=k:=by
  intro l
  induction l with
  |nil=>simp
  |cons a l ih=>
   intro Y;rw[List.foldl_cons,ih];constructor
   ·rintro (h|⟨b,hb,h⟩)
    ·split at h
     ·rename_i he;rcases ET.1 h with rfl|h
      ·exact .inr ⟨a,List.mem_cons_self,he,rfl⟩
      ·exact .inl h
     ·exact .inl h
    ·exact .inr ⟨b,List.mem_cons_of_mem _ hb,h⟩
   ·rintro (h|⟨b,hb,he,h⟩)
    ·left
     split
     ·exact ET.2 (.inr h)
     ·exact h
    ·rcases List.mem_cons.1 hb with rfl|hb
     ·left;rw[if_pos he];exact ET.2 (.inl h.symm)
     ·exact .inr ⟨b,hb,he,h⟩
 have:=this l [];simpa[gJ] using this
theorem Q0 (bk:Int)(l:List eH): (gJ bk l).length≤l.length:=by
 have: ∀ (l:List eH) (Y:List cv),(l.foldl (fun Y a=>if a.bk=bk then pa (hn a) Y else Y) Y).length≤Y.length+l.length:=by
  intro l
  induction l with
  |nil=>simp
  |cons a l ih=>
   intro Y;rw[List.foldl_cons];refine Nat.le_trans (ih _) ?_;rw[List.length_cons];split
   ·have:=auW (k:=hn a) (Y:=Y);omega
   ·omega
 simpa[gJ] using this l []
theorem Y4 {ae:List cw}{a:eH}(h:Cl a):0≤su ae a∧su ae a≤1474560:=by
 have:=auT ae a.ah;unfold su Cl at *;split<;>omega
theorem Y5 {ae:List cw}{bk:Int}{k:cv}: ∀ {l:List eH},(∀ a∈l,Cl a)→0≤eb ae bk l k∧eb ae bk l k≤1474560*l.length
 | [],_=>by simp[eb]
 |a::l,h=>by
  have ih:=Y5 (ae:=ae) (bk:=bk) (k:=k) (l:=l) fun b hb=>h b (List.mem_cons_of_mem _ hb);have h1:=Y4 (ae:=ae) (h a List.mem_cons_self);unfold eb at *;rw[List.map_cons,List.sum_cons,List.length_cons];split<;>omega
theorem HD {ae:List cw}{bk:Int}{k:cv}{l:List eH}{c:Nat}(av:c < l.length):eb ae bk (l.take (c+1)) k=eb ae bk (l.take c) k+if l[c].bk=bk∧hn l[c]=k then su ae l[c] else 0:=by
 unfold eb;exact YX (fun a=>if a.bk=bk∧hn a=k then su ae a else 0) av
theorem Y6 {ae:List cw}{bk:Int}{k:cv}{l:List eH}(h:k∉gJ bk l):eb ae bk l k=0:=by
 have: ∀ l:List eH,(∀ a∈l,¬(a.bk=bk∧hn a=k))→(l.map fun a=>if a.bk=bk∧hn a=k then su ae a else 0).sum=0:=by
  intro l
  induction l with
  |nil=>simp
  |cons a l ih=>
   intro h;rw[List.map_cons,List.sum_cons,if_neg (h a List.mem_cons_self),ih fun b hb=>h b (List.mem_cons_of_mem _ hb)];rfl
 exact this l fun a aC ad=>h (QZ.2 ⟨a,aC,ad.1,ad.2⟩)
def sw (ae:List cw)(bk:Int)(l:List eH):Z:= .be (.map true [.int .i64,.str] (hP (eb ae bk l) (gJ bk l)))
theorem Q1 {n:Nat}{ae:List cw}{bk:Int}{l:List eH}:jc n (sw ae bk l)=true:=LN
theorem Y7 {ae:List cw}{bk:Int}{l:List eH}{c:Nat}(av:c < l.length)(he:l[c].bk=bk)(aA: ∀ a∈l,Cl a)(hl:l.length≤100000){v:Int}(an:v=su ae l[c]):
 (dm (.agg [.int .i64 l[c].ah,.str l[c].name]) (hP (eb ae bk (l.take c)) (gJ bk (l.take c)))).getD (.int .i64 0)= .int .i64 (eb ae bk (l.take c) (hn l[c]))∧
 dy (.agg [.int .i64 l[c].ah,.str l[c].name]) (.int .i64 (eb ae bk (l.take c) (hn l[c]))) (hP (eb ae bk (l.take c)) (gJ bk (l.take c)))=hP (eb ae bk (l.take c)) (gJ bk (l.take (c+1)))∧
 (gB (.agg [.int .i64 l[c].ah,.str l[c].name]) (hP (eb ae bk (l.take c)) (gJ bk (l.take c)))).getD (hP (eb ae bk (l.take c)) (gJ bk (l.take c))).length=lO (hn l[c]) (gJ bk (l.take c))∧
 lO (hn l[c]) (gJ bk (l.take c)) < (hP (eb ae bk (l.take c)) (gJ bk (l.take (c+1)))).length∧
 IntKind.i64.wrap (eb ae bk (l.take c) (hn l[c])+v)=eb ae bk (l.take (c+1)) (hn l[c])∧
 ∀ M,(hP (eb ae bk (l.take c)) (gJ bk (l.take (c+1)))).set (lO (hn l[c]) (gJ bk (l.take c))) (((hP (eb ae bk (l.take c)) (gJ bk (l.take (c+1)))).getD (lO (hn l[c]) (gJ bk (l.take c))) M).1,.int .i64 (eb ae bk (l.take (c+1)) (hn l[c])))=hP (eb ae bk (l.take (c+1))) (gJ bk (l.take (c+1))):=by
 have O:F.agg [.int .i64 l[c].ah,.str l[c].name]= .agg (aJ.J (hn l[c])):=rfl;have aH:=Y2 bk (l.take c);have mg:=LM (bk:=bk) av;rw[if_pos he] at mg;have iG:lO (hn l[c]) (gJ bk (l.take c))=lO (hn l[c]) (gJ bk (l.take (c+1))):=by rw[mg];exact Y8
 have hm:hn l[c]∈gJ bk (l.take (c+1)):=by rw[mg];exact ET.2 (.inl rfl)
 have cn:=HD (ae:=ae) (bk:=bk) (k:=hn l[c]) av;rw[if_pos ⟨he,rfl⟩] at cn;have hb:=Y5 (ae:=ae) (bk:=bk) (k:=hn l[c]) (l:=l.take c) fun a aC=>aA a (List.mem_of_mem_take aC);have rX:=Y4 (ae:=ae) (aA _ (List.getElem_mem av));have EU: (l.take c).length≤100000:=by simp;omega
 rw[O];refine⟨?_,?_,Y9,?_,?_,fun M=> ?_⟩
 ·rw[Q2];split
  ·rfl
  ·rename_i ql;rw[Y6 ql];rfl
 ·rw[Za (f:=eb ae bk (l.take c)) (g:=eb ae bk (l.take c)) (fun _ _=>rfl) aH,mg]
 ·rw[iG,auX];exact Q3 hm
 ·rw[bl (by omega) (by omega),cn,an]
 ·rw[iG,auY (by rw[mg];exact Y3 aH) hm];unfold hP;refine List.map_congr_left fun x _=> ?_;show (F.agg (aJ.J x),F.int .i64 (if x=hn l[c] then _ else _))=_
  by_cases e:x=hn l[c]
  ·rw[if_pos e,e]
  ·rw[if_neg e,HD av,if_neg (fun h=>e h.2.symm),Int.add_zero]
theorem auZ {ae:List cw}{bk:Int}{l:List eH}{c:Nat}(av:c < l.length)(he:l[c].bk≠bk):sw ae bk (l.take (c+1))=sw ae bk (l.take c):=by
 unfold sw;rw[LM av,if_neg he];have:eb ae bk (l.take (c+1))=eb ae bk (l.take c):=funext fun k=>by rw[HD av,if_neg (fun h=>he h.1),Int.add_zero]
 rw[this]
theorem Zb {f:cv→Int}{Y:List cv}:zD true [.int .i64,.str] (hP f Y):=by
 intro p ak;obtain⟨k,_,rfl⟩:=List.mem_map.1 ak;exact⟨rfl,rfl,trivial⟩
def wz (S:cv→Int)(R ab:Int)(bw:List Int×(Int→Bool→List (List F)))(k:cv):List Int×(Int→Bool→List (List F)):=
 if 0 < S k∧R≤k.B∧k.B≤ab then (ek k.B bw.1,gR bw.2 k.B false [.str k.n,.int .i64 (S k)]) else bw
def sx (S:cv→Int)(R ab:Int)(Y:List Int)(bf:Int→Bool→List (List F))(aY:List cv):List Int×(Int→Bool→List (List F)):=aY.foldl (wz S R ab) (Y,bf)
theorem ava {S:cv→Int}{R ab:Int}{Y:List Int}{bf:Int→Bool→List (List F)}{aY:List cv}{c:Nat}(av:c < aY.length):sx S R ab Y bf (aY.take (c+1))=wz S R ab (sx S R ab Y bf (aY.take c)) aY[c]:=by
 unfold sx;rw[List.take_succ_eq_append_getElem av,List.foldl_append];rfl
theorem avb {S:cv→Int}{R ab:Int}{Y:List Int}{bf:Int→Bool→List (List F)}{n:Nat}(hV: ∀ B k,(bf B k).length≤n): ∀ (aY:List cv) (B:Int) (k:Bool),((sx S R ab Y bf aY).2 B k).length≤n+aY.length:=by
 have: ∀ (aY:List cv) (bw:List Int×(Int→Bool→List (List F))) (n:Nat),(∀ B k,(bw.2 B k).length≤n)→ ∀ B k,((aY.foldl (wz S R ab) bw).2 B k).length≤n+aY.length:=by
  intro aY
  induction aY with
  |nil=>intro bw n h B k;exact h B k
  |cons x aY ih=>
   intro bw n h B k;rw[List.foldl_cons];refine Nat.le_trans (ih _ (n+1) (fun B k=> ?_) B k) (by rw[List.length_cons];omega);unfold wz;split
   ·show (gR bw.2 x.B false _ B k).length≤n+1;unfold gR;split
    ·rename_i e;have:=h x.B false;rw[List.length_append];simp;omega
    ·have:=h B k;omega
   ·have:=h B k;omega
 intro aY B k;exact this aY (Y,bf) n hV B k
set_option maxHeartbeats 2000000 in
theorem avc {r:List Z}{I m:Nat}{R ab:Int}{Y:List Int}{bf:Int→Bool→List (List F)}(h0:hQ r I m R ab Y bf)(cU: ∀ B k,(bf B k).length≤100000)(ae:List cw)(gy:ae.length≤1000000)(l:List eH)(hl:l.length≤100000)(aA: ∀ a∈l,Cl a∧(Lit.int .i64 a.ah).wf=true∧a.name.size≤maxLen)(bk:Int):
 aO prog 45 [.bd I 1 0 0,.pure 3 (ai ae),.pure 4 (ai l),.int .i64 bk] r
  (fun v W=>v= .bo []∧gf r W m∧ ∃ aY:List cv,aY.Perm (gJ bk l)∧aY.Pairwise pN∧hQ W I m R ab (sx (eb ae bk l) R ab Y bf aY).1 (sx (eb ae bk l) R ab Y bf aY).2):=by
 obtain⟨X,h⟩:=h0;have hall:=h.all;have fF:=km h.I;have zh:=km h.m;refine cu func45 Zc (by simp[a45,wA]) ?_;simp only[go_sem,a45,wA,bT];refine dN (fun D ca=> ∃ c:Nat,c≤l.length∧D= [(0,.bd I 1 0 0),(1,.pure 3 (ai ae)),(3,.int .i64 bk),(8,.bE r.length),(16,.pure 4 (ai l)),(17,.int .i64 l.length),(18,.int .i64 c)]∧ca=r++ [sw ae bk (l.take c)])
  (fun D _=>match bs D 18 with| .int _ j=>(l.length-j).toNat|_=>0) ?_ ?_
 ·exact E.ac ⟨0,by omega,rfl,rfl⟩
 ·rintro D ca ⟨c,av,rfl,rfl⟩;have aP:=dB (c:=c) (by omega)
  by_cases aI:c < l.length
  ·have h1: (c:Int) < l.length:=by omega
   have h0: (0:Int)≤c:=by omega
   have aw: (ai l).getD c []= [.int .i64 l[c].bk,.int .i64 l[c].ah,.str l[c].name,.int .i64 l[c].min]:=by rw[cT aI,QV]
   have HE: ∀ {t:List Z} {K:aQ→List Z→Prop} {x:Z},jc (r.length+1) x=true→E r.length K [(0,.bd I 1 0 0),(1,.pure 3 (ai ae)),(3,.int .i64 bk),(8,.bE r.length),(16,.pure 4 (ai l)),(17,.int .i64 l.length),(18,.int .i64 ((c+1:Nat):Int))] (r++ [x])→
    E r.length K [(0,.bd I 1 0 0),(1,.pure 3 (ai ae)),(3,.int .i64 bk),(8,.bE r.length),(16,.pure 4 (ai l)),(17,.int .i64 l.length),(18,.int .i64 ((c+1:Nat):Int))] (r++x::t):=fun {t K x} aj ad=>by
    have:=E.drop (t:=t) (by simp) (HF hall aj) (by simp[Ez,dt];omega) ad;simpa using this
   by_cases J:l[c].bk=bk
   ·by_cases c1:l[c].min= -1
    ·have cn:=Y7 (ae:=ae) aI J (fun a aC=>(aA a aC).1) hl (v:=Ck ae l[c].ah) (by unfold su;rw[if_pos c1]);obtain⟨bF,bK,gX,rt,Q4,Q5⟩:=cn;have HC: (l[c].min== -1)=true:=beq_iff_eq.2 c1;simp only[go_sem,a45,wA,sw,h0,h1,aw,bT,Int.toNat_natCast,J,bne_self_eq_false,HC,List.append_assoc,dO,dH,ee,ec,List.length_append,aP]
     (refine rv (auU ae gy l[c].ah) ?_;rintro _ _ ⟨rfl,rfl⟩;simp only[go_sem])
     simp only[go_sem,List.append_assoc,dO,dH,ee,ec,List.length_append,aP,bF,bK,gX,Q4,Zb,List.append_nil];refine⟨by omega,by omega,?_⟩;rw[Q5];refine HE LN (E.ac ⟨⟨c+1,by omega,rfl,rfl⟩,?_⟩);simp only[go_sem];omega
    ·have cn:=Y7 (ae:=ae) aI J (fun a aC=>(aA a aC).1) hl (v:=l[c].min) (by unfold su;rw[if_neg c1]);obtain⟨bF,bK,gX,rt,Q4,Q5⟩:=cn;have HC: (l[c].min== -1)=false:=beq_eq_false_iff_ne.2 c1;simp only[go_sem,a45,wA,sw,h0,h1,aw,bT,Int.toNat_natCast,J,bne_self_eq_false,HC,List.append_assoc,dO,dH,ee,ec,List.length_append,aP,bF,bK,gX,Q4,Zb];refine⟨by omega,by omega,?_⟩;rw[Q5];refine HE LN (E.ac ⟨⟨c+1,by omega,rfl,rfl⟩,?_⟩);simp only[go_sem];omega
   ·have dR: (l[c].bk != bk)=true:=bne_iff_ne.2 J;simp only[go_sem,a45,wA,h0,h1,aw,bT,Int.toNat_natCast,dR,List.append_assoc,dO,dH,ee,ec,List.length_append,aP];rw[←auZ aI J];refine HE Q1 (E.ac ⟨⟨c+1,by omega,rfl,rfl⟩,?_⟩);simp only[go_sem];omega
  ·have h1: ¬(c:Int) < l.length:=by omega
   obtain rfl:c=l.length:=by omega
   simp only[go_sem,a45,wA,h1,List.take_length];have Zd:=HF hall (Q1 (n:=r.length+1) (ae:=ae) (bk:=bk) (l:=l));refine uV Zd (by simp[gx,dt]) Ze ?_;rintro _ _ ⟨rfl,rfl⟩;refine⟨by simp,?_⟩;simp only[go_sem,List.append_assoc,List.length_append];have yj:jP (r++ [sw ae bk l,.ag 232 1 [[.bE r.length]]]):=by
    have:=HF (x:= .ag 232 1 [[.bE r.length]]) Zd (by simp[jc,mj,gx,dt];omega);simpa using this
   refine uV yj (by simp[gx,dt]) (Zf (a:=r.length) (b:=r.length+1) (ents:=hP (eb ae bk l) (gJ bk l)) yj (by rw[dH];rfl) (by rw[dO];rfl) avd (Y2 bk l)
    (fun x aj=> ?_) (Nat.le_trans (Q0 bk l) (by omega))) ?_
   ·obtain⟨a,aC,_,rfl⟩:=QZ.1 aj;exact (aA a aC).2
   rintro _ _ ⟨aY,wB,HG,rfl,rfl⟩;refine⟨by simp,?_⟩;simp only[go_sem,List.append_assoc,List.length_append];have mg: ∀ x∈aY,(Lit.int .i64 x.B).wf=true∧x.n.size≤maxLen:=fun x aj=>by
    obtain⟨a,aC,_,rfl⟩:=QZ.1 (wB.mem_iff.1 aj);exact (aA a aC).2
   have Zg:aY.length≤100000:=by rw[wB.length_eq];exact Nat.le_trans (Q0 bk l) hl
   obtain⟨HH,HI⟩: ∃ z,r++ [sw ae bk l,.ag 232 1 [[.bE r.length]],.ag 235 2 (ai aY)]=z:=⟨_,rfl⟩;rw[HI];have va:hQ HH I m R ab Y bf:=by
    rw[←HI];refine⟨X,h.ext ?_⟩;simp only[List.mem_cons,List.not_mem_nil,or_false,forall_eq_or_imp,forall_eq];refine⟨Q1,?_,kA ck⟩;simp[jc,mj,gx,dt]
   have Q6:gf r HH m:=by rw[←HI];exact gf.mh
   have oK:HH[r.length]? =some (sw ae bk l):=by rw[←HI,dH];rfl
   have Cm:HH[r.length+2]? =some (.ag 235 2 (ai aY)):=by rw[←HI,dO];rfl
   refine dN (fun D W=> ∃ c:Nat,c≤aY.length∧D= [(0,.bd I 1 0 0),(8,.bE r.length),(49,.own (r.length+2) aY.length 0 aY.length),(50,.int .i64 aY.length),(51,.int .i64 c)]∧gf HH W m∧hQ W I m R ab (sx (eb ae bk l) R ab Y bf (aY.take c)).1 (sx (eb ae bk l) R ab Y bf (aY.take c)).2)
    (fun D _=>match bs D 51 with| .int _ j=>(aY.length-j).toNat|_=>0) ?_ ?_
   ·exact E.ac ⟨0,by omega,rfl,gf.refl,va⟩
   ·rintro D W ⟨c,av,rfl,hF,dc⟩;have aP:=dB (c:=c) (by omega);have HJ:W[r.length]? =some (sw ae bk l):=hF.2 _ _ oK (by omega) (fun k am e=>by unfold sw at e;cases e);have LO:W[r.length+2]? =some (.ag 235 2 (ai aY)):=hF.2 _ _ Cm (by omega) (fun k am e=>by
     simp only[Z.ag.injEq] at e;cases k<;>exact absurd e.1 (by decide))
    by_cases aI:c < aY.length
    ·have h1: (c:Int) < aY.length:=by omega
     have h0: (0:Int)≤c:=by omega
     have aw: (ai aY).getD c []= [.int .i64 aY[c].B,.str aY[c].n]:=by rw[cT aI,LP]
     have QB:aY[c]∈gJ bk l:=wB.mem_iff.1 (List.getElem_mem aI);have hw: (dm (.agg [.int .i64 aY[c].B,.str aY[c].n]) (hP (eb ae bk l) (gJ bk l))).getD (.int .i64 0)= .int .i64 (eb ae bk l aY[c]):=by
      rw[show F.agg [.int .i64 aY[c].B,.str aY[c].n]= .agg (aJ.J aY[c]) from rfl,Q2,if_pos QB];rfl
     unfold sw at HJ;have wC: ∀ t:Z,jc (W.length+1) t=true→hQ (W++ [t]) I m R ab (sx (eb ae bk l) R ab Y bf (aY.take c)).1 (sx (eb ae bk l) R ab Y bf (aY.take c)).2:=fun t ht=>by
      obtain⟨yk,yl⟩:=dc;exact⟨yk,yl.ext (by simpa using ht)⟩
     have nF:=ava (S:=eb ae bk l) (R:=R) (ab:=ab) (Y:=Y) (bf:=bf) aI
     by_cases ak:0 < eb ae bk l aY[c]
     ·simp only[go_sem,a45,wA,h0,h1,aw,bT,Int.toNat_natCast,List.append_assoc,HJ,LO,bQ HJ,bQ LO,dO,dH,ee,ec,List.length_append,aP,hw,ak];have Q7:=wC (.ag 235 2 [[.int .i64 aY[c].B,.str aY[c].n]]) (kA rfl);have cK:=avb (S:=eb ae bk l) (R:=R) (ab:=ab) (Y:=Y) cU (aY.take c);have Aa: (aY.take c).length≤100000:=by simp;omega
      refine aty (fun _ _ _ _ h=>by cases h) Q7.choose_spec.all (by
       have au:=km Q7.choose_spec.I;simp only[gx,dt,au,decide_true,Bool.and_true]) (Q8 Q7 (fun B k=>Nat.le_trans (cK B k) (by omega)) aY[c].B aY[c].n (eb ae bk l aY[c])) ?_
      rintro _ W' ⟨rfl,pO,jt⟩;refine⟨pO.1,?_⟩;simp only[go_sem,aP];refine E.ac ⟨⟨c+1,by omega,rfl,hF.trans (gf.mh.trans pO),?_⟩,?_⟩
      ·rw[nF];unfold wz
       by_cases N:R≤aY[c].B∧aY[c].B≤ab
       ·rw[if_pos N] at jt;rw[if_pos ⟨ak,N⟩];exact jt
       ·rw[if_neg N] at jt;rw[if_neg (fun h=>N h.2)];exact jt
      ·simp only[go_sem];omega
     ·simp only[go_sem,a45,wA,h0,h1,aw,bT,Int.toNat_natCast,List.append_assoc,HJ,LO,bQ HJ,bQ LO,dO,dH,ee,ec,List.length_append,aP,hw,ak];refine E.ac ⟨⟨c+1,by omega,rfl,hF.trans gf.mh,?_⟩,?_⟩
      ·rw[nF];unfold wz;rw[if_neg (fun h=>ak h.1)];exact wC _ (kA rfl)
      ·simp only[go_sem];omega
    ·have h1: ¬(c:Int) < aY.length:=by omega
     obtain rfl:c=aY.length:=by omega
     rw[List.take_length] at dc;simp only[go_sem,a45,wA,h1];exact E.ac ⟨rfl,Q6.trans hF,aY,wB,HG,dc⟩
open Go.RowKit (Below)
def auI:Go.Shelf.Ren:=
 {f:=fun x=>match x with|189=>127|125=>158|257=>211|128=>241|129=>242|294=>263|295=>264|296=>265|297=>266|298=>267|299=>268|216=>269|300=>270|301=>271|328=>333|329=>290|330=>291|331=>334|332=>335|215=>159|343=>357|n=>n,
  t:=fun x=>match x with|28=>47|3=>3|46=>284|0=>0|51=>347|53=>349|4=>4|183=>341|182=>340|131=>206|5=>5|9=>9|218=>376|222=>380|228=>412|229=>308|n=>n,
  g:=fun n=>n}
set_option maxRecDepth 100000 in
theorem LJ:Lays.n189 prog auI where
 mixed:=by kernel_rfl
 f125:=Eq.trans func158 (congrArg some (by kernel_rfl))
 f128:=Eq.trans func241 (congrArg some (by kernel_rfl))
 f129:=Eq.trans func242 (congrArg some (by kernel_rfl))
 f189:=Eq.trans func127 (congrArg some (by kernel_rfl))
 f215:=Eq.trans func159 (congrArg some (by kernel_rfl))
 f216:=Eq.trans func269 (congrArg some (by kernel_rfl))
 f257:=Eq.trans func211 (congrArg some (by kernel_rfl))
 f294:=Eq.trans func263 (congrArg some (by kernel_rfl))
 f295:=Eq.trans func264 (congrArg some (by kernel_rfl))
 f296:=Eq.trans func265 (congrArg some (by kernel_rfl))
 f297:=Eq.trans func266 (congrArg some (by kernel_rfl))
 f298:=Eq.trans func267 (congrArg some (by kernel_rfl))
 f299:=Eq.trans func268 (congrArg some (by kernel_rfl))
 f300:=Eq.trans func270 (congrArg some (by kernel_rfl))
 f301:=Eq.trans func271 (congrArg some (by kernel_rfl))
 f328:=Eq.trans func333 (congrArg some (by kernel_rfl))
 f329:=Eq.trans func290 (congrArg some (by kernel_rfl))
 f330:=Eq.trans func291 (congrArg some (by kernel_rfl))
 f331:=Eq.trans func334 (congrArg some (by kernel_rfl))
 f332:=Eq.trans func335 (congrArg some (by kernel_rfl))
 f343:=Eq.trans func357 (congrArg some (by kernel_rfl))
 t0:=underlying0
 a0:=isAgg0
 z0:=sizeOf0
 v0:=zeroValue0
 t3:=underlying3
 a3:=isAgg3
 z3:=sizeOf3
 v3:=zeroValue3
 t4:=underlying4
 a4:=isAgg4
 z4:=sizeOf4
 v4:=zeroValue4
 t5:=underlying5
 a5:=isAgg5
 z5:=sizeOf5
 v5:=zeroValue5
 t9:=underlying9
 a9:=isAgg9
 z9:=sizeOf9
 v9:=zeroValue9
 t28:=underlying47
 a28:=isAgg47
 z28:=sizeOf47
 v28:=zeroValue47
 t46:=underlying284
 a46:=isAgg284
 z46:=sizeOf284
 v46:=zeroValue284
 t51:=underlying347
 a51:=isAgg347
 z51:=sizeOf347
 v51:=zeroValue347
 t53:=underlying349
 a53:=isAgg349
 z53:=sizeOf349
 v53:=zeroValue349
 t131:=underlying206
 a131:=isAgg206
 z131:=sizeOf206
 v131:=zeroValue206
 t182:=underlying340
 a182:=isAgg340
 z182:=sizeOf340
 v182:=zeroValue340
 t183:=underlying341
 a183:=isAgg341
 z183:=sizeOf341
 v183:=zeroValue341
 t218:=underlying376
 a218:=isAgg376
 z218:=sizeOf376
 v218:=zeroValue376
 t222:=underlying380
 a222:=isAgg380
 z222:=sizeOf380
 v222:=zeroValue380
 t228:=underlying412
 a228:=isAgg412
 z228:=sizeOf412
 v228:=zeroValue412
 t229:=underlying308
 a229:=isAgg308
 z229:=sizeOf308
 v229:=zeroValue308
def auJ:Go.Shelf.Ren:=
 {f:=fun x=>match x with|20=>186|n=>n,
  t:=fun x=>match x with|22=>47|3=>3|4=>4|0=>0|n=>n,
  g:=fun n=>n}
set_option maxRecDepth 100000 in
theorem YU:Lays2.n20 prog auJ where
 mixed:=by kernel_rfl
 f20:=Eq.trans func186 (congrArg some (by kernel_rfl))
 t0:=underlying0
 a0:=isAgg0
 z0:=sizeOf0
 v0:=zeroValue0
 t3:=underlying3
 a3:=isAgg3
 z3:=sizeOf3
 v3:=zeroValue3
 t4:=underlying4
 a4:=isAgg4
 z4:=sizeOf4
 v4:=zeroValue4
 t22:=underlying47
 a22:=isAgg47
 z22:=sizeOf47
 v22:=zeroValue47
 i3:=by kernel_rfl
def fq (ce:List Int):List Int:=ce.mergeSort fun x y=>decide (x≤y)
theorem zY (ce:List Int): (fq ce).length=ce.length:=by unfold fq;exact List.length_mergeSort ce
theorem QT (ce:List Int): (Lib.compact ce).length≤ce.length:=by
 unfold Lib.compact Lib.compactUpTo;rw[List.length_map];refine Nat.le_trans (List.length_filter_le _ _) ?_;simp
theorem auK (ce:List Int)(ba:ce.length < 4611686018427387904):aO prog 127 [.own 0 ce.length 0 ce.length] [.ag 3 1 (cJ .i64 ce)] (fun v rs=>v= .bo []∧rs= [.ag 3 1 (cJ .i64 (fq ce))]):=by
 by_cases h0:0 < ce.length
 ·refine aO.inPlace (zY ce) h0 (fun w b cap h1 G=> ?_);exact Any.slices_Sort_int LJ b 0 cap ce w h1 G ba
 ·obtain rfl:ce= []:=List.length_eq_zero_iff.1 (by omega);refine aO.D2 ?_;rintro C dA N aA hG dv;rw[aE] at dv;obtain⟨v1,r1,rfl,an,aH⟩:=dv;rw[aE] at aH;subst aH;rw[Rep] at an;obtain⟨_,⟨cy,J,rfl⟩,_⟩:=an;refine (calls_of_every_depth fun aD=>AnyS.slices_Sort_int_none_in LJ aD cy J C.w).mono ?_;rintro e w' ⟨rfl,rfl⟩;exact⟨_,.bo [],rfl,⟨Below.refl _ _,Nat.le_refl _⟩,fun aB _=>by rw[Rep];exact⟨#[],rfl,by simp[aE]⟩,rfl,by simp[fq]⟩
theorem auL (ce:List Int)(ba:ce.length < 4611686018427387904):aO prog 186 [.own 0 ce.length 0 ce.length] [.ag 3 1 (cJ .i64 ce)]
 (fun v rs=>v= .own 0 ce.length 0 (Lib.compact ce).length∧rs= [.ag 3 1 (cJ .i64 (Lib.compact ce++List.replicate (ce.length-(Lib.compact ce).length) 0))]):=by
 have eA:=QT ce
 by_cases h0:0 < ce.length
 ·refine aO.arR (by simp;omega) h0 eA (fun w b cap h1 G au=> ?_);refine (Any.slices_Compact_int YU b 0 cap ce w h1 (by omega) au).mono ?_;rintro e w' ⟨rfl,q,rfl⟩;exact⟨rfl,q,#[],by simp[Go.Sort.grow];rfl⟩
 ·obtain rfl:ce= []:=List.length_eq_zero_iff.1 (by omega);refine aO.D2 ?_;rintro C dA N aA hG dv;rw[aE] at dv;obtain⟨v1,r1,rfl,an,aH⟩:=dv;rw[aE] at aH;subst aH;have df:=an;rw[Rep] at df;obtain⟨_,⟨cy,J,rfl⟩,_⟩:=df;refine (Any.slices_Compact_int_empty YU cy J C.w).mono ?_;rintro e w' ⟨rfl,rfl⟩;exact⟨_,.own 0 0 0 0,rfl,⟨Below.refl _ _,Nat.le_refl _⟩,fun aB aj=>Rep.ext aj _ _ an,rfl,rfl⟩
end Go.Proofs.YtpincjkjoeopkaaGreatDoor
