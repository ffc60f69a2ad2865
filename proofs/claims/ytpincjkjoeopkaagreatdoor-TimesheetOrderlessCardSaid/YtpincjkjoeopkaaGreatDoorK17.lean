/- Time evaluation. -/
import Derived.Test.YtpincjkjoeopkaaGreatDoorK15
import Derived.Test.YtpincjkjoeopkaaGreatDoorK16
import Derived.WalkKit
import Derived.Test.YtpincjkjoeopkaaGreatDoorK4
import Derived.Shelf.Sort.Plain
import Derived.Shelf.Slices.In.SortNone
import Derived.Shelf.Slices.CompactI
import Derived.Lib.SlicesCompact
set_option linter.unusedSimpArgs false
set_option linter.unusedVariables false
set_option linter.unusedSectionVars false
namespace Go.Proofs.YtpincjkjoeopkaaGreatDoor
open Go Go.Abs Go.Proofs.Tryz
def hx (f:cm→Int)(M:List cm):List (z×z):=M.map fun k=>(.agg (aG.F k),.int .i64 (f k))
theorem Z1 {a b:cm}:a=b↔a.o=b.o∧a.n.toList=b.n.toList:=
 ⟨fun e=>by rw[e];exact⟨rfl,rfl⟩,fun⟨h1,B⟩=>by cases a;cases b;simp only at h1 B;rw[h1,Lc B]⟩
instance:DecidableEq cm:=fun a b=>decidable_of_iff _ (Z1 (a:=a) (b:=b)).symm
theorem Ri (a b:cm):fp (.agg (aG.F a)) (.agg (aG.F b))=decide (a=b):=by
 simp only[fp,cf,Kz,dU,Bool.and_true];rw[Bool.eq_iff_iff];simp only[Bool.and_eq_true,beq_iff_eq,decide_eq_true_eq];exact Z1.symm
def og (k:cm)(M:List cm):List cm:=if k∈M then M else M++ [k]
theorem DG {k x:cm}{M:List cm}:x∈og k M↔x=k∨x∈M:=by
 unfold og;split
 ·constructor
  ·exact .inr
  ·rintro (rfl|h)
   ·assumption
   ·exact h
 ·rw[List.mem_append,List.mem_singleton];exact Or.comm
theorem XO {k:cm}{M:List cm}(h:M.Nodup): (og k M).Nodup:=by
 unfold og;split
 ·exact h
 ·rename_i I;rw[List.nodup_append];exact⟨h,by simp,fun a aw b Z=>by rw[List.mem_singleton] at Z;subst Z;exact fun e=>I (e▸aw)⟩
theorem atl {k:cm}{M:List cm}: (og k M).length≤M.length+1:=by
 unfold og;split
 ·omega
 ·simp
theorem P4 {f:cm→Int}{k:cm}: ∀ {l:List cm},dd (.agg (aG.F k)) (hx f l)=if k∈l then some (.int .i64 (f k)) else none
 | []=>by simp[hx,dd]
 |p::l=>by
  have ih:=P4 (f:=f) (k:=k) (l:=l);unfold hx at *;rw[List.map_cons,dd];simp only[Ri,decide_eq_true_eq]
  by_cases I:k=p
  ·subst I;simp
  ·rw[if_neg I,ih];simp only[List.mem_cons,I,false_or]
theorem XV {f g:cm→Int}{k:cm}(ui: ∀ x,x≠k→f x=g x): ∀ {l:List cm},l.Nodup→dp (.agg (aG.F k)) (.int .i64 (g k)) (hx f l)=hx g (og k l)
 | [],_=>by simp[hx,dp,og]
 |p::l,hl=>by
  rw[List.nodup_cons] at hl;have ih:=XV ui hl.2;unfold hx og at *;rw[List.map_cons,dp];simp only[Ri,decide_eq_true_eq]
  by_cases I:k=p
  ·subst I;simp;exact fun a aw=>ui a (fun e=>hl.1 (e▸aw))
  ·simp only[I,if_false,ih,List.mem_cons,false_or];split<;>simp[ui p (fun e=>I e.symm)]
def lk (k:cm):List cm→Nat
 | []=>0
 |p::l=>if k=p then 0 else lk k l+1
theorem XU {f:cm→Int}{k:cm}: ∀ {l:List cm},(gr (.agg (aG.F k)) (hx f l)).getD (hx f l).length=lk k l
 | []=>rfl
 |p::l=>by
  have ih:=XU (f:=f) (k:=k) (l:=l);unfold hx at *;rw[List.map_cons,gr];simp only[Ri,decide_eq_true_eq,lk]
  by_cases I:k=p
  ·simp[I]
  ·rw[if_neg I,if_neg I,←ih,List.length_cons];cases gr (.agg (aG.F k)) (List.map (fun k=>(z.agg (aG.F k),z.int IntKind.i64 (f k))) l)<;>simp
theorem P5 {k:cm}: ∀ {l:List cm},k∈l→lk k l < l.length
 | [],h=>by simp at h
 |p::l,h=>by
  rw[lk];split
  ·simp
  ·rename_i I;have:=P5 (k:=k) (l:=l) (by rcases List.mem_cons.1 h with e|e;(·exact absurd e I);exact e);simp;omega
theorem XT {k:cm}: ∀ {l:List cm},lk k l=lk k (og k l)
 | []=>by simp[og,lk]
 |p::l=>by
  have ih:=XT (k:=k) (l:=l);unfold og at *
  by_cases I:k=p
  ·subst I;simp[lk]
  ·simp only[List.mem_cons,I,false_or]
   by_cases hm:k∈l
   ·rw[if_pos hm]
   ·rw[if_neg hm] at ih ⊢;rw[List.cons_append,lk,lk,if_neg I,if_neg I,ih]
theorem Z2 {k:cm}: ∀ {l:List cm},k∈l→l[lk k l]? =some k
 | [],h=>by simp at h
 |p::l,h=>by
  rw[lk];split
  ·rename_i e;simp[e]
  ·rename_i I;simpa using Z2 (k:=k) (l:=l) (by rcases List.mem_cons.1 h with e|e;(·exact absurd e I);exact e)
theorem atn {f:cm→Int}{k:cm}{v:Int}{l:List cm}(aB:l.Nodup)(I:k∈l){D:z×z}:
 (hx f l).set (lk k l) (((hx f l).getD (lk k l) D).1,.int .i64 v)=hx (fun x=>if x=k then v else f x) l:=by
 have ao:=Z2 I;have aC:=P5 I;refine List.ext_getElem? fun c=> ?_;rw[List.getElem?_set];unfold hx;rw[List.getD_eq_getElem?_getD,List.getElem?_map,List.getElem?_map,ao];simp only[Option.map_some,Option.getD_some,List.length_map]
 by_cases an:lk k l=c
 ·subst an;rw[if_pos rfl,if_pos aC,List.getElem?_map,ao];simp
 ·rw[if_neg an,List.getElem?_map];cases h:l[c]? with
  |none=>rfl
  |some x=>
   have ad:x≠k:=fun e=>by
    subst e;refine an ?_;obtain⟨h1,bF⟩:=List.getElem?_eq_some_iff.1 h;obtain⟨B,bJ⟩:=List.getElem?_eq_some_iff.1 ao;exact (List.getElem_inj aB).1 (bJ.trans bF.symm)
   simp[ad]
theorem ats {f:cm→Int}{l:List cm}: (hx f l).map (·.1)=zb l:=by unfold hx zb;simp
theorem atm {f:cm→Int}{l:List cm}: (hx f l).length=l.length:=by unfold hx;simp
theorem Kw {n:Nat}{f:cm→Int}: ∀ {l:List cm},mU n (hx f l)=true
 | []=>rfl
 |o::l=>by
  show (di n (.agg (aG.F o))&&di n (.int .i64 (f o))&&mU n (hx f l))=true;rw[Kw];rfl
theorem aK.qw {f g:FuncId}{aP:TypeId}(h: ∀ (nh:Nat) (w:World),Calls prog f #[.map (some nh)] w fun e w'=>e= .returned (.func (.func g) #[] #[.pointer (some ⟨w.heap.size,0,none⟩)])∧w'=w.alloc (.cells #[.map (some nh)] aP)){d:List R}{a:Nat}:
 aK prog f [.bu a] d (fun v rs=>v= .fn g [.aW d.length 1 0 0]∧rs=d++ [.aa aP 1 [[.bu a]]]):=by
 intro C du G ar hG dk;rw[ay] at dk;obtain⟨v0,bW,rfl,ag,aB⟩:=dk;rw[ay] at aB;subst aB;have db:=ag;rw[Rep] at ag;obtain⟨gV,⟨nh,rfl⟩,_,_⟩:=ag;refine (h nh C.w).mono ?_;rintro e w' ⟨rfl,rfl⟩;obtain⟨bI,ca⟩:=Cy db (rfl: (cf (.bu a)).all Abs.cM=true);have ae:=Ab ar aP 1 1 #[.map (some nh)] [[.bu a]] [.map (some nh)] (C.w.alloc (.cells #[.map (some nh)] aP)) ⟨rfl,rfl,rfl,rfl⟩ (by simp) (by simp[maxLen]) (by simp) (CJ rfl bI ca) rfl;refine⟨_,.fn g [.aW d.length 1 0 0],_,rfl,rfl,?_,ae.1,by rw[←G];exact ae.2,rfl,by rw[G]⟩;rw[Rep];refine⟨_,rfl,?_⟩;rw[ay];refine⟨_,[],rfl,?_,by rw[ay]⟩;have h1:=J6 (d:=C.d) (bm:=C.bm) (bS:=C.bS) (w:=C.w.alloc (.cells #[.map (some nh)] aP)) (e:=aP) (N:=1) (b:=C.w.heap.size) (cap:=1) (cells:= [.bu a]) ar.dm;rw[ar.bT,←G];exact h1
theorem XZ {d:List R}{a:Nat}:aK prog 121 [.bu a] d
 (fun v rs=>v= .fn 207 [.aW d.length 1 0 0]∧rs=d++ [.aa 232 1 [[.bu a]]]):=by
 refine aK.qw fun nh w=> ?_
 go_enter func121,ntmps121
 go_wp2
 go_ret
 exact⟨rfl,rfl⟩
theorem ZH {d:List R}{a:Nat}:aK prog 48 [.bu a] d
 (fun v rs=>v= .fn 128 [.aW d.length 1 0 0]∧rs=d++ [.aa 116 1 [[.bu a]]]):=by
 refine aK.qw fun nh w=> ?_
 go_enter func48,ntmps48
 go_wp2
 go_ret
 exact⟨rfl,rfl⟩
theorem qI.ext {d t:List R}{E m:Nat}{J T:Int}{M:List Int}{ba:Int→Bool→List (List z)}{X:Int→Bool→Nat}(h:qI d E m J T M ba X)(ht: ∀ bz∈t,iM (d.length+t.length) bz=true):qI (d++t) E m J T M ba X:=
 ⟨DI h.all ht,bL h.E,bL h.m,h.GB,h.dP,h.fU,fun o k ag=>bL (h.x o k ag),h.inj⟩
def hy (d:List R)(E m:Nat)(J T:Int)(M:List Int)(ba:Int→Bool→List (List z)):Prop:= ∃ X,qI d E m J T M ba X
theorem fY.lC {d t:List R}{m:Nat}:fY d (d++t) m:=⟨by simp,fun i bz h _ _=>bL h⟩
theorem X1 {X:Int→Bool→Nat}{ba:Int→Bool→List (List z)}{o:Int}{k:Bool}:cM (hc X ba o k)=true:=by
 unfold hc;split<;>rfl
theorem X2 {X:Int→Bool→Nat}{ba:Int→Bool→List (List z)}{M:List Int}{ab:Int}(h: ∀ o k,ba o k≠ []→o∈M):
 ∃ hT:Int,(dd (.int .i64 ab) (cX (mW X ba) M)).getD (.agg [.int .i64 0,.bD,.bD])= .agg [.int .i64 hT,hc X ba ab false,hc X ba ab true]:=by
 rw[DJ]
 by_cases aq:ab∈M
 ·exact⟨ab,by rw[if_pos aq];rfl⟩
 ·have ag: ∀ k,ba ab k= []:=fun k=>by
   apply Classical.byContradiction;intro hne;exact aq (h ab k hne)
  exact⟨0,by rw[if_neg aq];simp[hc,ag]⟩
theorem att {X:Int→Bool→Nat}{ba:Int→Bool→List (List z)}{M:List Int}{ab:Int}{F:List z}{q:Nat}(aB:M.Nodup)(k:Bool)(v:z)(ag:v=mW (rI X ab k q) (gH ba ab k F) ab):
 dp (.int .i64 ab) v (cX (mW X ba) M)=cX (mW (rI X ab k q) (gH ba ab k F)) (ea ab M):=by
 rw[ag];refine DK (fun x ad=> ?_) aB;have bF: ∀ bo,rI X ab k q x bo=X x bo:=fun bo=>by unfold rI;rw[if_neg (fun e=>ad e.1)]
 have bJ: ∀ bo,gH ba ab k F x bo=ba x bo:=fun bo=>by unfold gH;rw[if_neg (fun e=>ad e.1)]
 unfold mW hc;rw[bF,bF,bJ,bJ]
theorem atu {X:Int→Bool→Nat}{ba:Int→Bool→List (List z)}{o:Int}{F:List z}{q:Nat}(k:Bool):
 mW (rI X o k q) (gH ba o k F) o= .agg [.int .i64 o,if k then hc X ba o false else .own q ((ba o k).length+1) 0 ((ba o k).length+1),if k then .own q ((ba o k).length+1) 0 ((ba o k).length+1) else hc X ba o true]:=by
 unfold mW hc rI gH;cases k<;>simp
def xf (X:Int→Bool→Nat)(ba:Int→Bool→List (List z))(M:List Int)(o:Int)(v:z):R:= .aY (.map false [.int .i64] (dp (.int .i64 o) v (cX (mW X ba) M)))
theorem qI.lt {d:List R}{E m:Nat}{J T:Int}{M:List Int}{ba:Int→Bool→List (List z)}{X:Int→Bool→Nat}(h:qI d E m J T M ba X)(o:Int)(k:Bool)(ag:ba o k≠ []):X o k < d.length:=jP (h.x o k ag)
theorem X3 {d W:List R}{E m:Nat}{J T:Int}{M:List Int}{ba:Int→Bool→List (List z)}{X:Int→Bool→Nat}(h:qI d E m J T M ba X)(o:Int)(k:Bool)(F:List z)(V:bP F=true)(q:Nat)(v:z)
 (ag:v= .agg [.int .i64 o,if k then hc X ba o false else .own q ((ba o k).length+1) 0 ((ba o k).length+1),if k then .own q ((ba o k).length+1) 0 ((ba o k).length+1) else hc X ba o true])
 (aQ:ba o k≠ []→q=X o k) (iz:ba o k= []→d.length≤q) (hW:jA W) (hl:d.length≤W.length) (aB:W[q]? =some (.aa (sH k) 2 (ba o k++ [F]))) (bi: ∀ i bz,d[i]? =some bz→i≠q→W[i]? =some bz):
 fY d (W.set m (xf X ba M o v)) m∧hy (W.set m (xf X ba M o v)) E m J T (ea o M) (gH ba o k F):=by
 have atv:m≠q:=fun e=>by
  by_cases jJ:ba o k= []
  ·have:=iz jJ;have:=jP h.m;omega
  ·have h1:=h.m;rw[e,aQ jJ,h.x o k jJ] at h1;cases h1
 have atw:m < W.length:=Nat.lt_of_lt_of_le (jP h.m) hl;have Bg:xf X ba M o v= .aY (.map false [.int .i64] (cX (mW (rI X o k q) (gH ba o k F)) (ea o M))):=by
  unfold xf;rw[att (F:=F) (q:=q) h.GB k v (by rw[ag,atu])]
 have X4: ∀ i bz,d[i]? =some bz→i≠m→i≠q→(W.set m (xf X ba M o v))[i]? =some bz:=fun i bz h1 B am=>by
  rw[List.getElem?_set,if_neg (fun e=>B e.symm)];exact bi i bz h1 am
 refine⟨⟨by rw[List.length_set];exact hl,fun i bz h1 B am=>X4 i bz h1 B fun e=> ?_⟩,rI X o k q,h.lC o k F V q aQ iz ?_ ?_ ?_ X4⟩
 ·by_cases jJ:ba o k= []
  ·have:=iz jJ;have:=jP h1;omega
  ·rw[e,aQ jJ,h.x o k jJ] at h1;exact am k _ (Option.some.inj h1).symm
 ·refine Bh hW ?_;rw[Bg];refine KA fun x _=>atx (fun ig bo db=> ?_) x;unfold gH at db;unfold rI;split
  ·exact jP aB
  ·rename_i e;rw[if_neg e] at db;exact Nat.lt_of_lt_of_le (h.lt ig bo db) hl
 ·rw[List.getElem?_set,if_pos rfl,if_pos atw,Bg]
 ·rw[List.getElem?_set,if_neg atv];exact aB
theorem X5 {d aP:List R}{E m:Nat}{J T:Int}{M:List Int}{ba:Int→Bool→List (List z)}{X:Int→Bool→Nat}(h:qI d E m J T M ba X)(o:Int)(k:Bool)(F:List z)(V:bP F=true)(j:Nat)(v:z)
 (jJ:ba o k= []) (ag:v= .agg [.int .i64 o,if k then hc X ba o false else .own (d.length+j) 1 0 1,if k then .own (d.length+j) 1 0 1 else hc X ba o true])
 (hv:aP[j]? =some (.aa (sH k) 2 [F])) (Qb: ∀ bz∈aP,iM (d.length+aP.length) bz=true):
 fY d ((d++aP).set m (xf X ba M o v)) m∧hy ((d++aP).set m (xf X ba M o v)) E m J T (ea o M) (gH ba o k F):=
 X3 h o k F V (d.length+j) v (by rw[ag,jJ];rfl) (fun e=>absurd jJ e) (fun _=>by omega) (DI h.all Qb) (by simp) (by rw[dE,hv,jJ];rfl) fun i bz h1 _=>bL h1
theorem X6 {d aP:List R}{E m:Nat}{J T:Int}{M:List Int}{ba:Int→Bool→List (List z)}{X:Int→Bool→Nat}(h:qI d E m J T M ba X)(o:Int)(k:Bool)(F:List z)(V:bP F=true)(v:z)
 (jJ:ba o k≠ []) (ag:v= .agg [.int .i64 o,if k then hc X ba o false else .own (X o k) ((ba o k).length+1) 0 ((ba o k).length+1),if k then .own (X o k) ((ba o k).length+1) 0 ((ba o k).length+1) else hc X ba o true])
 (Qb: ∀ bz∈aP,iM (d.length+aP.length) bz=true):
 fY d ((d.set (X o k) (.aa (sH k) 2 (ba o k++ [F]))++aP).set m (xf X ba M o v)) m∧hy ((d.set (X o k) (.aa (sH k) 2 (ba o k++ [F]))++aP).set m (xf X ba M o v)) E m J T (ea o M) (gH ba o k F):=by
 have hl:=h.lt o k jJ;have an:jA (d.set (X o k) (.aa (sH k) 2 (ba o k++ [F]))):=Bh h.all (kf (by rw[OY,h.fU];simp[eg,V]));refine X3 h o k F V (X o k) v ag (fun _=>rfl) (fun e=>absurd e jJ) (DI an (by rw[List.length_set];exact Qb)) (by simp) ?_ fun i bz h1 B=>bL ?_
 ·refine bL ?_;rw[List.getElem?_set,if_pos rfl,if_pos hl]
 ·rw[List.getElem?_set,if_neg (fun e=>B e.symm)];exact h1
theorem Qa {d:List R}{E m:Nat}{J T:Int}{M:List Int}{ba:Int→Bool→List (List z)}(h0:hy d E m J T M ba)(cL: ∀ o k,(ba o k).length≤1000000)(ab:Int)(dX:ByteArray)(cF:Int):
 aK prog 118 [.aW E 1 0 0,.int .i64 ab,.agg [.str dX,.int .i64 cF]] d
  (fun v W=>v= .bg []∧fY d W m∧if J≤ab∧ab≤T then hy W E m J T (ea ab M) (gH ba ab false [.str dX,.int .i64 cF]) else hy W E m J T M ba):=by
 obtain⟨X,h⟩:=h0;refine cr func118 X7 (by simp[Bi,DL]) ?_;have ak:=h.E;have hm:=h.m
 by_cases aq:J≤ab∧ab≤T
 rotate_left
 ·have key: ∀ (t:List R),(∀ bz∈t,iM (d.length+t.length) bz=true)→fY d (d++t) m∧if J≤ab∧ab≤T then hy (d++t) E m J T (ea ab M) (gH ba ab false [.str dX,.int .i64 cF]) else hy (d++t) E m J T M ba:=fun t ht=>
   ⟨fY.lC,by rw[if_neg aq];exact⟨X,h.ext ht⟩⟩
  by_cases d1:ab < J
  ·simp only[go_sem,Bi,DL,List.append_assoc,bL ak,d1];exact s.U ⟨rfl,key _ (by simp[iM,lG,gl,di])⟩
  ·have kd:T < ab:=by omega
   simp only[go_sem,Bi,DL,List.append_assoc,bL ak,d1,kd];exact s.U ⟨rfl,key _ (by simp[iM,lG,gl,di])⟩
 have d1: ¬ab < J:=by omega
 have kd: ¬T < ab:=by omega
 obtain⟨hT,ub⟩:=X2 (X:=X) (ab:=ab) h.dP;have aty:=cL ab false;have h1:cM (hc X ba ab true)=true:=X1;have uO: ∀ n,d.length≤n→di n (hc X ba ab true)=true:=fun n aB=>F1 aB _ (Qc h.lt ab true)
 by_cases ag:ba ab false= []
 ·have iT:hc X ba ab false= .bD:=by unfold hc;rw[ag];rfl
  rw[iT] at ub;simp only[go_sem,Bi,DL,List.append_assoc,bL ak,bL hm,dE,dz,dW,dT,List.length_append,d1,kd,ub,h1];refine s.U ⟨rfl,?_⟩;rw[if_pos aq];exact X5 h ab false _ rfl 3 _ ag rfl rfl (by
   simp only[List.mem_cons,List.not_mem_nil,or_false,forall_eq_or_imp,forall_eq,iM,lG,gl,di,uO _ (Nat.le_add_right _ _),List.length_cons,List.length_nil,Bool.and_true,Bool.true_and,decide_eq_true_eq,true_and,and_true];omega)
 ·have ad:=h.x ab false ag;have ae:0 < (ba ab false).length:=List.length_pos_iff.2 ag;have iT:hc X ba ab false= .own (X ab false) (ba ab false).length 0 (ba ab false).length:=by unfold hc;rw[if_neg (by omega)]
  rw[iT] at ub;simp only[go_sem,Bi,DL,List.append_assoc,bL ak,bL hm,bL ad,dE,dz,dW,dT,List.length_append,d1,kd,ub,h1];refine⟨rfl,by omega,?_⟩;have sw:X ab false≠E:=fun e=>(by rw[e,ak] at ad;simp only[Option.some.injEq,R.aa.injEq] at ad;omega);have Fb:X ab false≠m:=fun e=>(by rw[e,hm] at ad;cases ad);have KB: (d.set (X ab false) (.aa 78 2 (ba ab false++ [[.str dX,.int .i64 cF]])))[E]? =some (.aa 118 3 [[.int .i64 J,.int .i64 T,.bu m]]):=by rw[List.getElem?_set,if_neg sw];exact ak
  have nE: (d.set (X ab false) (.aa 78 2 (ba ab false++ [[.str dX,.int .i64 cF]])))[m]? =some (.aY (.map false [.int .i64] (cX (mW X ba) M))):=by rw[List.getElem?_set,if_neg Fb];exact hm
  have mX: (d.set (X ab false) (.aa 78 2 (ba ab false++ [[.str dX,.int .i64 cF]]))).length=d.length:=List.length_set;have mo:=fun (aP:List R) hv=>X6 (aP:=aP) h ab false [.str dX,.int .i64 cF] rfl _ ag rfl hv;simp only[sI ad];have GC: ∀ n,d.length≤n→di n (.own (X ab false) ((ba ab false).length+1) 0 ((ba ab false).length+1))=true:=fun n aB=>by
   have:=h.lt ab false ag;simp only[di,decide_eq_true_eq];omega
  simp only[show sH false=78 from rfl] at mo;generalize d.set (X ab false) (.aa 78 2 (ba ab false++ [[.str dX,.int .i64 cF]]))=az at *;simp only[←mX] at uO GC mo ⊢;simp only[go_sem,bL KB,bL nE,dE,dz,dW,dT,List.length_append,h1];refine s.U ⟨rfl,?_⟩;rw[if_pos aq];refine mo _ ?_;simp only[List.mem_cons,List.not_mem_nil,or_false,forall_eq_or_imp,forall_eq,iM,lG,gl,di,uO _ (Nat.le_add_right _ _),GC _ (Nat.le_add_right _ _),List.length_cons,List.length_nil,Bool.and_true,Bool.true_and,decide_eq_true_eq,true_and,and_true]
  all_goals (have:=h.lt ab false ag;omega)
def gS (a:eS):cm:=⟨a.ab,a.name⟩
def rF (Y:List cp)(a:eS):Int:=if a.min= -1 then Bd Y a.ab else a.min
def gy (bh:Int)(l:List eS):List cm:=l.foldl (fun M a=>if a.bh=bh then og (gS a) M else M) []
def dS (Y:List cp)(bh:Int)(l:List eS)(k:cm):Int:=(l.map fun a=>if a.bh=bh∧gS a=k then rF Y a else 0).sum
def Be (a:eS):Prop:= -1≤a.min∧a.min≤1440
theorem Kv {bh:Int}{l:List eS}{c:Nat}(an:c < l.length):gy bh (l.take (c+1))=if l[c].bh=bh then og (gS l[c]) (gy bh (l.take c)) else gy bh (l.take c):=by
 unfold gy;rw[List.take_succ_eq_append_getElem an,List.foldl_append];rfl
theorem XN (bh:Int)(l:List eS): (gy bh l).Nodup:=by
 have: ∀ (l:List eS) (M:List cm),M.Nodup→(l.foldl (fun M a=>if a.bh=bh then og (gS a) M else M) M).Nodup:=by
  intro l
  induction l with
  |nil=>intro M h;exact h
  |cons a l ih=>
   intro M h;rw[List.foldl_cons];refine ih _ ?_;split
   ·exact XO h
   ·exact h
 exact this l [] List.nodup_nil
theorem P1 {bh:Int}{l:List eS}{k:cm}:k∈gy bh l↔ ∃ a∈l,a.bh=bh∧gS a=k:=by
 have: ∀ (l:List eS) (M:List cm),k∈l.foldl (fun M a=>if a.bh=bh then og (gS a) M else M) M↔k∈M∨ ∃ a∈l,a.bh=bh∧gS a=k:=by
  intro l
  induction l with
  |nil=>simp
  |cons a l ih=>
   intro M;rw[List.foldl_cons,ih];constructor
   ·rintro (h|⟨b,Z,h⟩)
    ·split at h
     ·rename_i he;rcases DG.1 h with rfl|h
      ·exact .inr ⟨a,List.mem_cons_self,he,rfl⟩
      ·exact .inl h
     ·exact .inl h
    ·exact .inr ⟨b,List.mem_cons_of_mem _ Z,h⟩
   ·rintro (h|⟨b,Z,he,h⟩)
    ·left
     split
     ·exact DG.2 (.inr h)
     ·exact h
    ·rcases List.mem_cons.1 Z with rfl|Z
     ·left;rw[if_pos he];exact DG.2 (.inl h.symm)
     ·exact .inr ⟨b,Z,he,h⟩
 have:=this l [];simpa[gy] using this
theorem P2 (bh:Int)(l:List eS): (gy bh l).length≤l.length:=by
 have: ∀ (l:List eS) (M:List cm),(l.foldl (fun M a=>if a.bh=bh then og (gS a) M else M) M).length≤M.length+l.length:=by
  intro l
  induction l with
  |nil=>simp
  |cons a l ih=>
   intro M;rw[List.foldl_cons];refine Nat.le_trans (ih _) ?_;rw[List.length_cons];split
   ·have:=atl (k:=gS a) (M:=M);omega
   ·omega
 simpa[gy] using this l []
theorem XP {Y:List cp}{a:eS}(h:Be a):0≤rF Y a∧rF Y a≤1474560:=by
 have:=ati Y a.ab;unfold rF Be at *;split<;>omega
theorem XQ {Y:List cp}{bh:Int}{k:cm}: ∀ {l:List eS},(∀ a∈l,Be a)→0≤dS Y bh l k∧dS Y bh l k≤1474560*l.length
 | [],_=>by simp[dS]
 |a::l,h=>by
  have ih:=XQ (Y:=Y) (bh:=bh) (k:=k) (l:=l) fun b Z=>h b (List.mem_cons_of_mem _ Z);have h1:=XP (Y:=Y) (h a List.mem_cons_self);unfold dS at *;rw[List.map_cons,List.sum_cons,List.length_cons];split<;>omega
theorem Gu {Y:List cp}{bh:Int}{k:cm}{l:List eS}{c:Nat}(an:c < l.length):dS Y bh (l.take (c+1)) k=dS Y bh (l.take c) k+if l[c].bh=bh∧gS l[c]=k then rF Y l[c] else 0:=by
 unfold dS;exact XI (fun a=>if a.bh=bh∧gS a=k then rF Y a else 0) an
theorem XR {Y:List cp}{bh:Int}{k:cm}{l:List eS}(h:k∉gy bh l):dS Y bh l k=0:=by
 have: ∀ l:List eS,(∀ a∈l,¬(a.bh=bh∧gS a=k))→(l.map fun a=>if a.bh=bh∧gS a=k then rF Y a else 0).sum=0:=by
  intro l
  induction l with
  |nil=>simp
  |cons a l ih=>
   intro h;rw[List.map_cons,List.sum_cons,if_neg (h a List.mem_cons_self),ih fun b Z=>h b (List.mem_cons_of_mem _ Z)];rfl
 exact this l fun a aw V=>h (P1.2 ⟨a,aw,V.1,V.2⟩)
def rG (Y:List cp)(bh:Int)(l:List eS):R:= .aY (.map true [.int .i64,.str] (hx (dS Y bh l) (gy bh l)))
theorem P3 {n:Nat}{Y:List cp}{bh:Int}{l:List eS}:iM n (rG Y bh l)=true:=Kw
theorem XS {Y:List cp}{bh:Int}{l:List eS}{c:Nat}(an:c < l.length)(he:l[c].bh=bh)(ar: ∀ a∈l,Be a)(hl:l.length≤100000){v:Int}(ag:v=rF Y l[c]):
 (dd (.agg [.int .i64 l[c].ab,.str l[c].name]) (hx (dS Y bh (l.take c)) (gy bh (l.take c)))).getD (.int .i64 0)= .int .i64 (dS Y bh (l.take c) (gS l[c]))∧
 dp (.agg [.int .i64 l[c].ab,.str l[c].name]) (.int .i64 (dS Y bh (l.take c) (gS l[c]))) (hx (dS Y bh (l.take c)) (gy bh (l.take c)))=hx (dS Y bh (l.take c)) (gy bh (l.take (c+1)))∧
 (gr (.agg [.int .i64 l[c].ab,.str l[c].name]) (hx (dS Y bh (l.take c)) (gy bh (l.take c)))).getD (hx (dS Y bh (l.take c)) (gy bh (l.take c))).length=lk (gS l[c]) (gy bh (l.take c))∧
 lk (gS l[c]) (gy bh (l.take c)) < (hx (dS Y bh (l.take c)) (gy bh (l.take (c+1)))).length∧
 IntKind.i64.wrap (dS Y bh (l.take c) (gS l[c])+v)=dS Y bh (l.take (c+1)) (gS l[c])∧
 ∀ D,(hx (dS Y bh (l.take c)) (gy bh (l.take (c+1)))).set (lk (gS l[c]) (gy bh (l.take c))) (((hx (dS Y bh (l.take c)) (gy bh (l.take (c+1)))).getD (lk (gS l[c]) (gy bh (l.take c))) D).1,.int .i64 (dS Y bh (l.take (c+1)) (gS l[c])))=hx (dS Y bh (l.take (c+1))) (gy bh (l.take (c+1))):=by
 have I:z.agg [.int .i64 l[c].ab,.str l[c].name]= .agg (aG.F (gS l[c])):=rfl;have aB:=XN bh (l.take c);have kK:=Kv (bh:=bh) an;rw[if_pos he] at kK;have ip:lk (gS l[c]) (gy bh (l.take c))=lk (gS l[c]) (gy bh (l.take (c+1))):=by rw[kK];exact XT
 have hm:gS l[c]∈gy bh (l.take (c+1)):=by rw[kK];exact DG.2 (.inl rfl)
 have ce:=Gu (Y:=Y) (bh:=bh) (k:=gS l[c]) an;rw[if_pos ⟨he,rfl⟩] at ce;have Z:=XQ (Y:=Y) (bh:=bh) (k:=gS l[c]) (l:=l.take c) fun a aw=>ar a (List.mem_of_mem_take aw);have ri:=XP (Y:=Y) (ar _ (List.getElem_mem an));have DH: (l.take c).length≤100000:=by simp;omega
 rw[I];refine⟨?_,?_,XU,?_,?_,fun D=> ?_⟩
 ·rw[P4];split
  ·rfl
  ·rename_i pC;rw[XR pC];rfl
 ·rw[XV (f:=dS Y bh (l.take c)) (g:=dS Y bh (l.take c)) (fun _ _=>rfl) aB,kK]
 ·rw[ip,atm];exact P5 hm
 ·rw[bf (by omega) (by omega),ce,ag]
 ·rw[ip,atn (by rw[kK];exact XO aB) hm];unfold hx;refine List.map_congr_left fun x _=> ?_;show (z.agg (aG.F x),z.int .i64 (if x=gS l[c] then _ else _))=_
  by_cases e:x=gS l[c]
  ·rw[if_pos e,e]
  ·rw[if_neg e,Gu an,if_neg (fun h=>e h.2.symm),Int.add_zero]
theorem ato {Y:List cp}{bh:Int}{l:List eS}{c:Nat}(an:c < l.length)(he:l[c].bh≠bh):rG Y bh (l.take (c+1))=rG Y bh (l.take c):=by
 unfold rG;rw[Kv an,if_neg he];have:dS Y bh (l.take (c+1))=dS Y bh (l.take c):=funext fun k=>by rw[Gu an,if_neg (fun h=>he h.1),Int.add_zero]
 rw[this]
theorem XW {f:cm→Int}{M:List cm}:yt true [.int .i64,.str] (hx f M):=by
 intro p ae;obtain⟨k,_,rfl⟩:=List.mem_map.1 ae;exact⟨rfl,rfl,trivial⟩
def vt (S:cm→Int)(J T:Int)(bq:List Int×(Int→Bool→List (List z)))(k:cm):List Int×(Int→Bool→List (List z)):=
 if 0 < S k∧J≤k.o∧k.o≤T then (ea k.o bq.1,gH bq.2 k.o false [.str k.n,.int .i64 (S k)]) else bq
def rH (S:cm→Int)(J T:Int)(M:List Int)(ba:Int→Bool→List (List z))(aU:List cm):List Int×(Int→Bool→List (List z)):=aU.foldl (vt S J T) (M,ba)
theorem atp {S:cm→Int}{J T:Int}{M:List Int}{ba:Int→Bool→List (List z)}{aU:List cm}{c:Nat}(an:c < aU.length):rH S J T M ba (aU.take (c+1))=vt S J T (rH S J T M ba (aU.take c)) aU[c]:=by
 unfold rH;rw[List.take_succ_eq_append_getElem an,List.foldl_append];rfl
theorem atq {S:cm→Int}{J T:Int}{M:List Int}{ba:Int→Bool→List (List z)}{n:Nat}(hV: ∀ o k,(ba o k).length≤n): ∀ (aU:List cm) (o:Int) (k:Bool),((rH S J T M ba aU).2 o k).length≤n+aU.length:=by
 have: ∀ (aU:List cm) (bq:List Int×(Int→Bool→List (List z))) (n:Nat),(∀ o k,(bq.2 o k).length≤n)→ ∀ o k,((aU.foldl (vt S J T) bq).2 o k).length≤n+aU.length:=by
  intro aU
  induction aU with
  |nil=>intro bq n h o k;exact h o k
  |cons x aU ih=>
   intro bq n h o k;rw[List.foldl_cons];refine Nat.le_trans (ih _ (n+1) (fun o k=> ?_) o k) (by rw[List.length_cons];omega);unfold vt;split
   ·show (gH bq.2 x.o false _ o k).length≤n+1;unfold gH;split
    ·rename_i e;have:=h x.o false;rw[List.length_append];simp;omega
    ·have:=h o k;omega
   ·have:=h o k;omega
 intro aU o k;exact this aU (M,ba) n hV o k
set_option maxHeartbeats 2000000 in
theorem atr {d:List R}{E m:Nat}{J T:Int}{M:List Int}{ba:Int→Bool→List (List z)}(h0:hy d E m J T M ba)(cL: ∀ o k,(ba o k).length≤100000)(Y:List cp)(gm:Y.length≤1000000)(l:List eS)(hl:l.length≤100000)(ar: ∀ a∈l,Be a∧(Lit.int .i64 a.ab).wf=true∧a.name.size≤maxLen)(bh:Int):
 aK prog 45 [.aW E 1 0 0,.pure 3 (ac Y),.pure 4 (ac l),.int .i64 bh] d
  (fun v W=>v= .bg []∧fY d W m∧ ∃ aU:List cm,aU.Perm (gy bh l)∧aU.Pairwise pb∧hy W E m J T (rH (dS Y bh l) J T M ba aU).1 (rH (dS Y bh l) J T M ba aU).2):=by
 obtain⟨X,h⟩:=h0;have hall:=h.all;have fd:=jP h.E;have xW:=jP h.m;refine cr func45 XX (by simp[a45,vu]) ?_;simp only[go_sem,a45,vu,bO];refine dR (fun r bY=> ∃ c:Nat,c≤l.length∧r= [(0,.aW E 1 0 0),(1,.pure 3 (ac Y)),(3,.int .i64 bh),(8,.bu d.length),(16,.pure 4 (ac l)),(17,.int .i64 l.length),(18,.int .i64 c)]∧bY=d++ [rG Y bh (l.take c)])
  (fun r _=>match bn r 18 with| .int _ j=>(l.length-j).toNat|_=>0) ?_ ?_
 ·exact s.U ⟨0,by omega,rfl,rfl⟩
 ·rintro r bY ⟨c,an,rfl,rfl⟩;have aR:=dr (c:=c) (by omega)
  by_cases aC:c < l.length
  ·have h1: (c:Int) < l.length:=by omega
   have h0: (0:Int)≤c:=by omega
   have ao: (ac l).getD c []= [.int .i64 l[c].bh,.int .i64 l[c].ab,.str l[c].name,.int .i64 l[c].min]:=by rw[cQ aC,PX]
   have Gv: ∀ {t:List R} {K:aJ→List R→Prop} {x:R},iM (d.length+1) x=true→s d.length K [(0,.aW E 1 0 0),(1,.pure 3 (ac Y)),(3,.int .i64 bh),(8,.bu d.length),(16,.pure 4 (ac l)),(17,.int .i64 l.length),(18,.int .i64 ((c+1:Nat):Int))] (d++ [x])→
    s d.length K [(0,.aW E 1 0 0),(1,.pure 3 (ac Y)),(3,.int .i64 bh),(8,.bu d.length),(16,.pure 4 (ac l)),(17,.int .i64 l.length),(18,.int .i64 ((c+1:Nat):Int))] (d++x::t):=fun {t K x} ad V=>by
    have:=s.drop (t:=t) (by simp) (Gw hall ad) (by simp[Dj,di];omega) V;simpa using this
   by_cases F:l[c].bh=bh
   ·by_cases c1:l[c].min= -1
    ·have ce:=XS (Y:=Y) aC F (fun a aw=>(ar a aw).1) hl (v:=Bd Y l[c].ab) (by unfold rF;rw[if_pos c1]);obtain⟨bF,bJ,it,qE,P6,P7⟩:=ce;have Gt: (l[c].min== -1)=true:=beq_iff_eq.2 c1;simp only[go_sem,a45,vu,rG,h0,h1,ao,bO,Int.toNat_natCast,F,bne_self_eq_false,Gt,List.append_assoc,dE,dz,dW,dT,List.length_append,aR]
     (refine vf (atj Y gm l[c].ab) ?_;rintro _ _ ⟨rfl,rfl⟩;simp only[go_sem])
     simp only[go_sem,List.append_assoc,dE,dz,dW,dT,List.length_append,aR,bF,bJ,it,P6,XW,List.append_nil];refine⟨by omega,by omega,?_⟩;rw[P7];refine Gv Kw (s.U ⟨⟨c+1,by omega,rfl,rfl⟩,?_⟩);simp only[go_sem];omega
    ·have ce:=XS (Y:=Y) aC F (fun a aw=>(ar a aw).1) hl (v:=l[c].min) (by unfold rF;rw[if_neg c1]);obtain⟨bF,bJ,it,qE,P6,P7⟩:=ce;have Gt: (l[c].min== -1)=false:=beq_eq_false_iff_ne.2 c1;simp only[go_sem,a45,vu,rG,h0,h1,ao,bO,Int.toNat_natCast,F,bne_self_eq_false,Gt,List.append_assoc,dE,dz,dW,dT,List.length_append,aR,bF,bJ,it,P6,XW];refine⟨by omega,by omega,?_⟩;rw[P7];refine Gv Kw (s.U ⟨⟨c+1,by omega,rfl,rfl⟩,?_⟩);simp only[go_sem];omega
   ·have dH: (l[c].bh != bh)=true:=bne_iff_ne.2 F;simp only[go_sem,a45,vu,h0,h1,ao,bO,Int.toNat_natCast,dH,List.append_assoc,dE,dz,dW,dT,List.length_append,aR];rw[←ato aC F];refine Gv P3 (s.U ⟨⟨c+1,by omega,rfl,rfl⟩,?_⟩);simp only[go_sem];omega
  ·have h1: ¬(c:Int) < l.length:=by omega
   obtain rfl:c=l.length:=by omega
   simp only[go_sem,a45,vu,h1,List.take_length];have XY:=Gw hall (P3 (n:=d.length+1) (Y:=Y) (bh:=bh) (l:=l));refine tV XY (by simp[gl,di]) XZ ?_;rintro _ _ ⟨rfl,rfl⟩;refine⟨by simp,?_⟩;simp only[go_sem,List.append_assoc,List.length_append];have xc:jA (d++ [rG Y bh l,.aa 232 1 [[.bu d.length]]]):=by
    have:=Gw (x:= .aa 232 1 [[.bu d.length]]) XY (by simp[iM,lG,gl,di];omega);simpa using this
   refine tV xc (by simp[gl,di]) (X0 (a:=d.length) (b:=d.length+1) (ents:=hx (dS Y bh l) (gy bh l)) xc (by rw[dz];rfl) (by rw[dE];rfl) ats (XN bh l)
    (fun x ad=> ?_) (Nat.le_trans (P2 bh l) (by omega))) ?_
   ·obtain⟨a,aw,_,rfl⟩:=P1.1 ad;exact (ar a aw).2
   rintro _ _ ⟨aU,vv,Gx,rfl,rfl⟩;refine⟨by simp,?_⟩;simp only[go_sem,List.append_assoc,List.length_append];have kK: ∀ x∈aU,(Lit.int .i64 x.o).wf=true∧x.n.size≤maxLen:=fun x ad=>by
    obtain⟨a,aw,_,rfl⟩:=P1.1 (vv.mem_iff.1 ad);exact (ar a aw).2
   have aH8:aU.length≤100000:=by rw[vv.length_eq];exact Nat.le_trans (P2 bh l) hl
   obtain⟨Gy,Gz⟩: ∃ i,d++ [rG Y bh l,.aa 232 1 [[.bu d.length]],.aa 235 2 (ac aU)]=i:=⟨_,rfl⟩;rw[Gz];have ua:hy Gy E m J T M ba:=by
    rw[←Gz];refine⟨X,h.ext ?_⟩;simp only[List.mem_cons,List.not_mem_nil,or_false,forall_eq_or_imp,forall_eq];refine⟨P3,?_,kf cw⟩;simp[iM,lG,gl,di]
   have P8:fY d Gy m:=by rw[←Gz];exact fY.lC
   have nR:Gy[d.length]? =some (rG Y bh l):=by rw[←Gz,dz];rfl
   have Bf:Gy[d.length+2]? =some (.aa 235 2 (ac aU)):=by rw[←Gz,dE];rfl
   refine dR (fun r W=> ∃ c:Nat,c≤aU.length∧r= [(0,.aW E 1 0 0),(8,.bu d.length),(49,.own (d.length+2) aU.length 0 aU.length),(50,.int .i64 aU.length),(51,.int .i64 c)]∧fY Gy W m∧hy W E m J T (rH (dS Y bh l) J T M ba (aU.take c)).1 (rH (dS Y bh l) J T M ba (aU.take c)).2)
    (fun r _=>match bn r 51 with| .int _ j=>(aU.length-j).toNat|_=>0) ?_ ?_
   ·exact s.U ⟨0,by omega,rfl,fY.refl,ua⟩
   ·rintro r W ⟨c,an,rfl,hF,cU⟩;have aR:=dr (c:=c) (by omega);have GA:W[d.length]? =some (rG Y bh l):=hF.2 _ _ nR (by omega) (fun k ah e=>by unfold rG at e;cases e);have Kx:W[d.length+2]? =some (.aa 235 2 (ac aU)):=hF.2 _ _ Bf (by omega) (fun k ah e=>by
     simp only[R.aa.injEq] at e;cases k<;>exact absurd e.1 (by decide))
    by_cases aC:c < aU.length
    ·have h1: (c:Int) < aU.length:=by omega
     have h0: (0:Int)≤c:=by omega
     have ao: (ac aU).getD c []= [.int .i64 aU[c].o,.str aU[c].n]:=by rw[cQ aC,Kz]
     have PC:aU[c]∈gy bh l:=vv.mem_iff.1 (List.getElem_mem aC);have gZ: (dd (.agg [.int .i64 aU[c].o,.str aU[c].n]) (hx (dS Y bh l) (gy bh l))).getD (.int .i64 0)= .int .i64 (dS Y bh l aU[c]):=by
      rw[show z.agg [.int .i64 aU[c].o,.str aU[c].n]= .agg (aG.F aU[c]) from rfl,P4,if_pos PC];rfl
     unfold rG at GA;have vw: ∀ t:R,iM (W.length+1) t=true→hy (W++ [t]) E m J T (rH (dS Y bh l) J T M ba (aU.take c)).1 (rH (dS Y bh l) J T M ba (aU.take c)).2:=fun t ht=>by
      obtain⟨xd,xe⟩:=cU;exact⟨xd,xe.ext (by simpa using ht)⟩
     have mT:=atp (S:=dS Y bh l) (J:=J) (T:=T) (M:=M) (ba:=ba) aC
     by_cases ae:0 < dS Y bh l aU[c]
     ·simp only[go_sem,a45,vu,h0,h1,ao,bO,Int.toNat_natCast,List.append_assoc,GA,Kx,bL GA,bL Kx,dE,dz,dW,dT,List.length_append,aR,gZ,ae];have P9:=vw (.aa 235 2 [[.int .i64 aU[c].o,.str aU[c].n]]) (kf rfl);have cB:=atq (S:=dS Y bh l) (J:=J) (T:=T) (M:=M) cL (aU.take c);have yQ: (aU.take c).length≤100000:=by simp;omega
      refine arL (fun _ _ _ _ h=>by cases h) P9.choose_spec.all (by
       have am:=jP P9.choose_spec.E;simp only[gl,di,am,decide_true,Bool.and_true]) (Qa P9 (fun o k=>Nat.le_trans (cB o k) (by omega)) aU[c].o aU[c].n (dS Y bh l aU[c])) ?_
      rintro _ W' ⟨rfl,pc,jg⟩;refine⟨pc.1,?_⟩;simp only[go_sem,aR];refine s.U ⟨⟨c+1,by omega,rfl,hF.trans (fY.lC.trans pc),?_⟩,?_⟩
      ·rw[mT];unfold vt
       by_cases G:J≤aU[c].o∧aU[c].o≤T
       ·rw[if_pos G] at jg;rw[if_pos ⟨ae,G⟩];exact jg
       ·rw[if_neg G] at jg;rw[if_neg (fun h=>G h.2)];exact jg
      ·simp only[go_sem];omega
     ·simp only[go_sem,a45,vu,h0,h1,ao,bO,Int.toNat_natCast,List.append_assoc,GA,Kx,bL GA,bL Kx,dE,dz,dW,dT,List.length_append,aR,gZ,ae];refine s.U ⟨⟨c+1,by omega,rfl,hF.trans fY.lC,?_⟩,?_⟩
      ·rw[mT];unfold vt;rw[if_neg (fun h=>ae h.1)];exact vw _ (kf rfl)
      ·simp only[go_sem];omega
    ·have h1: ¬(c:Int) < aU.length:=by omega
     obtain rfl:c=aU.length:=by omega
     rw[List.take_length] at cU;simp only[go_sem,a45,vu,h1];exact s.U ⟨rfl,P8.trans hF,aU,vv,Gx,cU⟩
open Go.RowKit (Below)
def asX:Go.Shelf.Ren:=
 {f:=fun x=>match x with|189=>127|125=>158|257=>211|128=>241|129=>242|294=>263|295=>264|296=>265|297=>266|298=>267|299=>268|216=>269|300=>270|301=>271|328=>333|329=>290|330=>291|331=>334|332=>335|215=>159|343=>357|n=>n,
  t:=fun x=>match x with|28=>47|3=>3|46=>284|0=>0|51=>347|53=>349|4=>4|183=>341|182=>340|131=>206|5=>5|9=>9|218=>376|222=>380|228=>412|229=>308|n=>n,
  g:=fun n=>n}
set_option maxRecDepth 100000 in
theorem Ks:Lays.n189 prog asX where
 mixed:=by kernel_rfl
 f125:=Eq.trans func158 (congrArg some (by kernel_rfl))
 f128:=Eq.trans func241 (congrArg some (by kernel_rfl))
 f129:=Eq.trans func242 (congrArg some (by kernel_rfl))
 f189:=Eq.trans func127 (congrArg some (by kernel_rfl))
 f215:=Eq.trans func159 (congrArg some (by kernel_rfl))
 f216:=Eq.trans func269 (congrArg some (by kernel_rfl))
 f257:=Eq.trans func211 (congrArg some (by kernel_rfl))
 f294:=Eq.trans func263 (congrArg some (by kernel_rfl))
 f295:=Eq.trans func264 (congrArg some (by kernel_rfl))
 f296:=Eq.trans func265 (congrArg some (by kernel_rfl))
 f297:=Eq.trans func266 (congrArg some (by kernel_rfl))
 f298:=Eq.trans func267 (congrArg some (by kernel_rfl))
 f299:=Eq.trans func268 (congrArg some (by kernel_rfl))
 f300:=Eq.trans func270 (congrArg some (by kernel_rfl))
 f301:=Eq.trans func271 (congrArg some (by kernel_rfl))
 f328:=Eq.trans func333 (congrArg some (by kernel_rfl))
 f329:=Eq.trans func290 (congrArg some (by kernel_rfl))
 f330:=Eq.trans func291 (congrArg some (by kernel_rfl))
 f331:=Eq.trans func334 (congrArg some (by kernel_rfl))
 f332:=Eq.trans func335 (congrArg some (by kernel_rfl))
 f343:=Eq.trans func357 (congrArg some (by kernel_rfl))
 t0:=underlying0
 a0:=isAgg0
 z0:=sizeOf0
 v0:=zeroValue0
 t3:=underlying3
 a3:=isAgg3
 z3:=sizeOf3
 v3:=zeroValue3
 t4:=underlying4
 a4:=isAgg4
 z4:=sizeOf4
 v4:=zeroValue4
 t5:=underlying5
 a5:=isAgg5
 z5:=sizeOf5
 v5:=zeroValue5
 t9:=underlying9
 a9:=isAgg9
 z9:=sizeOf9
 v9:=zeroValue9
 t28:=underlying47
 a28:=isAgg47
 z28:=sizeOf47
 v28:=zeroValue47
 t46:=underlying284
 a46:=isAgg284
 z46:=sizeOf284
 v46:=zeroValue284
 t51:=underlying347
 a51:=isAgg347
 z51:=sizeOf347
 v51:=zeroValue347
 t53:=underlying349
 a53:=isAgg349
 z53:=sizeOf349
 v53:=zeroValue349
 t131:=underlying206
 a131:=isAgg206
 z131:=sizeOf206
 v131:=zeroValue206
 t182:=underlying340
 a182:=isAgg340
 z182:=sizeOf340
 v182:=zeroValue340
 t183:=underlying341
 a183:=isAgg341
 z183:=sizeOf341
 v183:=zeroValue341
 t218:=underlying376
 a218:=isAgg376
 z218:=sizeOf376
 v218:=zeroValue376
 t222:=underlying380
 a222:=isAgg380
 z222:=sizeOf380
 v222:=zeroValue380
 t228:=underlying412
 a228:=isAgg412
 z228:=sizeOf412
 v228:=zeroValue412
 t229:=underlying308
 a229:=isAgg308
 z229:=sizeOf308
 v229:=zeroValue308
def asY:Go.Shelf.Ren:=
 {f:=fun x=>match x with|20=>186|n=>n,
  t:=fun x=>match x with|22=>47|3=>3|4=>4|0=>0|n=>n,
  g:=fun n=>n}
set_option maxRecDepth 100000 in
theorem XF:Lays2.n20 prog asY where
 mixed:=by kernel_rfl
 f20:=Eq.trans func186 (congrArg some (by kernel_rfl))
 t0:=underlying0
 a0:=isAgg0
 z0:=sizeOf0
 v0:=zeroValue0
 t3:=underlying3
 a3:=isAgg3
 z3:=sizeOf3
 v3:=zeroValue3
 t4:=underlying4
 a4:=isAgg4
 z4:=sizeOf4
 v4:=zeroValue4
 t22:=underlying47
 a22:=isAgg47
 z22:=sizeOf47
 v22:=zeroValue47
 i3:=by kernel_rfl
def fh (bQ:List Int):List Int:=bQ.mergeSort fun x y=>decide (x≤y)
theorem yO (bQ:List Int): (fh bQ).length=bQ.length:=by unfold fh;exact List.length_mergeSort bQ
theorem PV (bQ:List Int): (Lib.compact bQ).length≤bQ.length:=by
 unfold Lib.compact Lib.compactUpTo;rw[List.length_map];refine Nat.le_trans (List.length_filter_le _ _) ?_;simp
theorem asZ (bQ:List Int)(aS:bQ.length < 4611686018427387904):aK prog 127 [.own 0 bQ.length 0 bQ.length] [.aa 3 1 (cC .i64 bQ)] (fun v rs=>v= .bg []∧rs= [.aa 3 1 (cC .i64 (fh bQ))]):=by
 by_cases h0:0 < bQ.length
 ·refine aK.inPlace (yO bQ) h0 (fun w b cap h1 B=> ?_);exact Any.slices_Sort_int Ks b 0 cap bQ w h1 B aS
 ·obtain rfl:bQ= []:=List.length_eq_zero_iff.1 (by omega);refine aK.FT ?_;rintro C du G ar hG dk;rw[ay] at dk;obtain⟨v1,r1,rfl,ag,aB⟩:=dk;rw[ay] at aB;subst aB;rw[Rep] at ag;obtain⟨_,⟨ct,F,rfl⟩,_⟩:=ag;refine (calls_of_every_depth fun ax=>AnyS.slices_Sort_int_none_in Ks ax ct F C.w).mono ?_;rintro e w' ⟨rfl,rfl⟩;exact⟨_,.bg [],rfl,⟨Below.refl _ _,Nat.le_refl _⟩,fun av _=>by rw[Rep];exact⟨#[],rfl,by simp[ay]⟩,rfl,by simp[fh]⟩
theorem ata (bQ:List Int)(aS:bQ.length < 4611686018427387904):aK prog 186 [.own 0 bQ.length 0 bQ.length] [.aa 3 1 (cC .i64 bQ)]
 (fun v rs=>v= .own 0 bQ.length 0 (Lib.compact bQ).length∧rs= [.aa 3 1 (cC .i64 (Lib.compact bQ++List.replicate (bQ.length-(Lib.compact bQ).length) 0))]):=by
 have ed:=PV bQ
 by_cases h0:0 < bQ.length
 ·refine aK.aqd (by simp;omega) h0 ed (fun w b cap h1 B am=> ?_);refine (Any.slices_Compact_int XF b 0 cap bQ w h1 (by omega) am).mono ?_;rintro e w' ⟨rfl,q,rfl⟩;exact⟨rfl,q,#[],by simp[Go.Sort.grow];rfl⟩
 ·obtain rfl:bQ= []:=List.length_eq_zero_iff.1 (by omega);refine aK.FT ?_;rintro C du G ar hG dk;rw[ay] at dk;obtain⟨v1,r1,rfl,ag,aB⟩:=dk;rw[ay] at aB;subst aB;have db:=ag;rw[Rep] at db;obtain⟨_,⟨ct,F,rfl⟩,_⟩:=db;refine (Any.slices_Compact_int_empty XF ct F C.w).mono ?_;rintro e w' ⟨rfl,rfl⟩;exact⟨_,.own 0 0 0 0,rfl,⟨Below.refl _ _,Nat.le_refl _⟩,fun av ad=>Rep.ext ad _ _ ag,rfl,rfl⟩
end Go.Proofs.YtpincjkjoeopkaaGreatDoor
