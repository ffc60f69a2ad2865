/- Time evaluation. -/
import Derived.Test.YtpincjkjoeopkaaGreatDoorD4
import Derived.Test.YtpincjkjoeopkaaGreatDoorD14
import Derived.Lib.LaidTab
import Derived.WalkKit
import Derived.Test.YtpincjkjoeopkaaGreatDoorRows
import Derived.Lib.LaidU8
import Derived.Test.YtpincjkjoeopkaaGreatDoorD5
import Derived.Test.YtpincjkjoeopkaaGreatDoorD8
import Derived.Test.YtpincjkjoeopkaaGreatDoorD7
import Derived.DeepKeys5
set_option linter.all false
namespace Go.Proofs.YtpincjkjoeopkaaGreatDoor
open Go Go.Abs Go.Proofs.Tryz
open Go.RowKit (Below)
def eM:List Int:= [31,28,31,30,31,30,31,31,30,31,30,31]
def js (w:World)(g:Nat)(k:IntKind)(ce:List Int):Prop:= ∃ t M,w.heap[g]? =some (.cells (ce.map fun M=>Value.int k M).toArray t M)
instance:dE where
 B:=False
 n:=1
 H:=fun w=>js w 0 .i64 eM
 oI:=by
  rintro w w' h ⟨t,M,h1⟩;exact⟨t,M,by rw[h 0 (by decide)];exact h1⟩
def zW (y:Int):Bool:=decide (y%4=0)&&(!decide (y%100=0)||decide (y%400=0))
def hZ (y m:Int):Int:=if m=2∧zW y=true then 29 else eM.getD (m-1).toNat 0
theorem kW {w:World}{g:Nat}{k:IntKind}{ce:List Int}(h:js w g k ce){c:Nat}{M:Int}(ba:ce[c]? =some M):w.cell? ⟨g,c,none⟩=some (.int k M):=by
 obtain⟨t,PI,h⟩:=h;unfold World.cell?;simp[h,ba]
def ER (y:Int):Int:=if zW y=true then 29 else 28
theorem YS {y:Int}(h:y%4=0∧(¬y%100=0∨(y%400==0)=true)):ER y=29:=by
 rw[beq_iff_eq] at h;rw[ER,if_pos];simp only[zW,Bool.and_eq_true,Bool.or_eq_true,Bool.not_eq_true',decide_eq_true_eq,decide_eq_false_iff_not];omega
theorem YT {y:Int}(h: ¬y%4=0∨(y%100=0∧(y%400==0)=false)):ER y=28:=by
 rw[beq_eq_false_iff_ne] at h;rw[ER,if_neg];simp only[zW,Bool.and_eq_true,Bool.or_eq_true,Bool.not_eq_true',decide_eq_true_eq,decide_eq_false_iff_not];omega
theorem aur (y:Int)(w:World)(h:js w 0 .i64 eM):Calls prog 255 #[.int .i64 y,.int .i64 1] w fun e w'=>e= .returned (.int .i64 31)∧w'=w:=by
 have ad:=kW h (c:=0) rfl;clear h
 go_enter func255,ntmps255
 go_wp2
 go_ret
 exact⟨rfl,rfl⟩
theorem aus (y:Int)(w:World)(h:js w 0 .i64 eM):Calls prog 255 #[.int .i64 y,.int .i64 3] w fun e w'=>e= .returned (.int .i64 31)∧w'=w:=by
 have ad:=kW h (c:=2) rfl;clear h
 go_enter func255,ntmps255
 go_wp2
 go_ret
 exact⟨rfl,rfl⟩
theorem aut (y:Int)(w:World)(h:js w 0 .i64 eM):Calls prog 255 #[.int .i64 y,.int .i64 4] w fun e w'=>e= .returned (.int .i64 30)∧w'=w:=by
 have ad:=kW h (c:=3) rfl;clear h
 go_enter func255,ntmps255
 go_wp2
 go_ret
 exact⟨rfl,rfl⟩
theorem auu (y:Int)(w:World)(h:js w 0 .i64 eM):Calls prog 255 #[.int .i64 y,.int .i64 5] w fun e w'=>e= .returned (.int .i64 31)∧w'=w:=by
 have ad:=kW h (c:=4) rfl;clear h
 go_enter func255,ntmps255
 go_wp2
 go_ret
 exact⟨rfl,rfl⟩
theorem auv (y:Int)(w:World)(h:js w 0 .i64 eM):Calls prog 255 #[.int .i64 y,.int .i64 6] w fun e w'=>e= .returned (.int .i64 30)∧w'=w:=by
 have ad:=kW h (c:=5) rfl;clear h
 go_enter func255,ntmps255
 go_wp2
 go_ret
 exact⟨rfl,rfl⟩
theorem auw (y:Int)(w:World)(h:js w 0 .i64 eM):Calls prog 255 #[.int .i64 y,.int .i64 7] w fun e w'=>e= .returned (.int .i64 31)∧w'=w:=by
 have ad:=kW h (c:=6) rfl;clear h
 go_enter func255,ntmps255
 go_wp2
 go_ret
 exact⟨rfl,rfl⟩
theorem aux (y:Int)(w:World)(h:js w 0 .i64 eM):Calls prog 255 #[.int .i64 y,.int .i64 8] w fun e w'=>e= .returned (.int .i64 31)∧w'=w:=by
 have ad:=kW h (c:=7) rfl;clear h
 go_enter func255,ntmps255
 go_wp2
 go_ret
 exact⟨rfl,rfl⟩
theorem auy (y:Int)(w:World)(h:js w 0 .i64 eM):Calls prog 255 #[.int .i64 y,.int .i64 9] w fun e w'=>e= .returned (.int .i64 30)∧w'=w:=by
 have ad:=kW h (c:=8) rfl;clear h
 go_enter func255,ntmps255
 go_wp2
 go_ret
 exact⟨rfl,rfl⟩
theorem auz (y:Int)(w:World)(h:js w 0 .i64 eM):Calls prog 255 #[.int .i64 y,.int .i64 10] w fun e w'=>e= .returned (.int .i64 31)∧w'=w:=by
 have ad:=kW h (c:=9) rfl;clear h
 go_enter func255,ntmps255
 go_wp2
 go_ret
 exact⟨rfl,rfl⟩
theorem auA (y:Int)(w:World)(h:js w 0 .i64 eM):Calls prog 255 #[.int .i64 y,.int .i64 11] w fun e w'=>e= .returned (.int .i64 30)∧w'=w:=by
 have ad:=kW h (c:=10) rfl;clear h
 go_enter func255,ntmps255
 go_wp2
 go_ret
 exact⟨rfl,rfl⟩
theorem auB (y:Int)(w:World)(h:js w 0 .i64 eM):Calls prog 255 #[.int .i64 y,.int .i64 12] w fun e w'=>e= .returned (.int .i64 31)∧w'=w:=by
 have ad:=kW h (c:=11) rfl;clear h
 go_enter func255,ntmps255
 go_wp2
 go_ret
 exact⟨rfl,rfl⟩
theorem auC (y:Int)(h0:0≤y)(w:World)(h:js w 0 .i64 eM):Calls prog 255 #[.int .i64 y,.int .i64 2] w fun e w'=>e= .returned (.int .i64 (ER y))∧w'=w:=by
 have ad:=kW h (c:=1) rfl;clear h
 go_enter func255,ntmps255
 go_wp2
 ·rename_i a b J
  go_ret
  exact⟨by rw[YS ⟨a,.inr J⟩];rfl,rfl⟩
 ·rename_i a b J
  go_ret
  exact⟨by rw[YT (.inr ⟨b,J⟩)];rfl,rfl⟩
 ·rename_i a b
  go_ret
  exact⟨by rw[YS ⟨a,.inl b⟩];rfl,rfl⟩
 ·rename_i a
  go_ret
  exact⟨by rw[YT (.inl a)];rfl,rfl⟩
theorem ES (y m:Int)(h0:0≤y)(h1:1≤m)(G:m≤12):aO prog 255 [.int .i64 y,.int .i64 m] [] (fun v rs=>v= .int .i64 (hZ y m)∧rs= []):=by
 refine aO.D2 ?_;rintro C dA N aA ⟨_,_,ht⟩ dv;simp only[aE,Rep] at dv;obtain⟨v1,r1,rfl,rfl,rU,cY,rfl,rfl,rfl⟩:=dv;have key: ∀ {M:Int},hZ y m=M→(Calls prog 255 #[.int .i64 y,.int .i64 m] C.w fun e w'=>e= .returned (.int .i64 M)∧w'=C.w)→
  Calls prog 255 [Value.int .i64 y,.int .i64 m].toArray C.w fun e w'=> ∃ aZ v,e= .returned aZ∧(Below C.w.heap.size C.w w'∧C.w.drawn≤w'.drawn)∧(∀ aB:bD,jB C aB→Rep aB v aZ)∧v= .int .i64 (hZ y m)∧ []=([]:List Z):=by
  intro M ba h;refine h.mono ?_;rintro e w' ⟨rfl,rfl⟩;exact⟨_,.int .i64 M,rfl,⟨Below.refl _ _,Nat.le_refl _⟩,fun aB _=>by rw[Rep],by rw[ba],rfl⟩
 obtain rfl|rfl|rfl|rfl|rfl|rfl|rfl|rfl|rfl|rfl|rfl|rfl:m=1∨m=2∨m=3∨m=4∨m=5∨m=6∨m=7∨m=8∨m=9∨m=10∨m=11∨m=12:=by omega
 ·exact key (by simp[hZ,eM]) (aur y C.w ht)
 ·exact key (by simp[hZ,eM,ER]) (auC y h0 C.w ht)
 ·exact key (by simp[hZ,eM]) (aus y C.w ht)
 ·exact key (by simp[hZ,eM]) (aut y C.w ht)
 ·exact key (by simp[hZ,eM]) (auu y C.w ht)
 ·exact key (by simp[hZ,eM]) (auv y C.w ht)
 ·exact key (by simp[hZ,eM]) (auw y C.w ht)
 ·exact key (by simp[hZ,eM]) (aux y C.w ht)
 ·exact key (by simp[hZ,eM]) (auy y C.w ht)
 ·exact key (by simp[hZ,eM]) (auz y C.w ht)
 ·exact key (by simp[hZ,eM]) (auA y C.w ht)
 ·exact key (by simp[hZ,eM]) (auB y C.w ht)
theorem auD {w:World}{I:String}{B:DataW Unit}(h:Lib.VarReads prog w I B){g:Nat}{t e:TypeId}{n:Nat}{k:IntKind}{ce:List Int}(ay:B=Lib.tabData k ce)
 (aw:prog.globalNamed I=some g) (auE: (prog.globals[g]?).map (·.type)=some t) (ht:prog.underlying t=some (.array n e)) (he:prog.underlying e=some (.int k)) (auF:prog.cellsOf e=1) (QS:prog.cellsOf t=n):js w g k ce:=by
 subst ay;obtain⟨zX,tC,ap,hH,p,HA,auG,HB,auH⟩:=h;obtain rfl:=Option.some.inj (aw.symm.trans HA);obtain rfl:=Option.some.inj (auE.symm.trans auG);have eK:=Lib.cells_of_tab ht he auF QS auH;unfold World.var? at HB;rw[aw,Option.bind_some] at HB;split at HB
 ·rename_i ge cO PI hh;cases HB;refine⟨cO,PI,?_⟩;rw[hh,←eK]
 ·cases HB
set_option maxRecDepth 100000 in
theorem gok_of_laid {w:World}(h:laidMet prog Rows.timesheetLimitsRow.laid w):GOk (ctx0 w):=by
 have h1:js w 0 .i64 eM:=auD (Lib.laidMet.reads h (List.Mem.head _)) (t:=394) (e:=3) (n:=12) (by rfl) (by kernel_rfl) (by kernel_rfl) underlying394 underlying3 (by kernel_rfl) (by kernel_rfl);refine⟨?_,fun b hb z J ad=>by simp[ctx0] at ad,h1⟩;obtain⟨t,M,G⟩:=h1;show 1≤w.heap.size;rcases Nat.lt_or_ge 0 w.heap.size with h|h
 ·exact h
 ·rw[Array.getElem?_eq_none h] at G;cases G
theorem bQ {bj:Type}{l t:List bj}{c:Nat}{x:bj}(h:l[c]? =some x): (l++t)[c]? =some x:=by
 rw[List.getElem?_append_left (List.getElem?_eq_some_iff.1 h).1,h]
theorem dO {bj:Type}{l t:List bj}{k:Nat}: (l++t)[l.length+k]? =t[k]? :=by
 rw[List.getElem?_append_right (by omega)];simp
theorem dH {bj:Type}{l t:List bj}: (l++t)[l.length]? =t[0]? :=by
 rw[List.getElem?_append_right (by omega)];simp
theorem ee {bj:Type}{l t:List bj}{k:Nat}{x:bj}: (l++t).set (l.length+k) x=l++t.set k x:=by
 rw[List.set_append_right _ _ (by omega)];simp
theorem ec {bj:Type}{l t:List bj}{x:bj}: (l++t).set l.length x=l++t.set 0 x:=by
 rw[List.set_append_right _ _ (by omega)];simp
theorem tF {bj:Type}{l t:List bj}{k:Nat}{x y:bj}(h:l[k]? =some y): (l++t).set k x=l.set k x++t:=List.set_append_left _ _ (List.getElem?_eq_some_iff.1 h).1
def de (f:Int→F)(Y:List Int):List (F×F):=Y.map fun k=>(.int .i64 k,f k)
def ek (k:Int)(Y:List Int):List Int:=if k∈Y then Y else Y++ [k]
theorem EW {f:Int→F}{k:Int}: ∀ {l:List Int},dm (.int .i64 k) (de f l)=if k∈l then some (f k) else none
 | []=>by simp[de,dm]
 |p::l=>by
  have ih:=EW (f:=f) (k:=k) (l:=l);unfold de at *;rw[List.map_cons,dm];have:fB (.int .i64 k) (.int .i64 p)=(k==p):=by simp[fB,cp,ed]
  simp only[this]
  by_cases O:k=p
  ·subst O;simp
  ·simp only[beq_iff_eq,O,if_false,ih,List.mem_cons,false_or]
theorem EX {f g:Int→F}{k:Int}(vj: ∀ x,x≠k→f x=g x): ∀ {l:List Int},l.Nodup→dy (.int .i64 k) (g k) (de f l)=de g (ek k l)
 | [],_=>by simp[de,dy,ek]
 |p::l,hl=>by
  rw[List.nodup_cons] at hl;have ih:=EX vj hl.2;unfold de ek at *;rw[List.map_cons,dy];have:fB (.int .i64 k) (.int .i64 p)=(k==p):=by simp[fB,cp,ed]
  simp only[this]
  by_cases O:k=p
  ·subst O;simp;exact fun a aC=>vj a (fun e=>hl.1 (e▸aC))
  ·simp only[beq_iff_eq,O,if_false,ih,List.mem_cons,false_or];split<;>simp[vj p (fun e=>O e.symm)]
theorem CO {k x:Int}{Y:List Int}:x∈ek k Y↔x=k∨x∈Y:=by
 unfold ek;split
 ·constructor
  ·exact .inr
  ·rintro (rfl|h)
   ·assumption
   ·exact h
 ·rw[List.mem_append,List.mem_singleton];exact Or.comm
theorem E4 {k:Int}{Y:List Int}(h:Y.Nodup): (ek k Y).Nodup:=by
 unfold ek;split
 ·exact h
 ·rename_i O;rw[List.nodup_append];exact⟨h,by simp,fun a aC b hb=>by rw[List.mem_singleton] at hb;subst hb;exact fun e=>O (e▸aC)⟩
def tE (k:Bool):TypeId:=if k then 132 else 78
def hy (X:Int→Bool→Nat)(bf:Int→Bool→List (List F))(B:Int)(k:Bool):F:=if (bf B k).length=0 then .bH else .own (X B k) (bf B k).length 0 (bf B k).length
def nI (X:Int→Bool→Nat)(bf:Int→Bool→List (List F))(B:Int):F:= .agg [.int .i64 B,hy X bf B false,hy X bf B true]
structure rz (r:List Z) (I m:Nat) (R ab:Int) (Y:List Int) (bf:Int→Bool→List (List F)) (X:Int→Bool→Nat):Prop where
 all:jP r
 I:r[I]? =some (.ag 118 3 [[.int .i64 R,.int .i64 ab,.bE m]])
 m:r[m]? =some (.be (.map false [.int .i64] (de (nI X bf) Y)))
 HK:Y.Nodup
 ea: ∀ B k,bf B k≠ []→B∈Y
 fX: ∀ B k,dY (bf B k)=true
 x: ∀ B k,bf B k≠ []→r[X B k]? =some (.ag (tE k) 2 (bf B k))
 inj: ∀ B k iy br,bf B k≠ []→bf iy br≠ []→X B k=X iy br→B=iy∧k=br
def gR (bf:Int→Bool→List (List F))(B:Int)(k:Bool)(J:List F)(iy:Int)(br:Bool):List (List F):=if iy=B∧br=k then bf B k++ [J] else bf iy br
def sy (X:Int→Bool→Nat)(B:Int)(k:Bool)(q:Nat)(iy:Int)(br:Bool):Nat:=if iy=B∧br=k then q else X iy br
theorem EV {r t:List Z}(h:jP r)(ht: ∀ bG∈t,jc (r.length+t.length) bG=true):jP (r++t):=by
 intro z bG N;rw[List.length_append];rw[List.getElem?_append] at N;split at N
 ·exact Qx (by omega) (h z bG N)
 ·exact ht _ (List.mem_of_getElem? N)
theorem Co {r:List Z}(h:jP r){k:Nat}{y:Z}(bt:jc r.length y=true):jP (r.set k y):=by
 intro z bG N;rw[List.length_set];rw[List.getElem?_set] at N;split at N
 ·split at N
  ·cases N;exact bt
  ·cases N
 ·exact h z bG N
theorem LQ {n:Nat}{f:Int→F}: ∀ {l:List Int},(∀ B∈l,dt n (f B)=true)→nG n (de f l)=true
 | [],_=>rfl
 |B::l,h=>by
  show (dt n (.int .i64 B)&&dt n (f B)&&nG n (de f l))=true;rw[h B List.mem_cons_self,LQ fun x aj=>h x (List.mem_cons_of_mem _ aj)];rfl
theorem Ra {n:Nat}{X:Int→Bool→Nat}{bf:Int→Bool→List (List F)}(h: ∀ B k,bf B k≠ []→X B k < n)(B:Int)(k:Bool):dt n (hy X bf B k)=true:=by
 unfold hy;split
 ·rfl
 ·rename_i an;simp only[dt,decide_eq_true_eq];exact h B k fun e=>an (by rw[e];rfl)
theorem avi {n:Nat}{X:Int→Bool→Nat}{bf:Int→Bool→List (List F)}(h: ∀ B k,bf B k≠ []→X B k < n)(B:Int):dt n (nI X bf B)=true:=by
 unfold nI;simp only[dt,gx,Ra h,Bool.and_self]
theorem km {r:List Z}{c:Nat}{x:Z}(h:r[c]? =some x):c < r.length:=(List.getElem?_eq_some_iff.1 h).1
theorem rz.mh {r W:List Z}{I m:Nat}{R ab:Int}{Y:List Int}{bf:Int→Bool→List (List F)}{X:Int→Bool→Nat}(h:rz r I m R ab Y bf X)(B:Int)(k:Bool)(J:List F)(ad:bU J=true)(q:Nat)
 (aV:bf B k≠ []→q=X B k) (iN:bf B k= []→r.length≤q)
 (hW:jP W) (hm:W[m]? =some (.be (.map false [.int .i64] (de (nI (sy X B k q) (gR bf B k J)) (ek B Y)))))
 (aH:W[q]? =some (.ag (tE k) 2 (bf B k++ [J]))) (bp: ∀ z bG,r[z]? =some bG→z≠m→z≠q→W[z]? =some bG):
 rz W I m R ab (ek B Y) (gR bf B k J) (sy X B k q):=by
 have zo:I≠m:=fun e=>by have h1:=h.I;rw[e,h.m] at h1;cases h1
 have ayW:I≠q:=fun e=>by
  by_cases an:bf B k= []
  ·have:=iN an;have:=km h.I;omega
  ·have h1:=h.I;rw[e,aV an,h.x B k an] at h1;simp only[Option.some.injEq,Z.ag.injEq] at h1;have:=h1.2.1;omega
 have eZ: ∀ iy br,bf iy br≠ []→ ¬(iy=B∧br=k)→X iy br≠m∧X iy br≠q:=fun iy br an hne=>by
  have h1:=h.x iy br an;refine⟨fun e=>(by rw[e,h.m] at h1;cases h1),fun e=> ?_⟩
  by_cases jZ:bf B k= []
  ·have:=iN jZ;have:=km h1;omega
  ·exact hne (h.inj iy br B k an jZ (e.trans (aV jZ)))
 refine⟨hW,bp I _ h.I zo ayW,hm,E4 h.HK,fun iy br an=> ?_,fun iy br=> ?_,fun iy br an=> ?_,fun d1 bO ky cd h1 G he=> ?_⟩
 ·unfold gR at an;rw[CO];split at an
  ·rename_i e;exact .inl e.1
  ·exact .inr (h.ea iy br an)
 ·unfold gR;split
  ·rw[P2,h.fX];simp[dY,ad]
  ·exact h.fX iy br
 ·unfold gR sy at *
  by_cases e:iy=B∧br=k
  ·rw[if_pos e,if_pos e,e.2];exact aH
  ·rw[if_neg e] at an ⊢;rw[if_neg e];obtain⟨a,b⟩:=eZ iy br an e;exact bp _ _ (h.x iy br an) a b
 ·unfold gR at h1 G;unfold sy at he
  by_cases bF:d1=B∧bO=k<;>by_cases bK:ky=B∧cd=k
  ·exact⟨bF.1.trans bK.1.symm,bF.2.trans bK.2.symm⟩
  ·rw[if_neg bK] at G;rw[if_pos bF,if_neg bK] at he;exact absurd he.symm (eZ ky cd G bK).2
  ·rw[if_neg bF] at h1;rw[if_neg bF,if_pos bK] at he;exact absurd he (eZ d1 bO h1 bF).2
  ·rw[if_neg bF] at h1;rw[if_neg bK] at G;rw[if_neg bF,if_neg bK] at he;exact h.inj _ _ _ _ h1 G he
def gf (r W:List Z)(m:Nat):Prop:=r.length≤W.length∧ ∀ z bG,r[z]? =some bG→z≠m→(∀ k am,bG≠ .ag (tE k) 2 am)→W[z]? =some bG
theorem gf.refl {r:List Z}{m:Nat}:gf r r m:=⟨Nat.le_refl _,fun _ _ h _ _=>h⟩
theorem gf.trans {a b J:List Z}{m:Nat}(h:gf a b m)(k:gf b J m):gf a J m:=⟨Nat.le_trans h.1 k.1,fun z bG h1 G au=>k.2 z bG (h.2 z bG h1 G au) G au⟩
structure eH where
 bk:Int
 ah:Int
 name:ByteArray
 min:Int
instance:aJ eH:=⟨fun a=> [.int .i64 a.bk,.int .i64 a.ah,.str a.name,.int .i64 a.min],4,fun _=>rfl,fun _=>rfl,fun _=>rfl⟩
theorem QV (e:eH):aJ.J e= [.int .i64 e.bk,.int .i64 e.ah,.str e.name,.int .i64 e.min]:=rfl
theorem auP:aJ.U eH=4:=rfl
theorem auQ (e:eH):List.take 4 (aJ.J e)=aJ.J e:=rfl
attribute [go_sem] auP auQ
structure cw where
 ah:Int
 bw:Int
 cN:Int
instance:aJ cw:=⟨fun a=> [.int .i64 a.ah,.int .i64 a.bw,.int .i64 a.cN],3,fun _=>rfl,fun _=>rfl,fun _=>rfl⟩
theorem uZ (e:cw):aJ.J e= [.int .i64 e.ah,.int .i64 e.bw,.int .i64 e.cN]:=rfl
theorem auR:aJ.U cw=3:=rfl
theorem auS (e:cw):List.take 3 (aJ.J e)=aJ.J e:=rfl
attribute [go_sem] auR auS
def ry (I:cw)(ah:Int):Int:=if I.ah=ah∧1≤I.cN∧I.cN≤1440 then I.cN else 0
def Ck (ae:List cw)(ah:Int):Int:=((ae.take 1024).map fun I=>ry I ah).sum
theorem QW (ah:Int): ∀ (l:List cw),0≤(l.map fun I=>ry I ah).sum∧(l.map fun I=>ry I ah).sum≤1440*l.length
 | []=>by simp
 |I::l=>by
  have ih:=QW ah l;have:0≤ry I ah∧ry I ah≤1440:=by unfold ry;split<;>omega
  rw[List.map_cons,List.sum_cons,List.length_cons];omega
theorem auT (ae:List cw)(ah:Int):0≤Ck ae ah∧Ck ae ah≤1474560:=by
 have h:=QW ah (ae.take 1024);have G: (ae.take 1024).length≤1024:=by simp;omega
 unfold Ck;omega
theorem YX {bj:Type}(f:bj→Int){l:List bj}{c:Nat}(h:c < l.length): ((l.take (c+1)).map f).sum=((l.take c).map f).sum+f l[c]:=by
 rw[List.take_succ_eq_append_getElem h,List.map_append,List.sum_append];simp
theorem auU (ae:List cw)(hl:ae.length≤1000000)(ah:Int):aO prog 119 [.pure 3 (ai ae),.int .i64 ah] [] (fun v rs=>v= .int .i64 (Ck ae ah)∧rs= []):=by
 refine cu func119 YY (by simp[yi,zZ]) ?_;simp only[go_sem,yi,zZ,bT];refine⟨by omega,by omega,?_⟩;have aV:List.take ((min (ae.length:Int) 1024).toNat-0) ae=ae.take 1024:=by
  by_cases h:ae.length≤1024
  ·rw[show (min (ae.length:Int) 1024).toNat-0=ae.length by omega,List.take_length,List.take_of_length_le h]
  ·rw[show (min (ae.length:Int) 1024).toNat-0=1024 by omega]
 unfold Ck;obtain⟨q,YZ⟩: ∃ q,ae.take 1024=q:=⟨_,rfl⟩;have Y0:q.length≤1024:=by rw[←YZ];simp;omega
 simp only[WL,List.drop_zero,aV,YZ,bT];refine dN (fun D r=> ∃ c:Nat,c≤q.length∧D= [(1,.int .i64 ah),(5,.int .i64 ((q.take c).map fun I=>ry I ah).sum),(12,.pure 3 (ai q)),(13,.int .i64 q.length),(14,.int .i64 c)]∧r= [])
  (fun D _=>match bs D 14 with| .int _ j=>(q.length-j).toNat|_=>0) ?_ ?_
 ·exact E.ac ⟨0,by omega,rfl,rfl⟩
 ·rintro D r ⟨c,av,rfl,rfl⟩;have aP:=dB (c:=c) (by omega);have hb:=QW ah (q.take c);have rX: (q.take c).length≤1024:=by simp;omega
  by_cases aI:c < q.length
  ·have h1: (c:Int) < q.length:=by omega
   have h0: (0:Int)≤c:=by omega
   have aw: (ai q).getD c []= [.int .i64 q[c].ah,.int .i64 q[c].bw,.int .i64 q[c].cN]:=by rw[cT aI,uZ]
   have ao:=YX (fun I=>ry I ah) aI
   by_cases J:q[c].ah=ah∧1≤q[c].cN∧q[c].cN≤1440
   ·have gI:IntKind.i64.wrap ((List.map (fun I=>ry I ah) (List.take c q)).sum+q[c].cN)=(List.map (fun I=>ry I ah) (List.take (c+1) q)).sum:=by
     rw[bl (by omega) (by omega),ao];unfold ry;rw[if_pos J]
    simp only[go_sem,yi,zZ,h0,h1,aw,bT,Int.toNat_natCast,J,beq_self_eq_true,gI,aP]
    (refine E.bB [] ?_;simp only[go_sem])
    refine E.ac ⟨⟨c+1,by omega,rfl,rfl⟩,?_⟩;simp only[go_sem];omega
   ·have ba: (List.map (fun I=>ry I ah) (List.take (c+1) q)).sum=(List.map (fun I=>ry I ah) (List.take c q)).sum:=by
     rw[ao];unfold ry;rw[if_neg J,Int.add_zero]
    by_cases c1:q[c].ah=ah
    ·by_cases c2:1≤q[c].cN
     ·have c3: ¬q[c].cN≤1440:=fun h=>J ⟨c1,c2,h⟩;simp only[go_sem,yi,zZ,h0,h1,aw,bT,Int.toNat_natCast,c1,c2,c3,beq_self_eq_true,aP]
      (refine E.bB [] ?_;simp only[go_sem])
      (rw[←ba];refine E.ac ⟨⟨c+1,by omega,rfl,rfl⟩,?_⟩;simp only[go_sem];omega)
     ·simp only[go_sem,yi,zZ,h0,h1,aw,bT,Int.toNat_natCast,c1,c2,beq_self_eq_true,aP]
      (refine E.bB [] ?_;simp only[go_sem])
      (rw[←ba];refine E.ac ⟨⟨c+1,by omega,rfl,rfl⟩,?_⟩;simp only[go_sem];omega)
    ·have HC: (q[c].ah==ah)=false:=beq_eq_false_iff_ne.2 c1;simp only[go_sem,yi,zZ,h0,h1,aw,bT,Int.toNat_natCast,HC,aP]
     (refine E.bB [] ?_;simp only[go_sem])
     (rw[←ba];refine E.ac ⟨⟨c+1,by omega,rfl,rfl⟩,?_⟩;simp only[go_sem];omega)
  ·have h1: ¬(c:Int) < q.length:=by omega
   obtain rfl:c=q.length:=by omega
   simp only[go_sem,yi,zZ,h1,List.take_length];exact E.bg rfl ⟨rfl,rfl⟩
end Go.Proofs.YtpincjkjoeopkaaGreatDoor
namespace Go.Proofs.YtpincjkjoeopkaaGreatDoor
open Go Go.Abs Go.Proofs.Tryz
open Go.Sort (SWO)
theorem awq {r:List Z}{B:Option Nat}{D:aQ}{K:aQ→List Z→Prop}{a b:ByteArray}:bA (.iY .gtr) [.str a,.str b] r B D K=K (put D B (.bool !(Op.bytesLess a.toList b.toList||a.toList==b.toList))) r:=_root_.id rfl
attribute [go_sem] awq
def gT (a b:Int):Int:=if a < b then -1 else if b < a then 1 else 0
def ow:List Int→Int
 | []=>0
 |x::aq=>if x=0 then ow aq else x
def yv (a b:ByteArray):Int:=if a.toList < b.toList then -1 else if b.toList < a.toList then 1 else 0
theorem Mg: ∀ (x y:List UInt8),Op.bytesLess x y=decide (x < y)
 | [],[]=>by simp[Op.bytesLess]
 |_::_,[]=>by simp[Op.bytesLess]
 | [],_::_=>by simp[Op.bytesLess]
 |a::x,b::y=>by
  rw[Op.bytesLess,Mg x y];simp only[List.cons_lt_cons_iff]
  by_cases h1:a < b<;>by_cases G:a=b<;>by_cases au:x < y<;>simp[h1,G,au]
theorem Mh {a b:List UInt8}(h: ¬a < b):a=b∨b < a:=by
 rcases Decidable.em (b < a) with h1|h1
 ·exact .inr h1
 ·exact .inl (List.le_antisymm (List.not_lt.1 h1) (List.not_lt.1 h))
theorem Ie (a:List UInt8): ¬a < a:=List.lt_irrefl a
theorem Z8 {a b J:List UInt8}(h:a < b)(k:b < J):a < J:=List.lt_trans h k
theorem awr {aq:List Int}{c:Nat}(h:c < aq.length):ow (aq.drop c)=if aq[c]=0 then ow (aq.drop (c+1)) else aq[c]:=by
 rw[List.drop_eq_getElem_cons h,ow]
structure cv where
 B:Int
 n:ByteArray
instance:aJ cv:=⟨fun k=> [.int .i64 k.B,.str k.n],2,fun _=>rfl,fun _=>rfl,fun _=>rfl⟩
instance:Inhabited cv:=⟨⟨0,default⟩⟩
theorem LP (e:cv):aJ.J e= [.int .i64 e.B,.str e.n]:=rfl
theorem aws:aJ.U cv=2:=rfl
theorem awt (e:cv):List.take 2 (aJ.J e)=aJ.J e:=rfl
attribute [go_sem] aws awt
def If (a b:cv):Int:=ow [gT a.B b.B,yv a.n b.n]
def pN (a b:cv):Prop:=a.B < b.B∨(a.B=b.B∧a.n.toList < b.n.toList)
theorem QY:Int.negSucc 0= -1:=rfl
attribute [go_sem] QY
section
variable [iZ:dE]
theorem Z9 (a:Int):aO prog 159 [.int .i64 a] [] (fun v rs=>v= .bool false∧rs= []):=by
 refine cu func159 aaa (by simp[Mi,R4]) ?_;simp only[go_sem,Mi,R4,bne_self_eq_false];exact E.bg rfl ⟨rfl,rfl⟩
theorem yw (a b:Int):aO prog 74 [.int .i64 a,.int .i64 b] [] (fun v rs=>v= .int .i64 (gT a b)∧rs= []):=by
 refine cu func74 aab (by simp[Mj,R5]) ?_;simp only[go_sem,Mj,R5];refine bM (Z9 a) rfl rfl ?_;simp only[go_sem];refine bM (Z9 b) rfl rfl ?_;simp only[go_sem];unfold gT
 by_cases h1:a < b
 ·simp only[go_sem,h1];exact E.bg rfl ⟨rfl,rfl⟩
 ·by_cases G:b < a<;>simp only[go_sem,h1,G]<;>exact E.bg rfl ⟨rfl,rfl⟩
theorem aac (a:ByteArray):aO prog 208 [.str a] [] (fun v rs=>v= .bool false∧rs= []):=by
 refine cu func208 aad (by simp[Mk,R6]) ?_;simp only[go_sem,Mk,R6,beq_self_eq_true,Bool.not_true];exact E.bg rfl ⟨rfl,rfl⟩
theorem awu (a b:ByteArray):aO prog 124 [.str a,.str b] [] (fun v rs=>v= .int .i64 (yv a b)∧rs= []):=by
 refine cu func124 aae (by simp[Ml,R7]) ?_;simp only[go_sem,Ml,R7];refine bM (aac a) rfl rfl ?_;simp only[go_sem];refine bM (aac b) rfl rfl ?_;simp only[go_sem];unfold yv;rw[Mg]
 by_cases h1:a.toList < b.toList
 ·simp only[go_sem,h1];exact E.bg rfl ⟨rfl,rfl⟩
 ·by_cases G:b.toList < a.toList
  ·have au: (a.toList==b.toList)=false:=by
    rw[beq_eq_false_iff_ne];exact fun e=>Ie _ (e▸G)
   simp only[go_sem,h1,G,au,Mg];exact E.bg rfl ⟨rfl,rfl⟩
  ·have au: (a.toList==b.toList)=true:=by
    rw[beq_iff_eq];rcases Mh h1 with e|e
    ·exact e
    ·exact absurd e G
   simp only[go_sem,h1,G,au,Mg];exact E.bg rfl ⟨rfl,rfl⟩
theorem Mm (aq:List Int)(aj:aq.length≤1000):aO prog 123 [.own 0 aq.length 0 aq.length] [.ag 3 1 (cJ .i64 aq)] (fun v rs=>v= .int .i64 (ow aq)∧rs= [.ag 3 1 (cJ .i64 aq)]):=by
 refine cu func123 aaf (by simp[CE,E7]) ?_;simp only[go_sem,CE,E7];refine dN (fun D r=> ∃ c:Nat,c≤aq.length∧ow aq=ow (aq.drop c)∧D= [(3,.int .i64 0),(6,.own 0 aq.length 0 aq.length),(7,.int .i64 aq.length),(8,.int .i64 c)]∧r= [.ag 3 1 (cJ .i64 aq)])
  (fun D _=>match bs D 8 with| .int _ j=>(aq.length-j).toNat|_=>0) ?_ ?_
 ·exact E.ac ⟨0,by omega,rfl,rfl,rfl⟩
 ·rintro D r ⟨c,av,Al,rfl,rfl⟩;have aP:=dB (c:=c) (by omega);simp only[go_sem,CE,E7];refine cf ?_ ?_<;>intro ct<;>simp only[bC] at ct<;>simp only[go_sem,CE,E7]
  ·have aI:c < aq.length:=by omega
   have eR: (cJ .i64 aq).getD c []= [.int .i64 aq[c]]:=by rw[tw aI,List.getD_eq_getElem?_getD,List.getElem?_eq_getElem aI,Option.getD_some]
   rw[awr aI] at Al;refine⟨by omega,by omega,?_⟩;simp only[Int.toNat_natCast,eR];simp only[go_sem];refine cf ?_ ?_<;>intro fH<;>simp only[bC] at fH<;>simp only[go_sem,CE,E7,aP]
   ·exact E.ac ⟨by rw[Al,if_neg fH];rfl,rfl⟩
   ·rw[if_pos fH] at Al;refine E.ac ⟨⟨c+1,by omega,Al,rfl,rfl⟩,?_⟩;simp only[go_sem];omega
  ·obtain rfl:c=aq.length:=by omega
   rw[List.drop_length] at Al;exact E.ac ⟨by rw[Al];rfl,rfl⟩
theorem awv (a b:cv):aO prog 122 [.agg (aJ.J a),.agg (aJ.J b)] [] (fun v rs=>v= .int .i64 (If a b)∧rs= []):=by
 refine cu func122 aag (by simp[Mo,R8]) ?_;simp only[go_sem,Mo,R8,LP];refine gG (yw _ _) rfl rfl ?_;simp only[go_sem];refine gG (awu _ _) rfl rfl ?_;simp only[go_sem]
 (refine D4 [2] (Mm [gT a.B b.B,yv a.n b.n] (by simp)) ?_;rintro _ _ ⟨rfl,rfl⟩;simp only[go_sem])
 exact E.bg rfl ⟨rfl,rfl⟩
end
theorem Am {a b:Int}:gT a b < 0↔a < b:=by
 unfold gT;split
 ·simp_all
 ·split<;>simp_all
theorem tQ {a b:Int}:gT a b=0↔a=b:=by
 unfold gT;split
 ·simp;omega
 ·split
  ·simp;omega
  ·simp;omega
theorem aww {a b:ByteArray}:yv a b < 0↔a.toList < b.toList:=by
 unfold yv;split
 ·simp_all
 ·split<;>simp_all
theorem awx {a b:ByteArray}:yv a b=0↔a.toList=b.toList:=by
 unfold yv;split
 ·rename_i h;constructor
  ·intro h;cases h
  ·intro e;exact absurd h (e▸Ie _)
 ·rename_i h;split
  ·rename_i G;constructor
   ·intro h;cases h
   ·intro e;exact absurd G (e▸Ie _)
  ·rename_i G;refine⟨fun _=> ?_,fun _=>rfl⟩;rcases Mh h with e|e
   ·exact e
   ·exact absurd e G
theorem aah {a b:cv}:If a b < 0↔pN a b:=by
 unfold If pN;simp only[ow]
 by_cases h:gT a.B b.B=0
 ·rw[if_pos h];have h0:=tQ.1 h
  by_cases G:yv a.n b.n=0
  ·rw[if_pos G];have au:=awx.1 G;constructor
   ·intro h;cases h
   ·rintro (h|⟨_,h⟩)
    ·omega
    ·exact absurd h (au▸Ie _)
  ·rw[if_neg G,aww];exact⟨fun h=> .inr ⟨h0,h⟩,fun h=>by rcases h with h|h;(·omega);exact h.2⟩
 ·rw[if_neg h,Am];have h0: ¬a.B=b.B:=fun e=>h (tQ.2 e);exact⟨.inl,fun h=>by rcases h with h|h;(·exact h);exact absurd h.1 h0⟩
end Go.Proofs.YtpincjkjoeopkaaGreatDoor
namespace Go.Proofs.YtpincjkjoeopkaaGreatDoor
open Go Go.Abs Go.Maps Go.Proofs.Tryz
open Go.RowKit (Below)
set_option maxRecDepth 100000
theorem abs {P:Program}{B:Nat}{t:TypeId}{ap:List Value}{fg:Array Field}(h:P.underlying t=some (.struct fg)):
 P.keyLits (B+1) t ap=if ap.length=P.cellsOf t∧fg.all (·.name != "_")=true then (fg.toList.mapM fun f=>P.keyLits B f.type ((ap.drop f.offset).take (P.cellsOf f.type))).map List.flatten else none:=by
 rw[Program.keyLits.eq_def];simp only[h]
theorem axt {P:Program}{B:Nat}{t:TypeId}{ap:List Value}{q:IntKind}{ma:List Lit}(h:P.underlying t=some (.int q))(O:P.keyLits (B+1) t ap=some ma): ∃ n,ap= [.int q n]∧(Lit.int q n).wf=true∧ma= [.int q n]:=by
 rw[Program.keyLits.eq_def] at O;rcases ap with _|⟨v,_|⟨_,_⟩⟩
 ·simp[h] at O
 ·cases v<;>simp only[h] at O<;>try (simp at O;done)
  split at O
  ·rename_i ad;cases O;obtain⟨rfl,aP⟩:=ad;exact⟨_,rfl,aP,rfl⟩
  ·cases O
 ·simp[h] at O
theorem axu {P:Program}{B:Nat}{t:TypeId}{ap:List Value}{ma:List Lit}(h:P.underlying t=some .string)(O:P.keyLits (B+1) t ap=some ma): ∃ n,ap= [.string n]∧n.size≤maxLen∧ma= [.string n.data.toList]:=by
 rw[Program.keyLits.eq_def] at O;rcases ap with _|⟨v,_|⟨_,_⟩⟩
 ·simp[h] at O
 ·cases v<;>simp only[h] at O<;>try (simp at O;done)
  split at O
  ·cases O;exact⟨_,rfl,by assumption,rfl⟩
  ·cases O
 ·simp[h] at O
theorem ie:prog.types.size+1=(prog.types.size-1)+1+1:=by kernel_rfl
theorem c3:prog.cellsOf 3=1:=by kernel_rfl
theorem c2:prog.cellsOf 9=1:=by kernel_rfl
theorem ij:prog.cellsOf 235=2:=by kernel_rfl
theorem axv {bj:Type}{l:List bj}(h:l.length=2): ∃ a b,l= [a,b]:=by
 match l,h with
 | [a,b],_=>exact⟨a,b,rfl⟩
theorem Rs (v:Value)(l:Lit)(h:keyOf prog 235 v=some l): ∃ B n,v= .agg #[.int .i64 B,.string n]∧(Lit.int .i64 B).wf=true∧n.size≤maxLen∧l= .string (keyBytes [.int .i64 B,.string n.data.toList]):=by
 unfold keyOf at h;rw[underlying235] at h;simp only at h;split at h
 ·rename_i hf;simp only[Bool.and_eq_true] at hf;rw[ie,abs underlying235] at h;split at h
  ·rename_i ad;obtain⟨ad,_⟩:=ad;rw[ij] at ad;obtain⟨x,y,Fd⟩:=axv ad;rw[Fd] at h;simp only[List.mapM_cons,List.mapM_nil,c3,c2,List.drop_succ_cons,List.drop_zero,List.take_succ_cons,List.take_zero,Option.bind_eq_bind,Option.pure_def] at h;cases h1:prog.keyLits (prog.types.size-1+1) 3 [x] with
   |none=>rw[h1] at h;cases h
   |some mN=>
    cases G:prog.keyLits (prog.types.size-1+1) 9 [y] with
    |none=>rw[h1,G] at h;cases h
    |some nv=>
     rw[h1,G] at h;obtain⟨B,bF,jG,rfl⟩:=axt underlying3 h1;obtain⟨n,bK,jH,rfl⟩:=axu underlying9 G;cases bF;cases bK;refine⟨B,n,?_,jG,jH,?_⟩
     ·have hf:=hf.2;unfold Value.formed at hf;split at hf
      ·rename_i ap _;congr 1;exact Array.toList_inj.1 Fd
      ·cases hf
      ·rw[underlying235] at hf;cases hf
     ·simpa using h.symm
  ·cases h
 ·cases h
theorem Ic {B:Int}{n:ByteArray}(h1: (Lit.int .i64 B).wf=true)(G:n.size≤maxLen):keyOf prog 235 (.agg #[.int .i64 B,.string n])=some (.string (keyBytes [.int .i64 B,.string n.data.toList])):=by
 have O:prog.keyType 235=true:=by kernel_rfl
 unfold keyOf;rw[underlying235];simp only;rw[if_pos (by rw[O];unfold Value.formed;simp only[underlying235,ij];rfl),ie,abs underlying235,if_pos ⟨by rw[ij];rfl,by kernel_rfl⟩];have bF:prog.keyLits (prog.types.size-1+1) 3 [.int .i64 B]=some [.int .i64 B]:=by
  rw[Program.keyLits.eq_def];simp only[underlying3,h1,and_self,if_true]
 have bK:prog.keyLits (prog.types.size-1+1) 9 [.string n]=some [.string n.data.toList]:=by
  rw[Program.keyLits.eq_def];simp only[underlying9,G,if_true]
 simp only[Value.cells,List.mapM_cons,List.mapM_nil,c3,c2,List.drop_succ_cons,List.drop_zero,List.take_succ_cons,List.take_zero,bF,bK,Option.bind_eq_bind,Option.pure_def];rfl
theorem Rq:Keyed prog 235:=Keyed.of_law (deep_law_gate (by kernel_rfl) (of_decide_eq_true (by kernel_rfl)) (of_decide_eq_true (by kernel_rfl)) (by kernel_rfl) (by kernel_rfl))
end Go.Proofs.YtpincjkjoeopkaaGreatDoor
