/- Time evaluation. -/
import Derived.Test.YtpincjkjoeopkaaGreatDoorK4
import Derived.Test.YtpincjkjoeopkaaGreatDoorK14
import Derived.Lib.LaidTab
import Derived.WalkKit
import Derived.Test.YtpincjkjoeopkaaGreatDoorRows
import Derived.Lib.LaidU8
import Derived.Test.YtpincjkjoeopkaaGreatDoorK5
import Derived.Test.YtpincjkjoeopkaaGreatDoorK8
import Derived.Test.YtpincjkjoeopkaaGreatDoorK7
import Derived.DeepKeys5
set_option linter.unusedSimpArgs false
set_option linter.unusedVariables false
set_option linter.unusedSectionVars false
namespace Go.Proofs.YtpincjkjoeopkaaGreatDoor
open Go Go.Abs Go.Proofs.Tryz
open Go.RowKit (Below)
def eB:List Int:= [31,28,31,30,31,30,31,31,30,31,30,31]
def jf (w:World)(g:Nat)(k:IntKind)(bQ:List Int):Prop:= ∃ t D,w.heap[g]? =some (.cells (bQ.map fun D=>Value.int k D).toArray t D)
instance:dw where
 o:=False
 n:=1
 H:=fun w=>jf w 0 .i64 eB
 nP:=by
  rintro w w' h ⟨t,D,h1⟩;exact⟨t,D,by rw[h 0 (by decide)];exact h1⟩
def yM (y:Int):Bool:=decide (y%4=0)&&(!decide (y%100=0)||decide (y%400=0))
def hH (y m:Int):Int:=if m=2∧yM y=true then 29 else eB.getD (m-1).toNat 0
theorem kA {w:World}{g:Nat}{k:IntKind}{bQ:List Int}(h:jf w g k bQ){c:Nat}{D:Int}(aS:bQ[c]? =some D):w.cell? ⟨g,c,none⟩=some (.int k D):=by
 obtain⟨t,OG,h⟩:=h;unfold World.cell?;simp[h,aS]
def DD (y:Int):Int:=if yM y=true then 29 else 28
theorem XD {y:Int}(h:y%4=0∧(¬y%100=0∨(y%400==0)=true)):DD y=29:=by
 rw[beq_iff_eq] at h;rw[DD,if_pos];simp only[yM,Bool.and_eq_true,Bool.or_eq_true,Bool.not_eq_true',decide_eq_true_eq,decide_eq_false_iff_not];omega
theorem XE {y:Int}(h: ¬y%4=0∨(y%100=0∧(y%400==0)=false)):DD y=28:=by
 rw[beq_eq_false_iff_ne] at h;rw[DD,if_neg];simp only[yM,Bool.and_eq_true,Bool.or_eq_true,Bool.not_eq_true',decide_eq_true_eq,decide_eq_false_iff_not];omega
theorem asF (y:Int)(w:World)(h:jf w 0 .i64 eB):Calls prog 255 #[.int .i64 y,.int .i64 1] w fun e w'=>e= .returned (.int .i64 31)∧w'=w:=by
 have V:=kA h (c:=0) rfl;clear h
 go_enter func255,ntmps255
 go_wp2
 go_ret
 exact⟨rfl,rfl⟩
theorem asG (y:Int)(w:World)(h:jf w 0 .i64 eB):Calls prog 255 #[.int .i64 y,.int .i64 3] w fun e w'=>e= .returned (.int .i64 31)∧w'=w:=by
 have V:=kA h (c:=2) rfl;clear h
 go_enter func255,ntmps255
 go_wp2
 go_ret
 exact⟨rfl,rfl⟩
theorem asH (y:Int)(w:World)(h:jf w 0 .i64 eB):Calls prog 255 #[.int .i64 y,.int .i64 4] w fun e w'=>e= .returned (.int .i64 30)∧w'=w:=by
 have V:=kA h (c:=3) rfl;clear h
 go_enter func255,ntmps255
 go_wp2
 go_ret
 exact⟨rfl,rfl⟩
theorem asI (y:Int)(w:World)(h:jf w 0 .i64 eB):Calls prog 255 #[.int .i64 y,.int .i64 5] w fun e w'=>e= .returned (.int .i64 31)∧w'=w:=by
 have V:=kA h (c:=4) rfl;clear h
 go_enter func255,ntmps255
 go_wp2
 go_ret
 exact⟨rfl,rfl⟩
theorem asJ (y:Int)(w:World)(h:jf w 0 .i64 eB):Calls prog 255 #[.int .i64 y,.int .i64 6] w fun e w'=>e= .returned (.int .i64 30)∧w'=w:=by
 have V:=kA h (c:=5) rfl;clear h
 go_enter func255,ntmps255
 go_wp2
 go_ret
 exact⟨rfl,rfl⟩
theorem asK (y:Int)(w:World)(h:jf w 0 .i64 eB):Calls prog 255 #[.int .i64 y,.int .i64 7] w fun e w'=>e= .returned (.int .i64 31)∧w'=w:=by
 have V:=kA h (c:=6) rfl;clear h
 go_enter func255,ntmps255
 go_wp2
 go_ret
 exact⟨rfl,rfl⟩
theorem asL (y:Int)(w:World)(h:jf w 0 .i64 eB):Calls prog 255 #[.int .i64 y,.int .i64 8] w fun e w'=>e= .returned (.int .i64 31)∧w'=w:=by
 have V:=kA h (c:=7) rfl;clear h
 go_enter func255,ntmps255
 go_wp2
 go_ret
 exact⟨rfl,rfl⟩
theorem asM (y:Int)(w:World)(h:jf w 0 .i64 eB):Calls prog 255 #[.int .i64 y,.int .i64 9] w fun e w'=>e= .returned (.int .i64 30)∧w'=w:=by
 have V:=kA h (c:=8) rfl;clear h
 go_enter func255,ntmps255
 go_wp2
 go_ret
 exact⟨rfl,rfl⟩
theorem asN (y:Int)(w:World)(h:jf w 0 .i64 eB):Calls prog 255 #[.int .i64 y,.int .i64 10] w fun e w'=>e= .returned (.int .i64 31)∧w'=w:=by
 have V:=kA h (c:=9) rfl;clear h
 go_enter func255,ntmps255
 go_wp2
 go_ret
 exact⟨rfl,rfl⟩
theorem asO (y:Int)(w:World)(h:jf w 0 .i64 eB):Calls prog 255 #[.int .i64 y,.int .i64 11] w fun e w'=>e= .returned (.int .i64 30)∧w'=w:=by
 have V:=kA h (c:=10) rfl;clear h
 go_enter func255,ntmps255
 go_wp2
 go_ret
 exact⟨rfl,rfl⟩
theorem asP (y:Int)(w:World)(h:jf w 0 .i64 eB):Calls prog 255 #[.int .i64 y,.int .i64 12] w fun e w'=>e= .returned (.int .i64 31)∧w'=w:=by
 have V:=kA h (c:=11) rfl;clear h
 go_enter func255,ntmps255
 go_wp2
 go_ret
 exact⟨rfl,rfl⟩
theorem asQ (y:Int)(h0:0≤y)(w:World)(h:jf w 0 .i64 eB):Calls prog 255 #[.int .i64 y,.int .i64 2] w fun e w'=>e= .returned (.int .i64 (DD y))∧w'=w:=by
 have V:=kA h (c:=1) rfl;clear h
 go_enter func255,ntmps255
 go_wp2
 ·rename_i a b F
  go_ret
  exact⟨by rw[XD ⟨a,.inr F⟩];rfl,rfl⟩
 ·rename_i a b F
  go_ret
  exact⟨by rw[XE (.inr ⟨b,F⟩)];rfl,rfl⟩
 ·rename_i a b
  go_ret
  exact⟨by rw[XD ⟨a,.inl b⟩];rfl,rfl⟩
 ·rename_i a
  go_ret
  exact⟨by rw[XE (.inl a)];rfl,rfl⟩
theorem DF (y m:Int)(h0:0≤y)(h1:1≤m)(B:m≤12):aK prog 255 [.int .i64 y,.int .i64 m] [] (fun v rs=>v= .int .i64 (hH y m)∧rs= []):=by
 refine aK.FT ?_;rintro C du G ar ⟨_,_,ht⟩ dk;simp only[ay,Rep] at dk;obtain⟨v1,r1,rfl,rfl,re,cO,rfl,rfl,rfl⟩:=dk;have key: ∀ {D:Int},hH y m=D→(Calls prog 255 #[.int .i64 y,.int .i64 m] C.w fun e w'=>e= .returned (.int .i64 D)∧w'=C.w)→
  Calls prog 255 [Value.int .i64 y,.int .i64 m].toArray C.w fun e w'=> ∃ aV v,e= .returned aV∧(Below C.w.heap.size C.w w'∧C.w.drawn≤w'.drawn)∧(∀ av:bv,jo C av→Rep av v aV)∧v= .int .i64 (hH y m)∧ []=([]:List R):=by
  intro D aS h;refine h.mono ?_;rintro e w' ⟨rfl,rfl⟩;exact⟨_,.int .i64 D,rfl,⟨Below.refl _ _,Nat.le_refl _⟩,fun av _=>by rw[Rep],by rw[aS],rfl⟩
 obtain rfl|rfl|rfl|rfl|rfl|rfl|rfl|rfl|rfl|rfl|rfl|rfl:m=1∨m=2∨m=3∨m=4∨m=5∨m=6∨m=7∨m=8∨m=9∨m=10∨m=11∨m=12:=by omega
 ·exact key (by simp[hH,eB]) (asF y C.w ht)
 ·exact key (by simp[hH,eB,DD]) (asQ y h0 C.w ht)
 ·exact key (by simp[hH,eB]) (asG y C.w ht)
 ·exact key (by simp[hH,eB]) (asH y C.w ht)
 ·exact key (by simp[hH,eB]) (asI y C.w ht)
 ·exact key (by simp[hH,eB]) (asJ y C.w ht)
 ·exact key (by simp[hH,eB]) (asK y C.w ht)
 ·exact key (by simp[hH,eB]) (asL y C.w ht)
 ·exact key (by simp[hH,eB]) (asM y C.w ht)
 ·exact key (by simp[hH,eB]) (asN y C.w ht)
 ·exact key (by simp[hH,eB]) (asO y C.w ht)
 ·exact key (by simp[hH,eB]) (asP y C.w ht)
theorem asR {w:World}{E:String}{o:DataW Unit}(h:Lib.VarReads prog w E o){g:Nat}{t e:TypeId}{n:Nat}{k:IntKind}{bQ:List Int}(aq:o=Lib.tabData k bQ)
 (ao:prog.globalNamed E=some g) (asS: (prog.globals[g]?).map (·.type)=some t) (ht:prog.underlying t=some (.array n e)) (he:prog.underlying e=some (.int k)) (asT:prog.cellsOf e=1) (asU:prog.cellsOf t=n):jf w g k bQ:=by
 subst aq;obtain⟨yN,sG,aj,hp,p,Gr,asV,Gs,asW⟩:=h;obtain rfl:=Option.some.inj (ao.symm.trans Gr);obtain rfl:=Option.some.inj (asS.symm.trans asV);have es:=Lib.cells_of_tab ht he asT asU asW;unfold World.var? at Gs;rw[ao,Option.bind_some] at Gs;split at Gs
 ·rename_i fX cA OG hh;cases Gs;refine⟨cA,OG,?_⟩;rw[hh,←es]
 ·cases Gs
set_option maxRecDepth 100000 in
theorem gok_of_laid {w:World}(h:laidMet prog Rows.timesheetLimitsRow.laid w):GOk (ctx0 w):=by
 have h1:jf w 0 .i64 eB:=asR (Lib.laidMet.reads h (List.Mem.head _)) (t:=394) (e:=3) (n:=12) (by rfl) (by kernel_rfl) (by kernel_rfl) underlying394 underlying3 (by kernel_rfl) (by kernel_rfl);refine⟨?_,fun b Z i F V=>by simp[ctx0] at V,h1⟩;obtain⟨t,D,B⟩:=h1;show 1≤w.heap.size;rcases Nat.lt_or_ge 0 w.heap.size with h|h
 ·exact h
 ·rw[Array.getElem?_eq_none h] at B;cases B
theorem bL {bd:Type}{l t:List bd}{c:Nat}{x:bd}(h:l[c]? =some x): (l++t)[c]? =some x:=by
 rw[List.getElem?_append_left (List.getElem?_eq_some_iff.1 h).1,h]
theorem dE {bd:Type}{l t:List bd}{k:Nat}: (l++t)[l.length+k]? =t[k]? :=by
 rw[List.getElem?_append_right (by omega)];simp
theorem dz {bd:Type}{l t:List bd}: (l++t)[l.length]? =t[0]? :=by
 rw[List.getElem?_append_right (by omega)];simp
theorem dW {bd:Type}{l t:List bd}{k:Nat}{x:bd}: (l++t).set (l.length+k) x=l++t.set k x:=by
 rw[List.set_append_right _ _ (by omega)];simp
theorem dT {bd:Type}{l t:List bd}{x:bd}: (l++t).set l.length x=l++t.set 0 x:=by
 rw[List.set_append_right _ _ (by omega)];simp
theorem sI {bd:Type}{l t:List bd}{k:Nat}{x y:bd}(h:l[k]? =some y): (l++t).set k x=l.set k x++t:=List.set_append_left _ _ (List.getElem?_eq_some_iff.1 h).1
def cX (f:Int→z)(M:List Int):List (z×z):=M.map fun k=>(.int .i64 k,f k)
def ea (k:Int)(M:List Int):List Int:=if k∈M then M else M++ [k]
theorem DJ {f:Int→z}{k:Int}: ∀ {l:List Int},dd (.int .i64 k) (cX f l)=if k∈l then some (f k) else none
 | []=>by simp[cX,dd]
 |p::l=>by
  have ih:=DJ (f:=f) (k:=k) (l:=l);unfold cX at *;rw[List.map_cons,dd];have:fp (.int .i64 k) (.int .i64 p)=(k==p):=by simp[fp,cf,dU]
  simp only[this]
  by_cases I:k=p
  ·subst I;simp
  ·simp only[beq_iff_eq,I,if_false,ih,List.mem_cons,false_or]
theorem DK {f g:Int→z}{k:Int}(ui: ∀ x,x≠k→f x=g x): ∀ {l:List Int},l.Nodup→dp (.int .i64 k) (g k) (cX f l)=cX g (ea k l)
 | [],_=>by simp[cX,dp,ea]
 |p::l,hl=>by
  rw[List.nodup_cons] at hl;have ih:=DK ui hl.2;unfold cX ea at *;rw[List.map_cons,dp];have:fp (.int .i64 k) (.int .i64 p)=(k==p):=by simp[fp,cf,dU]
  simp only[this]
  by_cases I:k=p
  ·subst I;simp;exact fun a aw=>ui a (fun e=>hl.1 (e▸aw))
  ·simp only[beq_iff_eq,I,if_false,ih,List.mem_cons,false_or];split<;>simp[ui p (fun e=>I e.symm)]
theorem BH {k x:Int}{M:List Int}:x∈ea k M↔x=k∨x∈M:=by
 unfold ea;split
 ·constructor
  ·exact .inr
  ·rintro (rfl|h)
   ·assumption
   ·exact h
 ·rw[List.mem_append,List.mem_singleton];exact Or.comm
theorem DU {k:Int}{M:List Int}(h:M.Nodup): (ea k M).Nodup:=by
 unfold ea;split
 ·exact h
 ·rename_i I;rw[List.nodup_append];exact⟨h,by simp,fun a aw b Z=>by rw[List.mem_singleton] at Z;subst Z;exact fun e=>I (e▸aw)⟩
def sH (k:Bool):TypeId:=if k then 132 else 78
def hc (X:Int→Bool→Nat)(ba:Int→Bool→List (List z))(o:Int)(k:Bool):z:=if (ba o k).length=0 then .bD else .own (X o k) (ba o k).length 0 (ba o k).length
def mW (X:Int→Bool→Nat)(ba:Int→Bool→List (List z))(o:Int):z:= .agg [.int .i64 o,hc X ba o false,hc X ba o true]
structure qI (d:List R) (E m:Nat) (J T:Int) (M:List Int) (ba:Int→Bool→List (List z)) (X:Int→Bool→Nat):Prop where
 all:jA d
 E:d[E]? =some (.aa 118 3 [[.int .i64 J,.int .i64 T,.bu m]])
 m:d[m]? =some (.aY (.map false [.int .i64] (cX (mW X ba) M)))
 GB:M.Nodup
 dP: ∀ o k,ba o k≠ []→o∈M
 fU: ∀ o k,eg (ba o k)=true
 x: ∀ o k,ba o k≠ []→d[X o k]? =some (.aa (sH k) 2 (ba o k))
 inj: ∀ o k ig bo,ba o k≠ []→ba ig bo≠ []→X o k=X ig bo→o=ig∧k=bo
def gH (ba:Int→Bool→List (List z))(o:Int)(k:Bool)(F:List z)(ig:Int)(bo:Bool):List (List z):=if ig=o∧bo=k then ba o k++ [F] else ba ig bo
def rI (X:Int→Bool→Nat)(o:Int)(k:Bool)(q:Nat)(ig:Int)(bo:Bool):Nat:=if ig=o∧bo=k then q else X ig bo
theorem DI {d t:List R}(h:jA d)(ht: ∀ bz∈t,iM (d.length+t.length) bz=true):jA (d++t):=by
 intro i bz G;rw[List.length_append];rw[List.getElem?_append] at G;split at G
 ·exact Py (by omega) (h i bz G)
 ·exact ht _ (List.mem_of_getElem? G)
theorem Bh {d:List R}(h:jA d){k:Nat}{y:R}(bl:iM d.length y=true):jA (d.set k y):=by
 intro i bz G;rw[List.length_set];rw[List.getElem?_set] at G;split at G
 ·split at G
  ·cases G;exact bl
  ·cases G
 ·exact h i bz G
theorem KA {n:Nat}{f:Int→z}: ∀ {l:List Int},(∀ o∈l,di n (f o)=true)→mU n (cX f l)=true
 | [],_=>rfl
 |o::l,h=>by
  show (di n (.int .i64 o)&&di n (f o)&&mU n (cX f l))=true;rw[h o List.mem_cons_self,KA fun x ad=>h x (List.mem_cons_of_mem _ ad)];rfl
theorem Qc {n:Nat}{X:Int→Bool→Nat}{ba:Int→Bool→List (List z)}(h: ∀ o k,ba o k≠ []→X o k < n)(o:Int)(k:Bool):di n (hc X ba o k)=true:=by
 unfold hc;split
 ·rfl
 ·rename_i ag;simp only[di,decide_eq_true_eq];exact h o k fun e=>ag (by rw[e];rfl)
theorem atx {n:Nat}{X:Int→Bool→Nat}{ba:Int→Bool→List (List z)}(h: ∀ o k,ba o k≠ []→X o k < n)(o:Int):di n (mW X ba o)=true:=by
 unfold mW;simp only[di,gl,Qc h,Bool.and_self]
theorem jP {d:List R}{c:Nat}{x:R}(h:d[c]? =some x):c < d.length:=(List.getElem?_eq_some_iff.1 h).1
theorem qI.lC {d W:List R}{E m:Nat}{J T:Int}{M:List Int}{ba:Int→Bool→List (List z)}{X:Int→Bool→Nat}(h:qI d E m J T M ba X)(o:Int)(k:Bool)(F:List z)(V:bP F=true)(q:Nat)
 (aQ:ba o k≠ []→q=X o k) (iz:ba o k= []→d.length≤q)
 (hW:jA W) (hm:W[m]? =some (.aY (.map false [.int .i64] (cX (mW (rI X o k q) (gH ba o k F)) (ea o M)))))
 (aB:W[q]? =some (.aa (sH k) 2 (ba o k++ [F]))) (bi: ∀ i bz,d[i]? =some bz→i≠m→i≠q→W[i]? =some bz):
 qI W E m J T (ea o M) (gH ba o k F) (rI X o k q):=by
 have uK:E≠m:=fun e=>by have h1:=h.E;rw[e,h.m] at h1;cases h1
 have axu:E≠q:=fun e=>by
  by_cases ag:ba o k= []
  ·have:=iz ag;have:=jP h.E;omega
  ·have h1:=h.E;rw[e,aQ ag,h.x o k ag] at h1;simp only[Option.some.injEq,R.aa.injEq] at h1;have:=h1.2.1;omega
 have eD: ∀ ig bo,ba ig bo≠ []→ ¬(ig=o∧bo=k)→X ig bo≠m∧X ig bo≠q:=fun ig bo ag hne=>by
  have h1:=h.x ig bo ag;refine⟨fun e=>(by rw[e,h.m] at h1;cases h1),fun e=> ?_⟩
  by_cases jJ:ba o k= []
  ·have:=iz jJ;have:=jP h1;omega
  ·exact hne (h.inj ig bo o k ag jJ (e.trans (aQ jJ)))
 refine⟨hW,bi E _ h.E uK axu,hm,DU h.GB,fun ig bo ag=> ?_,fun ig bo=> ?_,fun ig bo ag=> ?_,fun d1 bI kd ca h1 B he=> ?_⟩
 ·unfold gH at ag;rw[BH];split at ag
  ·rename_i e;exact .inl e.1
  ·exact .inr (h.dP ig bo ag)
 ·unfold gH;split
  ·rw[OY,h.fU];simp[eg,V]
  ·exact h.fU ig bo
 ·unfold gH rI at *
  by_cases e:ig=o∧bo=k
  ·rw[if_pos e,if_pos e,e.2];exact aB
  ·rw[if_neg e] at ag ⊢;rw[if_neg e];obtain⟨a,b⟩:=eD ig bo ag e;exact bi _ _ (h.x ig bo ag) a b
 ·unfold gH at h1 B;unfold rI at he
  by_cases bF:d1=o∧bI=k<;>by_cases bJ:kd=o∧ca=k
  ·exact⟨bF.1.trans bJ.1.symm,bF.2.trans bJ.2.symm⟩
  ·rw[if_neg bJ] at B;rw[if_pos bF,if_neg bJ] at he;exact absurd he.symm (eD kd ca B bJ).2
  ·rw[if_neg bF] at h1;rw[if_neg bF,if_pos bJ] at he;exact absurd he (eD d1 bI h1 bF).2
  ·rw[if_neg bF] at h1;rw[if_neg bJ] at B;rw[if_neg bF,if_neg bJ] at he;exact h.inj _ _ _ _ h1 B he
def fY (d W:List R)(m:Nat):Prop:=d.length≤W.length∧ ∀ i bz,d[i]? =some bz→i≠m→(∀ k ah,bz≠ .aa (sH k) 2 ah)→W[i]? =some bz
theorem fY.refl {d:List R}{m:Nat}:fY d d m:=⟨Nat.le_refl _,fun _ _ h _ _=>h⟩
theorem fY.trans {a b F:List R}{m:Nat}(h:fY a b m)(k:fY b F m):fY a F m:=⟨Nat.le_trans h.1 k.1,fun i bz h1 B am=>k.2 i bz (h.2 i bz h1 B am) B am⟩
structure eS where
 bh:Int
 ab:Int
 name:ByteArray
 min:Int
instance:aG eS:=⟨fun a=> [.int .i64 a.bh,.int .i64 a.ab,.str a.name,.int .i64 a.min],4,fun _=>rfl,fun _=>rfl,fun _=>rfl⟩
theorem PX (e:eS):aG.F e= [.int .i64 e.bh,.int .i64 e.ab,.str e.name,.int .i64 e.min]:=rfl
theorem ate:aG.N eS=4:=rfl
theorem atf (e:eS):List.take 4 (aG.F e)=aG.F e:=rfl
attribute [go_sem] ate atf
structure cp where
 ab:Int
 bq:Int
 cF:Int
instance:aG cp:=⟨fun a=> [.int .i64 a.ab,.int .i64 a.bq,.int .i64 a.cF],3,fun _=>rfl,fun _=>rfl,fun _=>rfl⟩
theorem tZ (e:cp):aG.F e= [.int .i64 e.ab,.int .i64 e.bq,.int .i64 e.cF]:=rfl
theorem atg:aG.N cp=3:=rfl
theorem ath (e:cp):List.take 3 (aG.F e)=aG.F e:=rfl
attribute [go_sem] atg ath
def qH (E:cp)(ab:Int):Int:=if E.ab=ab∧1≤E.cF∧E.cF≤1440 then E.cF else 0
def Bd (Y:List cp)(ab:Int):Int:=((Y.take 1024).map fun E=>qH E ab).sum
theorem PY (ab:Int): ∀ (l:List cp),0≤(l.map fun E=>qH E ab).sum∧(l.map fun E=>qH E ab).sum≤1440*l.length
 | []=>by simp
 |E::l=>by
  have ih:=PY ab l;have:0≤qH E ab∧qH E ab≤1440:=by unfold qH;split<;>omega
  rw[List.map_cons,List.sum_cons,List.length_cons];omega
theorem ati (Y:List cp)(ab:Int):0≤Bd Y ab∧Bd Y ab≤1474560:=by
 have h:=PY ab (Y.take 1024);have B: (Y.take 1024).length≤1024:=by simp;omega
 unfold Bd;omega
theorem XI {bd:Type}(f:bd→Int){l:List bd}{c:Nat}(h:c < l.length): ((l.take (c+1)).map f).sum=((l.take c).map f).sum+f l[c]:=by
 rw[List.take_succ_eq_append_getElem h,List.map_append,List.sum_append];simp
theorem atj (Y:List cp)(hl:Y.length≤1000000)(ab:Int):aK prog 119 [.pure 3 (ac Y),.int .i64 ab] [] (fun v rs=>v= .int .i64 (Bd Y ab)∧rs= []):=by
 refine cr func119 XJ (by simp[xb,yP]) ?_;simp only[go_sem,xb,yP,bO];refine⟨by omega,by omega,?_⟩;have aQ:List.take ((min (Y.length:Int) 1024).toNat-0) Y=Y.take 1024:=by
  by_cases h:Y.length≤1024
  ·rw[show (min (Y.length:Int) 1024).toNat-0=Y.length by omega,List.take_length,List.take_of_length_le h]
  ·rw[show (min (Y.length:Int) 1024).toNat-0=1024 by omega]
 unfold Bd;obtain⟨q,XK⟩: ∃ q,Y.take 1024=q:=⟨_,rfl⟩;have XL:q.length≤1024:=by rw[←XK];simp;omega
 simp only[Vy,List.drop_zero,aQ,XK,bO];refine dR (fun r d=> ∃ c:Nat,c≤q.length∧r= [(1,.int .i64 ab),(5,.int .i64 ((q.take c).map fun E=>qH E ab).sum),(12,.pure 3 (ac q)),(13,.int .i64 q.length),(14,.int .i64 c)]∧d= [])
  (fun r _=>match bn r 14 with| .int _ j=>(q.length-j).toNat|_=>0) ?_ ?_
 ·exact s.U ⟨0,by omega,rfl,rfl⟩
 ·rintro r d ⟨c,an,rfl,rfl⟩;have aR:=dr (c:=c) (by omega);have Z:=PY ab (q.take c);have ri: (q.take c).length≤1024:=by simp;omega
  by_cases aC:c < q.length
  ·have h1: (c:Int) < q.length:=by omega
   have h0: (0:Int)≤c:=by omega
   have ao: (ac q).getD c []= [.int .i64 q[c].ab,.int .i64 q[c].bq,.int .i64 q[c].cF]:=by rw[cQ aC,tZ]
   have ak:=XI (fun E=>qH E ab) aC
   by_cases F:q[c].ab=ab∧1≤q[c].cF∧q[c].cF≤1440
   ·have gg:IntKind.i64.wrap ((List.map (fun E=>qH E ab) (List.take c q)).sum+q[c].cF)=(List.map (fun E=>qH E ab) (List.take (c+1) q)).sum:=by
     rw[bf (by omega) (by omega),ak];unfold qH;rw[if_pos F]
    simp only[go_sem,xb,yP,h0,h1,ao,bO,Int.toNat_natCast,F,beq_self_eq_true,gg,aR]
    (refine s.bw [] ?_;simp only[go_sem])
    refine s.U ⟨⟨c+1,by omega,rfl,rfl⟩,?_⟩;simp only[go_sem];omega
   ·have aS: (List.map (fun E=>qH E ab) (List.take (c+1) q)).sum=(List.map (fun E=>qH E ab) (List.take c q)).sum:=by
     rw[ak];unfold qH;rw[if_neg F,Int.add_zero]
    by_cases c1:q[c].ab=ab
    ·by_cases c2:1≤q[c].cF
     ·have c3: ¬q[c].cF≤1440:=fun h=>F ⟨c1,c2,h⟩;simp only[go_sem,xb,yP,h0,h1,ao,bO,Int.toNat_natCast,c1,c2,c3,beq_self_eq_true,aR]
      (refine s.bw [] ?_;simp only[go_sem])
      (rw[←aS];refine s.U ⟨⟨c+1,by omega,rfl,rfl⟩,?_⟩;simp only[go_sem];omega)
     ·simp only[go_sem,xb,yP,h0,h1,ao,bO,Int.toNat_natCast,c1,c2,beq_self_eq_true,aR]
      (refine s.bw [] ?_;simp only[go_sem])
      (rw[←aS];refine s.U ⟨⟨c+1,by omega,rfl,rfl⟩,?_⟩;simp only[go_sem];omega)
    ·have Gt: (q[c].ab==ab)=false:=beq_eq_false_iff_ne.2 c1;simp only[go_sem,xb,yP,h0,h1,ao,bO,Int.toNat_natCast,Gt,aR]
     (refine s.bw [] ?_;simp only[go_sem])
     (rw[←aS];refine s.U ⟨⟨c+1,by omega,rfl,rfl⟩,?_⟩;simp only[go_sem];omega)
  ·have h1: ¬(c:Int) < q.length:=by omega
   obtain rfl:c=q.length:=by omega
   simp only[go_sem,xb,yP,h1,List.take_length];exact s.bb rfl ⟨rfl,rfl⟩
end Go.Proofs.YtpincjkjoeopkaaGreatDoor
namespace Go.Proofs.YtpincjkjoeopkaaGreatDoor
open Go Go.Abs Go.Proofs.Tryz
open Go.Sort (SWO)
theorem auI {d:List R}{o:Option Nat}{r:aJ}{K:aJ→List R→Prop}{a b:ByteArray}:bx (.jc .gtr) [.str a,.str b] d o r K=K (put r o (.bool !(Op.bytesLess a.toList b.toList||a.toList==b.toList))) d:=_root_.id rfl
attribute [go_sem] auI
def gJ (a b:Int):Int:=if a < b then -1 else if b < a then 1 else 0
def nF:List Int→Int
 | []=>0
 |x::ai=>if x=0 then nF ai else x
def xp (a b:ByteArray):Int:=if a.toList < b.toList then -1 else if b.toList < a.toList then 1 else 0
theorem K4: ∀ (x y:List UInt8),Op.bytesLess x y=decide (x < y)
 | [],[]=>by simp[Op.bytesLess]
 |_::_,[]=>by simp[Op.bytesLess]
 | [],_::_=>by simp[Op.bytesLess]
 |a::x,b::y=>by
  rw[Op.bytesLess,K4 x y];simp only[List.cons_lt_cons_iff]
  by_cases h1:a < b<;>by_cases B:a=b<;>by_cases am:x < y<;>simp[h1,B,am]
theorem K5 {a b:List UInt8}(h: ¬a < b):a=b∨b < a:=by
 rcases Decidable.em (b < a) with h1|h1
 ·exact .inr h1
 ·exact .inl (List.le_antisymm (List.not_lt.1 h1) (List.not_lt.1 h))
theorem G3 (a:List UInt8): ¬a < a:=List.lt_irrefl a
theorem YQ {a b F:List UInt8}(h:a < b)(k:b < F):a < F:=List.lt_trans h k
theorem auJ {ai:List Int}{c:Nat}(h:c < ai.length):nF (ai.drop c)=if ai[c]=0 then nF (ai.drop (c+1)) else ai[c]:=by
 rw[List.drop_eq_getElem_cons h,nF]
structure cm where
 o:Int
 n:ByteArray
instance:aG cm:=⟨fun k=> [.int .i64 k.o,.str k.n],2,fun _=>rfl,fun _=>rfl,fun _=>rfl⟩
instance:Inhabited cm:=⟨⟨0,default⟩⟩
theorem Kz (e:cm):aG.F e= [.int .i64 e.o,.str e.n]:=rfl
theorem auK:aG.N cm=2:=rfl
theorem auL (e:cm):List.take 2 (aG.F e)=aG.F e:=rfl
attribute [go_sem] auK auL
def G4 (a b:cm):Int:=nF [gJ a.o b.o,xp a.n b.n]
def pb (a b:cm):Prop:=a.o < b.o∨(a.o=b.o∧a.n.toList < b.n.toList)
theorem P0:Int.negSucc 0= -1:=rfl
attribute [go_sem] P0
section
variable [iK:dw]
theorem YR (a:Int):aK prog 159 [.int .i64 a] [] (fun v rs=>v= .bool false∧rs= []):=by
 refine cr func159 YS (by simp[K6,QW]) ?_;simp only[go_sem,K6,QW,bne_self_eq_false];exact s.bb rfl ⟨rfl,rfl⟩
theorem xq (a b:Int):aK prog 74 [.int .i64 a,.int .i64 b] [] (fun v rs=>v= .int .i64 (gJ a b)∧rs= []):=by
 refine cr func74 YT (by simp[K7,QX]) ?_;simp only[go_sem,K7,QX];refine bH (YR a) rfl rfl ?_;simp only[go_sem];refine bH (YR b) rfl rfl ?_;simp only[go_sem];unfold gJ
 by_cases h1:a < b
 ·simp only[go_sem,h1];exact s.bb rfl ⟨rfl,rfl⟩
 ·by_cases B:b < a<;>simp only[go_sem,h1,B]<;>exact s.bb rfl ⟨rfl,rfl⟩
theorem YU (a:ByteArray):aK prog 208 [.str a] [] (fun v rs=>v= .bool false∧rs= []):=by
 refine cr func208 YV (by simp[K8,QY]) ?_;simp only[go_sem,K8,QY,beq_self_eq_true,Bool.not_true];exact s.bb rfl ⟨rfl,rfl⟩
theorem auM (a b:ByteArray):aK prog 124 [.str a,.str b] [] (fun v rs=>v= .int .i64 (xp a b)∧rs= []):=by
 refine cr func124 YW (by simp[K9,QZ]) ?_;simp only[go_sem,K9,QZ];refine bH (YU a) rfl rfl ?_;simp only[go_sem];refine bH (YU b) rfl rfl ?_;simp only[go_sem];unfold xp;rw[K4]
 by_cases h1:a.toList < b.toList
 ·simp only[go_sem,h1];exact s.bb rfl ⟨rfl,rfl⟩
 ·by_cases B:b.toList < a.toList
  ·have am: (a.toList==b.toList)=false:=by
    rw[beq_eq_false_iff_ne];exact fun e=>G3 _ (e▸B)
   simp only[go_sem,h1,B,am,K4];exact s.bb rfl ⟨rfl,rfl⟩
  ·have am: (a.toList==b.toList)=true:=by
    rw[beq_iff_eq];rcases K5 h1 with e|e
    ·exact e
    ·exact absurd e B
   simp only[go_sem,h1,B,am,K4];exact s.bb rfl ⟨rfl,rfl⟩
theorem La (ai:List Int)(ad:ai.length≤1000):aK prog 123 [.own 0 ai.length 0 ai.length] [.aa 3 1 (cC .i64 ai)] (fun v rs=>v= .int .i64 (nF ai)∧rs= [.aa 3 1 (cC .i64 ai)]):=by
 refine cr func123 YX (by simp[Bv,DZ]) ?_;simp only[go_sem,Bv,DZ];refine dR (fun r d=> ∃ c:Nat,c≤ai.length∧nF ai=nF (ai.drop c)∧r= [(3,.int .i64 0),(6,.own 0 ai.length 0 ai.length),(7,.int .i64 ai.length),(8,.int .i64 c)]∧d= [.aa 3 1 (cC .i64 ai)])
  (fun r _=>match bn r 8 with| .int _ j=>(ai.length-j).toNat|_=>0) ?_ ?_
 ·exact s.U ⟨0,by omega,rfl,rfl,rfl⟩
 ·rintro r d ⟨c,an,zc,rfl,rfl⟩;have aR:=dr (c:=c) (by omega);simp only[go_sem,Bv,DZ];refine cg ?_ ?_<;>intro ck<;>simp only[bA] at ck<;>simp only[go_sem,Bv,DZ]
  ·have aC:c < ai.length:=by omega
   have eI: (cC .i64 ai).getD c []= [.int .i64 ai[c]]:=by rw[sA aC,List.getD_eq_getElem?_getD,List.getElem?_eq_getElem aC,Option.getD_some]
   rw[auJ aC] at zc;refine⟨by omega,by omega,?_⟩;simp only[Int.toNat_natCast,eI];simp only[go_sem];refine cg ?_ ?_<;>intro fQ<;>simp only[bA] at fQ<;>simp only[go_sem,Bv,DZ,aR]
   ·exact s.U ⟨by rw[zc,if_neg fQ];rfl,rfl⟩
   ·rw[if_pos fQ] at zc;refine s.U ⟨⟨c+1,by omega,zc,rfl,rfl⟩,?_⟩;simp only[go_sem];omega
  ·obtain rfl:c=ai.length:=by omega
   rw[List.drop_length] at zc;exact s.U ⟨by rw[zc];rfl,rfl⟩
theorem auN (a b:cm):aK prog 122 [.agg (aG.F a),.agg (aG.F b)] [] (fun v rs=>v= .int .i64 (G4 a b)∧rs= []):=by
 refine cr func122 YY (by simp[Lb,Q0]) ?_;simp only[go_sem,Lb,Q0,Kz];refine jd (xq _ _) rfl rfl ?_;simp only[go_sem];refine jd (auM _ _) rfl rfl ?_;simp only[go_sem]
 (refine CP [2] (La [gJ a.o b.o,xp a.n b.n] (by simp)) ?_;rintro _ _ ⟨rfl,rfl⟩;simp only[go_sem])
 exact s.bb rfl ⟨rfl,rfl⟩
end
theorem zd {a b:Int}:gJ a b < 0↔a < b:=by
 unfold gJ;split
 ·simp_all
 ·split<;>simp_all
theorem sQ {a b:Int}:gJ a b=0↔a=b:=by
 unfold gJ;split
 ·simp;omega
 ·split
  ·simp;omega
  ·simp;omega
theorem auO {a b:ByteArray}:xp a b < 0↔a.toList < b.toList:=by
 unfold xp;split
 ·simp_all
 ·split<;>simp_all
theorem auP {a b:ByteArray}:xp a b=0↔a.toList=b.toList:=by
 unfold xp;split
 ·rename_i h;constructor
  ·intro h;cases h
  ·intro e;exact absurd h (e▸G3 _)
 ·rename_i h;split
  ·rename_i B;constructor
   ·intro h;cases h
   ·intro e;exact absurd B (e▸G3 _)
  ·rename_i B;refine⟨fun _=> ?_,fun _=>rfl⟩;rcases K5 h with e|e
   ·exact e
   ·exact absurd e B
theorem YZ {a b:cm}:G4 a b < 0↔pb a b:=by
 unfold G4 pb;simp only[nF]
 by_cases h:gJ a.o b.o=0
 ·rw[if_pos h];have h0:=sQ.1 h
  by_cases B:xp a.n b.n=0
  ·rw[if_pos B];have am:=auP.1 B;constructor
   ·intro h;cases h
   ·rintro (h|⟨_,h⟩)
    ·omega
    ·exact absurd h (am▸G3 _)
  ·rw[if_neg B,auO];exact⟨fun h=> .inr ⟨h0,h⟩,fun h=>by rcases h with h|h;(·omega);exact h.2⟩
 ·rw[if_neg h,zd];have h0: ¬a.o=b.o:=fun e=>h (sQ.2 e);exact⟨.inl,fun h=>by rcases h with h|h;(·exact h);exact absurd h.1 h0⟩
end Go.Proofs.YtpincjkjoeopkaaGreatDoor
namespace Go.Proofs.YtpincjkjoeopkaaGreatDoor
open Go Go.Abs Go.Maps Go.Proofs.Tryz
open Go.RowKit (Below)
set_option maxRecDepth 100000
theorem Z0 {P:Program}{o:Nat}{t:TypeId}{aj:List Value}{eU:Array Field}(h:P.underlying t=some (.struct eU)):
 P.keyLits (o+1) t aj=if aj.length=P.cellsOf t∧eU.all (·.name != "_")=true then (eU.toList.mapM fun f=>P.keyLits o f.type ((aj.drop f.offset).take (P.cellsOf f.type))).map List.flatten else none:=by
 rw[Program.keyLits.eq_def];simp only[h]
theorem avL {P:Program}{o:Nat}{t:TypeId}{aj:List Value}{q:IntKind}{lv:List Lit}(h:P.underlying t=some (.int q))(I:P.keyLits (o+1) t aj=some lv): ∃ n,aj= [.int q n]∧(Lit.int q n).wf=true∧lv= [.int q n]:=by
 rw[Program.keyLits.eq_def] at I;rcases aj with _|⟨v,_|⟨_,_⟩⟩
 ·simp[h] at I
 ·cases v<;>simp only[h] at I<;>try (simp at I;done)
  split at I
  ·rename_i V;cases I;obtain⟨rfl,aR⟩:=V;exact⟨_,rfl,aR,rfl⟩
  ·cases I
 ·simp[h] at I
theorem avM {P:Program}{o:Nat}{t:TypeId}{aj:List Value}{lv:List Lit}(h:P.underlying t=some .string)(I:P.keyLits (o+1) t aj=some lv): ∃ n,aj= [.string n]∧n.size≤maxLen∧lv= [.string n.data.toList]:=by
 rw[Program.keyLits.eq_def] at I;rcases aj with _|⟨v,_|⟨_,_⟩⟩
 ·simp[h] at I
 ·cases v<;>simp only[h] at I<;>try (simp at I;done)
  split at I
  ·cases I;exact⟨_,rfl,by assumption,rfl⟩
  ·cases I
 ·simp[h] at I
theorem hN:prog.types.size+1=(prog.types.size-1)+1+1:=by kernel_rfl
theorem c3:prog.cellsOf 3=1:=by kernel_rfl
theorem c2:prog.cellsOf 9=1:=by kernel_rfl
theorem hQ:prog.cellsOf 235=2:=by kernel_rfl
theorem avN {bd:Type}{l:List bd}(h:l.length=2): ∃ a b,l= [a,b]:=by
 match l,h with
 | [a,b],_=>exact⟨a,b,rfl⟩
theorem Qr (v:Value)(l:Lit)(h:keyOf prog 235 v=some l): ∃ o n,v= .agg #[.int .i64 o,.string n]∧(Lit.int .i64 o).wf=true∧n.size≤maxLen∧l= .string (keyBytes [.int .i64 o,.string n.data.toList]):=by
 unfold keyOf at h;rw[underlying235] at h;simp only at h;split at h
 ·rename_i hf;simp only[Bool.and_eq_true] at hf;rw[hN,Z0 underlying235] at h;split at h
  ·rename_i V;obtain⟨V,_⟩:=V;rw[hQ] at V;obtain⟨x,y,D5⟩:=avN V;rw[D5] at h;simp only[List.mapM_cons,List.mapM_nil,c3,c2,List.drop_succ_cons,List.drop_zero,List.take_succ_cons,List.take_zero,Option.bind_eq_bind,Option.pure_def] at h;cases h1:prog.keyLits (prog.types.size-1+1) 3 [x] with
   |none=>rw[h1] at h;cases h
   |some mb=>
    cases B:prog.keyLits (prog.types.size-1+1) 9 [y] with
    |none=>rw[h1,B] at h;cases h
    |some mL=>
     rw[h1,B] at h;obtain⟨o,bF,jt,rfl⟩:=avL underlying3 h1;obtain⟨n,bJ,ju,rfl⟩:=avM underlying9 B;cases bF;cases bJ;refine⟨o,n,?_,jt,ju,?_⟩
     ·have hf:=hf.2;unfold Value.formed at hf;split at hf
      ·rename_i aj _;congr 1;exact Array.toList_inj.1 D5
      ·cases hf
      ·rw[underlying235] at hf;cases hf
     ·simpa using h.symm
  ·cases h
 ·cases h
theorem G2 {o:Int}{n:ByteArray}(h1: (Lit.int .i64 o).wf=true)(B:n.size≤maxLen):keyOf prog 235 (.agg #[.int .i64 o,.string n])=some (.string (keyBytes [.int .i64 o,.string n.data.toList])):=by
 have I:prog.keyType 235=true:=by kernel_rfl
 unfold keyOf;rw[underlying235];simp only;rw[if_pos (by rw[I];unfold Value.formed;simp only[underlying235,hQ];rfl),hN,Z0 underlying235,if_pos ⟨by rw[hQ];rfl,by kernel_rfl⟩];have bF:prog.keyLits (prog.types.size-1+1) 3 [.int .i64 o]=some [.int .i64 o]:=by
  rw[Program.keyLits.eq_def];simp only[underlying3,h1,and_self,if_true]
 have bJ:prog.keyLits (prog.types.size-1+1) 9 [.string n]=some [.string n.data.toList]:=by
  rw[Program.keyLits.eq_def];simp only[underlying9,B,if_true]
 simp only[Value.cells,List.mapM_cons,List.mapM_nil,c3,c2,List.drop_succ_cons,List.drop_zero,List.take_succ_cons,List.take_zero,bF,bJ,Option.bind_eq_bind,Option.pure_def];rfl
theorem Qq:Keyed prog 235:=Keyed.of_law (deep_law_gate (by kernel_rfl) (of_decide_eq_true (by kernel_rfl)) (of_decide_eq_true (by kernel_rfl)) (by kernel_rfl) (by kernel_rfl))
end Go.Proofs.YtpincjkjoeopkaaGreatDoor
