/- Time evaluation. -/
import Derived.Test.YtpincjkjoeopkaaGreatDoorC14
import Derived.Lib.LaidTab
import Derived.Test.YtpincjkjoeopkaaGreatDoorRows
import Derived.Lib.LaidU8
import Derived.Shelf.Sort.Plain
import Derived.Shelf.Slices.In.SortNone
import Derived.Shelf.Slices.CompactI
import Derived.Lib.SlicesCompact
import Derived.Shelf.SlIterI.Sorted
import Derived.Shelf.SlIterI.Keys
import Derived.Test.YtpincjkjoeopkaaGreatDoorC8
import Derived.Test.YtpincjkjoeopkaaGreatDoorC7
import Derived.DeepKeys5
set_option linter.all false
namespace Go.Proofs.YtpincjkjoeopkaaGreatDoor
open Go Go.Abs Go.Proofs.Tryz
open Go.RowKit (Below)
def eM:List Int:=[31,28,31,30,31,30,31,31,30,31,30,31]
def js (w:World)(g:Nat)(k:IntKind)(ce:List Int):Prop:= ∃t M,w.heap[g]? =some (.cells (ce.map λM=>Value.int k M).toArray t M)
instance:dE where
 B:=False
 n:=1
 H:=λw=>js w 0 .i64 eM
 oI:=by
  rintro w w' h ⟨t,M,d⟩;exact⟨t,M,by rw[h 0 (by decide)];exact d⟩
def zW (y:Int):Bool:=decide (y%4=0)&&(!decide (y%100=0)||decide (y%400=0))
def hZ (y m:Int):Int:=if m=2/\zW y=true then 29 else eM.getD (m-1).toNat 0
theorem kW {w:World}{g:Nat}{k:IntKind}{ce:List Int}(h:js w g k ce){c:Nat}{M:Int}(ba:ce[c]? =some M):w.cell? ⟨g,c,none⟩=some (.int k M):=by
 obtain⟨t,PI,h⟩:=h;unfold World.cell?;simp[h,ba]
def ER (y:Int):Int:=if zW y=true then 29 else 28
theorem YS {y:Int}(h:y%4=0/\(¬y%100=0\/(y%400==0)=true)):ER y=29:=by
 rw[aLu] at h;rw[ER,Rc];simp only[zW,aKJ,aLP,aMH,aKN,aLX];omega
theorem YT {y:Int}(h:¬y%4=0\/(y%100=0/\(y%400==0)=false)):ER y=28:=by
 rw[aLO] at h;rw[ER,S];simp only[zW,aKJ,aLP,aMH,aKN,aLX];omega
theorem aur (y:Int)(w:World)(h:js w 0 .i64 eM):Calls prog 255 #[.int .i64 y,.int .i64 1] w λe w'=>e= .returned (.int .i64 31)/\w'=w:=by
 have ad:=kW h (c:=0) rfl;clear h
 go_enter func255,ntmps255
 go_wp2
 go_ret
 exact⟨rfl,rfl⟩
theorem aus (y:Int)(w:World)(h:js w 0 .i64 eM):Calls prog 255 #[.int .i64 y,.int .i64 3] w λe w'=>e= .returned (.int .i64 31)/\w'=w:=by
 have ad:=kW h (c:=2) rfl;clear h
 go_enter func255,ntmps255
 go_wp2
 go_ret
 exact⟨rfl,rfl⟩
theorem aut (y:Int)(w:World)(h:js w 0 .i64 eM):Calls prog 255 #[.int .i64 y,.int .i64 4] w λe w'=>e= .returned (.int .i64 30)/\w'=w:=by
 have ad:=kW h (c:=3) rfl;clear h
 go_enter func255,ntmps255
 go_wp2
 go_ret
 exact⟨rfl,rfl⟩
theorem auu (y:Int)(w:World)(h:js w 0 .i64 eM):Calls prog 255 #[.int .i64 y,.int .i64 5] w λe w'=>e= .returned (.int .i64 31)/\w'=w:=by
 have ad:=kW h (c:=4) rfl;clear h
 go_enter func255,ntmps255
 go_wp2
 go_ret
 exact⟨rfl,rfl⟩
theorem auv (y:Int)(w:World)(h:js w 0 .i64 eM):Calls prog 255 #[.int .i64 y,.int .i64 6] w λe w'=>e= .returned (.int .i64 30)/\w'=w:=by
 have ad:=kW h (c:=5) rfl;clear h
 go_enter func255,ntmps255
 go_wp2
 go_ret
 exact⟨rfl,rfl⟩
theorem auw (y:Int)(w:World)(h:js w 0 .i64 eM):Calls prog 255 #[.int .i64 y,.int .i64 7] w λe w'=>e= .returned (.int .i64 31)/\w'=w:=by
 have ad:=kW h (c:=6) rfl;clear h
 go_enter func255,ntmps255
 go_wp2
 go_ret
 exact⟨rfl,rfl⟩
theorem aux (y:Int)(w:World)(h:js w 0 .i64 eM):Calls prog 255 #[.int .i64 y,.int .i64 8] w λe w'=>e= .returned (.int .i64 31)/\w'=w:=by
 have ad:=kW h (c:=7) rfl;clear h
 go_enter func255,ntmps255
 go_wp2
 go_ret
 exact⟨rfl,rfl⟩
theorem auy (y:Int)(w:World)(h:js w 0 .i64 eM):Calls prog 255 #[.int .i64 y,.int .i64 9] w λe w'=>e= .returned (.int .i64 30)/\w'=w:=by
 have ad:=kW h (c:=8) rfl;clear h
 go_enter func255,ntmps255
 go_wp2
 go_ret
 exact⟨rfl,rfl⟩
theorem auz (y:Int)(w:World)(h:js w 0 .i64 eM):Calls prog 255 #[.int .i64 y,.int .i64 10] w λe w'=>e= .returned (.int .i64 31)/\w'=w:=by
 have ad:=kW h (c:=9) rfl;clear h
 go_enter func255,ntmps255
 go_wp2
 go_ret
 exact⟨rfl,rfl⟩
theorem auA (y:Int)(w:World)(h:js w 0 .i64 eM):Calls prog 255 #[.int .i64 y,.int .i64 11] w λe w'=>e= .returned (.int .i64 30)/\w'=w:=by
 have ad:=kW h (c:=10) rfl;clear h
 go_enter func255,ntmps255
 go_wp2
 go_ret
 exact⟨rfl,rfl⟩
theorem auB (y:Int)(w:World)(h:js w 0 .i64 eM):Calls prog 255 #[.int .i64 y,.int .i64 12] w λe w'=>e= .returned (.int .i64 31)/\w'=w:=by
 have ad:=kW h (c:=11) rfl;clear h
 go_enter func255,ntmps255
 go_wp2
 go_ret
 exact⟨rfl,rfl⟩
theorem auC (y:Int)(h0:0<=y)(w:World)(h:js w 0 .i64 eM):Calls prog 255 #[.int .i64 y,.int .i64 2] w λe w'=>e= .returned (.int .i64 (ER y))/\w'=w:=by
 have ad:=kW h (c:=1) rfl;clear h
 go_enter func255,ntmps255
 go_wp2
 ·rename_i a b J
  go_ret
  exact⟨by rw[YS ⟨a,.inr J⟩];rfl,rfl⟩
 ·rename_i a b J
  go_ret
  exact⟨by rw[YT (.inr ⟨b,J⟩)];rfl,rfl⟩
 ·rename_i a b
  go_ret
  exact⟨by rw[YS ⟨a,.inl b⟩];rfl,rfl⟩
 ·rename_i a
  go_ret
  exact⟨by rw[YT (.inl a)];rfl,rfl⟩
theorem ES (y m:Int)(h0:0<=y)(d:1<=m)(G:m<=12):aO prog 255 [.int .i64 y,.int .i64 m] [] (λv rs=>v= .int .i64 (hZ y m)/\rs=[]):=by
 refine aO.D2 ?_;rintro C dA N aA ⟨_,_,ht⟩ dv;simp only[aE,Rep] at dv;obtain⟨aMp,aKO,rfl,rfl,rU,cY,rfl,rfl,rfl⟩:=dv;have key:∀{M:Int},hZ y m=M->(Calls prog 255 #[.int .i64 y,.int .i64 m] C.w λe w'=>e= .returned (.int .i64 M)/\w'=C.w)->
  Calls prog 255 [Value.int .i64 y,.int .i64 m].toArray C.w λe w'=> ∃aZ v,e= .returned aZ/\(Below C.w.heap.size C.w w'/\C.w.drawn<=w'.drawn)/\(∀aB:bD,jB C aB->Rep aB v aZ)/\v= .int .i64 (hZ y m)/\ []=([]:List Z):=by
  intro M ba h;refine h.mono ?_;rintro e w' ⟨rfl,rfl⟩;exact⟨_,.int .i64 M,rfl,⟨Below.refl _ _,aKM _⟩,λaB _=>by rw[Rep],by rw[ba],rfl⟩
 obtain rfl|rfl|rfl|rfl|rfl|rfl|rfl|rfl|rfl|rfl|rfl|rfl:m=1\/m=2\/m=3\/m=4\/m=5\/m=6\/m=7\/m=8\/m=9\/m=10\/m=11\/m=12:=by omega
 ·exact key (by simp[hZ,eM]) (aur y C.w ht)
 ·exact key (by simp[hZ,eM,ER]) (auC y h0 C.w ht)
 ·exact key (by simp[hZ,eM]) (aus y C.w ht)
 ·exact key (by simp[hZ,eM]) (aut y C.w ht)
 ·exact key (by simp[hZ,eM]) (auu y C.w ht)
 ·exact key (by simp[hZ,eM]) (auv y C.w ht)
 ·exact key (by simp[hZ,eM]) (auw y C.w ht)
 ·exact key (by simp[hZ,eM]) (aux y C.w ht)
 ·exact key (by simp[hZ,eM]) (auy y C.w ht)
 ·exact key (by simp[hZ,eM]) (auz y C.w ht)
 ·exact key (by simp[hZ,eM]) (auA y C.w ht)
 ·exact key (by simp[hZ,eM]) (auB y C.w ht)
theorem auD {w:World}{I:String}{B:DataW Unit}(h:Lib.VarReads prog w I B){g:Nat}{t e:TypeId}{n:Nat}{k:IntKind}{ce:List Int}(ay:B=Lib.tabData k ce)
 (aw:prog.globalNamed I=some g) (auE: (prog.globals[g]?).map (·.type)=some t) (ht:prog.underlying t=some (.array n e)) (he:prog.underlying e=some (.int k)) (auF:prog.cellsOf e=1) (QS:prog.cellsOf t=n):js w g k ce:=by
 subst ay;obtain⟨zX,tC,ap,hH,p,HA,auG,HB,auH⟩:=h;obtain rfl:=aMY (aw.symm.trans HA);obtain rfl:=aMY (auE.symm.trans auG);have eK:=Lib.cells_of_tab ht he auF QS auH;unfold World.var? at HB;rw[aw,aPU] at HB;split at HB
 ·rename_i ge cO PI hh;cases HB;refine⟨cO,PI,?_⟩;rw[hh,<-eK]
 ·cases HB
set_option maxRecDepth 100000 in
theorem gok_of_laid {w:World}(h:laidMet prog Rows.timesheetLimitsRow.laid w):GOk (ctx0 w):=by
 have d:js w 0 .i64 eM:=auD (Lib.laidMet.reads h (List.Mem.head _)) (t:=394) (e:=3) (n:=12) (by rfl) (by kernel_rfl) (by kernel_rfl) underlying394 underlying3 (by kernel_rfl) (by kernel_rfl);refine⟨?_,λb af z J ad=>by simp[ctx0] at ad,d⟩;obtain⟨t,M,G⟩:=d;show 1<=w.heap.size;rcases aNa 0 w.heap.size with h|h
 ·exact h
 ·rw[aO6 h] at G;cases G
theorem bQ {bj:Type}{l t:List bj}{c:Nat}{x:bj}(h:l[c]? =some x): (l++t)[c]? =some x:=by
 rw[aPa (aLy.1 h).1,h]
theorem dO {bj:Type}{l t:List bj}{k:Nat}: (l++t)[l.length+k]? =t[k]? :=by
 rw[aNy (by omega)];simp
theorem dH {bj:Type}{l t:List bj}: (l++t)[l.length]? =t[0]? :=by
 rw[aNy (by omega)];simp
theorem ee {bj:Type}{l t:List bj}{k:Nat}{x:bj}: (l++t).set (l.length+k) x=l++t.set k x:=by
 rw[aOs _ _ (by omega)];simp
theorem ec {bj:Type}{l t:List bj}{x:bj}: (l++t).set l.length x=l++t.set 0 x:=by
 rw[aOs _ _ (by omega)];simp
theorem tF {bj:Type}{l t:List bj}{k:Nat}{x y:bj}(h:l[k]? =some y): (l++t).set k x=l.set k x++t:=List.set_append_left _ _ (aLy.1 h).1
def de (f:Int->F)(Y:List Int):List (F×F):=Y.map λk=>(.int .i64 k,f k)
def ek (k:Int)(Y:List Int):List Int:=if k∈Y then Y else Y++[k]
theorem EW {f:Int->F}{k:Int}:∀{l:List Int},dm (.int .i64 k) (de f l)=if k∈l then some (f k) else none
 | []=>by simp[de,dm]
 |p::l=>by
  have ih:=EW (f:=f) (k:=k) (l:=l);unfold de at *;rw[aKP,dm];have:fB (.int .i64 k) (.int .i64 p)=(k==p):=by simp[fB,cp,ed]
  simp only[this]
  by_cases O:k=p
  ·subst O;simp
  ·simp only[aLu,O,aLi,ih,aKV,aMX]
theorem EX {f g:Int->F}{k:Int}(vj:∀x,x≠k->f x=g x):∀{l:List Int},l.Nodup->dy (.int .i64 k) (g k) (de f l)=de g (ek k l)
 | [],_=>by simp[de,dy,ek]
 |p::l,hl=>by
  rw[aNv] at hl;have ih:=EX vj hl.2;unfold de ek at *;rw[aKP,dy];have:fB (.int .i64 k) (.int .i64 p)=(k==p):=by simp[fB,cp,ed]
  simp only[this]
  by_cases O:k=p
  ·subst O;simp;exact λa aC=>vj a (λe=>hl.1 (e▸aC))
  ·simp only[aLu,O,aLi,ih,aKV,aMX];split<;>simp[vj p (λe=>O e.symm)]
theorem CO {k x:Int}{Y:List Int}:x∈ek k Y↔x=k\/x∈Y:=by
 unfold ek;split
 ·constructor
  ·exact .inr
  ·rintro (rfl|h)
   ·assumption
   ·exact h
 ·rw[aK3,aK2];exact Or.comm
theorem E4 {k:Int}{Y:List Int}(h:Y.Nodup): (ek k Y).Nodup:=by
 unfold ek;split
 ·exact h
 ·rename_i O;rw[aNP];exact⟨h,by simp,λa aC b af=>by rw[aK2] at af;subst af;exact λe=>O (e▸aC)⟩
def tE (k:Bool):TypeId:=if k then 132 else 78
def hy (X:Int->Bool->Nat)(bf:Int->Bool->List (List F))(B:Int)(k:Bool):F:=if (bf B k).length=0 then .bH else .own (X B k) (bf B k).length 0 (bf B k).length
def nI (X:Int->Bool->Nat)(bf:Int->Bool->List (List F))(B:Int):F:= .agg [.int .i64 B,hy X bf B false,hy X bf B true]
structure rz (r:List Z) (I m:Nat) (R ab:Int) (Y:List Int) (bf:Int->Bool->List (List F)) (X:Int->Bool->Nat):Prop where
 all:jP r
 I:r[I]? =some (.ag 118 3 [[.int .i64 R,.int .i64 ab,.bE m]])
 m:r[m]? =some (.be (.map false [.int .i64] (de (nI X bf) Y)))
 HK:Y.Nodup
 ea:∀B k,bf B k≠ []->B∈Y
 fX:∀B k,dY (bf B k)=true
 x:∀B k,bf B k≠ []->r[X B k]? =some (.ag (tE k) 2 (bf B k))
 inj:∀B k iy br,bf B k≠ []->bf iy br≠ []->X B k=X iy br->B=iy/\k=br
def gR (bf:Int->Bool->List (List F))(B:Int)(k:Bool)(J:List F)(iy:Int)(br:Bool):List (List F):=if iy=B/\br=k then bf B k++[J] else bf iy br
def sy (X:Int->Bool->Nat)(B:Int)(k:Bool)(q:Nat)(iy:Int)(br:Bool):Nat:=if iy=B/\br=k then q else X iy br
theorem EV {r t:List Z}(h:jP r)(ht:∀bG∈t,jc (r.length+t.length) bG=true):jP (r++t):=by
 intro z bG N;rw[aKK];rw[aK9] at N;split at N
 ·exact Qx (by omega) (h z bG N)
 ·exact ht _ (aMA N)
theorem Co {r:List Z}(h:jP r){k:Nat}{y:Z}(bt:jc r.length y=true):jP (r.set k y):=by
 intro z bG N;rw[aLg];rw[aKQ] at N;split at N
 ·split at N
  ·cases N;exact bt
  ·cases N
 ·exact h z bG N
theorem LQ {n:Nat}{f:Int->F}:∀{l:List Int},(∀B∈l,dt n (f B)=true)->nG n (de f l)=true
 | [],_=>rfl
 |B::l,h=>by
  show (dt n (.int .i64 B)&&dt n (f B)&&nG n (de f l))=true;rw[h B aLa,LQ λx aj=>h x (aK1 _ aj)];rfl
theorem Ra {n:Nat}{X:Int->Bool->Nat}{bf:Int->Bool->List (List F)}(h:∀B k,bf B k≠ []->X B k<n)(B:Int)(k:Bool):dt n (hy X bf B k)=true:=by
 unfold hy;split
 ·rfl
 ·rename_i an;simp only[dt,aKN];exact h B k λe=>an (by rw[e];rfl)
theorem avi {n:Nat}{X:Int->Bool->Nat}{bf:Int->Bool->List (List F)}(h:∀B k,bf B k≠ []->X B k<n)(B:Int):dt n (nI X bf B)=true:=by
 unfold nI;simp only[dt,gx,Ra h,aK4]
theorem km {r:List Z}{c:Nat}{x:Z}(h:r[c]? =some x):c<r.length:=(aLy.1 h).1
theorem rz.mh {r W:List Z}{I m:Nat}{R ab:Int}{Y:List Int}{bf:Int->Bool->List (List F)}{X:Int->Bool->Nat}(h:rz r I m R ab Y bf X)(B:Int)(k:Bool)(J:List F)(ad:bU J=true)(q:Nat)
 (aV:bf B k≠ []->q=X B k) (iN:bf B k=[]->r.length<=q)
 (hW:jP W) (hm:W[m]? =some (.be (.map false [.int .i64] (de (nI (sy X B k q) (gR bf B k J)) (ek B Y)))))
 (aH:W[q]? =some (.ag (tE k) 2 (bf B k++[J]))) (bp:∀z bG,r[z]? =some bG->z≠m->z≠q->W[z]? =some bG):
 rz W I m R ab (ek B Y) (gR bf B k J) (sy X B k q):=by
 have zo:I≠m:=λe=>by have d:=h.I;rw[e,h.m] at d;cases d
 have ayW:I≠q:=λe=>by
  by_cases an:bf B k=[]
  ·have:=iN an;have:=km h.I;omega
  ·have d:=h.I;rw[e,aV an,h.x B k an] at d;simp only[aLj,Z.ag.injEq] at d;have:=d.2.1;omega
 have eZ:∀iy br,bf iy br≠ []-> ¬(iy=B/\br=k)->X iy br≠m/\X iy br≠q:=λiy br an hne=>by
  have d:=h.x iy br an;refine⟨λe=>(by rw[e,h.m] at d;cases d),λe=> ?_⟩
  by_cases jZ:bf B k=[]
  ·have:=iN jZ;have:=km d;omega
  ·exact hne (h.inj iy br B k an jZ (e.trans (aV jZ)))
 refine⟨hW,bp I _ h.I zo ayW,hm,E4 h.HK,λiy br an=> ?_,λiy br=> ?_,λiy br an=> ?_,λaLA bO ky cd d G he=> ?_⟩
 ·unfold gR at an;rw[CO];split at an
  ·rename_i e;exact .inl e.1
  ·exact .inr (h.ea iy br an)
 ·unfold gR;split
  ·rw[P2,h.fX];simp[dY,ad]
  ·exact h.fX iy br
 ·unfold gR sy at *
  by_cases e:iy=B/\br=k
  ·rw[Rc e,Rc e,e.2];exact aH
  ·rw[S e] at an ⊢;rw[S e];obtain⟨a,b⟩:=eZ iy br an e;exact bp _ _ (h.x iy br an) a b
 ·unfold gR at d G;unfold sy at he
  by_cases bF:aLA=B/\bO=k<;>by_cases bK:ky=B/\cd=k
  ·exact⟨bF.1.trans bK.1.symm,bF.2.trans bK.2.symm⟩
  ·rw[S bK] at G;rw[Rc bF,S bK] at he;exact absurd he.symm (eZ ky cd G bK).2
  ·rw[S bF] at d;rw[S bF,Rc bK] at he;exact absurd he (eZ aLA bO d bF).2
  ·rw[S bF] at d;rw[S bK] at G;rw[S bF,S bK] at he;exact h.inj _ _ _ _ d G he
def gf (r W:List Z)(m:Nat):Prop:=r.length<=W.length/\ ∀z bG,r[z]? =some bG->z≠m->(∀k am,bG≠ .ag (tE k) 2 am)->W[z]? =some bG
theorem gf.refl {r:List Z}{m:Nat}:gf r r m:=⟨aKM _,λ_ _ h _ _=>h⟩
theorem gf.trans {a b J:List Z}{m:Nat}(h:gf a b m)(k:gf b J m):gf a J m:=⟨aLk h.1 k.1,λz bG d G au=>k.2 z bG (h.2 z bG d G au) G au⟩
theorem rz.ext {r t:List Z}{I m:Nat}{R ab:Int}{Y:List Int}{bf:Int->Bool->List (List F)}{X:Int->Bool->Nat}(h:rz r I m R ab Y bf X)(ht:∀bG∈t,jc (r.length+t.length) bG=true):rz (r++t) I m R ab Y bf X:=
 ⟨EV h.all ht,bQ h.I,bQ h.m,h.HK,h.ea,h.fX,λB k an=>bQ (h.x B k an),h.inj⟩
def hQ (r:List Z)(I m:Nat)(R ab:Int)(Y:List Int)(bf:Int->Bool->List (List F)):Prop:= ∃X,rz r I m R ab Y bf X
theorem gf.mh {r t:List Z}{m:Nat}:gf r (r++t) m:=⟨by simp,λz bG h _ _=>bQ h⟩
theorem Zh {X:Int->Bool->Nat}{bf:Int->Bool->List (List F)}{B:Int}{k:Bool}:cV (hy X bf B k)=true:=by
 unfold hy;split<;>rfl
theorem Zi {X:Int->Bool->Nat}{bf:Int->Bool->List (List F)}{Y:List Int}{ah:Int}(h:∀B k,bf B k≠ []->B∈Y):
 ∃il:Int,(dm (.int .i64 ah) (de (nI X bf) Y)).getD (.agg [.int .i64 0,.bH,.bH])= .agg [.int .i64 il,hy X bf ah false,hy X bf ah true]:=by
 rw[EW]
 by_cases ay:ah∈Y
 ·exact⟨ah,by rw[Rc ay];rfl⟩
 ·have an:∀k,bf ah k=[]:=λk=>by
   apply aOB;intro hne;exact ay (h ah k hne)
  exact⟨0,by rw[S ay];simp[hy,an]⟩
theorem ave {X:Int->Bool->Nat}{bf:Int->Bool->List (List F)}{Y:List Int}{ah:Int}{J:List F}{q:Nat}(aH:Y.Nodup)(k:Bool)(v:F)(an:v=nI (sy X ah k q) (gR bf ah k J) ah):
 dy (.int .i64 ah) v (de (nI X bf) Y)=de (nI (sy X ah k q) (gR bf ah k J)) (ek ah Y):=by
 rw[an];refine EX (λx aj=> ?_) aH;have bF:∀br,sy X ah k q x br=X x br:=λbr=>by unfold sy;rw[S (λe=>aj e.1)]
 have bK:∀br,gR bf ah k J x br=bf x br:=λbr=>by unfold gR;rw[S (λe=>aj e.1)]
 unfold nI hy;rw[bF,bF,bK,bK]
theorem avf {X:Int->Bool->Nat}{bf:Int->Bool->List (List F)}{B:Int}{J:List F}{q:Nat}(k:Bool):
 nI (sy X B k q) (gR bf B k J) B= .agg [.int .i64 B,if k then hy X bf B false else .own q ((bf B k).length+1) 0 ((bf B k).length+1),if k then .own q ((bf B k).length+1) 0 ((bf B k).length+1) else hy X bf B true]:=by
 unfold nI hy sy gR;cases k<;>simp
def ym (X:Int->Bool->Nat)(bf:Int->Bool->List (List F))(Y:List Int)(B:Int)(v:F):Z:= .be (.map false [.int .i64] (dy (.int .i64 B) v (de (nI X bf) Y)))
theorem rz.lt {r:List Z}{I m:Nat}{R ab:Int}{Y:List Int}{bf:Int->Bool->List (List F)}{X:Int->Bool->Nat}(h:rz r I m R ab Y bf X)(B:Int)(k:Bool)(an:bf B k≠ []):X B k<r.length:=km (h.x B k an)
theorem Zj {r W:List Z}{I m:Nat}{R ab:Int}{Y:List Int}{bf:Int->Bool->List (List F)}{X:Int->Bool->Nat}(h:rz r I m R ab Y bf X)(B:Int)(k:Bool)(J:List F)(ad:bU J=true)(q:Nat)(v:F)
 (an:v= .agg [.int .i64 B,if k then hy X bf B false else .own q ((bf B k).length+1) 0 ((bf B k).length+1),if k then .own q ((bf B k).length+1) 0 ((bf B k).length+1) else hy X bf B true])
 (aV:bf B k≠ []->q=X B k) (iN:bf B k=[]->r.length<=q) (hW:jP W) (hl:r.length<=W.length) (aH:W[q]? =some (.ag (tE k) 2 (bf B k++[J]))) (bp:∀z bG,r[z]? =some bG->z≠q->W[z]? =some bG):
 gf r (W.set m (ym X bf Y B v)) m/\hQ (W.set m (ym X bf Y B v)) I m R ab (ek B Y) (gR bf B k J):=by
 have avg:m≠q:=λe=>by
  by_cases jZ:bf B k=[]
  ·have:=iN jZ;have:=km h.m;omega
  ·have d:=h.m;rw[e,aV jZ,h.x B k jZ] at d;cases d
 have avh:m<W.length:=aLI (km h.m) hl;have Cn:ym X bf Y B v= .be (.map false [.int .i64] (de (nI (sy X B k q) (gR bf B k J)) (ek B Y))):=by
  unfold ym;rw[ave (J:=J) (q:=q) h.HK k v (by rw[an,avf])]
 have Zk:∀z bG,r[z]? =some bG->z≠m->z≠q->(W.set m (ym X bf Y B v))[z]? =some bG:=λz bG d G au=>by
  rw[aKQ,S (λe=>G e.symm)];exact bp z bG d au
 refine⟨⟨by rw[aLg];exact hl,λz bG d G au=>Zk z bG d G λe=> ?_⟩,sy X B k q,h.mh B k J ad q aV iN ?_ ?_ ?_ Zk⟩
 ·by_cases jZ:bf B k=[]
  ·have:=iN jZ;have:=km d;omega
  ·rw[e,aV jZ,h.x B k jZ] at d;exact au k _ (aMY d).symm
 ·refine Co hW ?_;rw[Cn];refine LQ λx _=>avi (λiy br df=> ?_) x;unfold gR at df;unfold sy;split
  ·exact km aH
  ·rename_i e;rw[S e] at df;exact aLI (h.lt iy br df) hl
 ·rw[aKQ,Rc rfl,Rc avh,Cn]
 ·rw[aKQ,S avg];exact aH
theorem Zl {r aW:List Z}{I m:Nat}{R ab:Int}{Y:List Int}{bf:Int->Bool->List (List F)}{X:Int->Bool->Nat}(h:rz r I m R ab Y bf X)(B:Int)(k:Bool)(J:List F)(ad:bU J=true)(j:Nat)(v:F)
 (jZ:bf B k=[]) (an:v= .agg [.int .i64 B,if k then hy X bf B false else .own (r.length+j) 1 0 1,if k then .own (r.length+j) 1 0 1 else hy X bf B true])
 (hN:aW[j]? =some (.ag (tE k) 2 [J])) (Q9:∀bG∈aW,jc (r.length+aW.length) bG=true):
 gf r ((r++aW).set m (ym X bf Y B v)) m/\hQ ((r++aW).set m (ym X bf Y B v)) I m R ab (ek B Y) (gR bf B k J):=
 Zj h B k J ad (r.length+j) v (by rw[an,jZ];rfl) (λe=>absurd jZ e) (λ_=>by omega) (EV h.all Q9) (by simp) (by rw[dO,hN,jZ];rfl) λz bG d _=>bQ d
theorem Zm {r aW:List Z}{I m:Nat}{R ab:Int}{Y:List Int}{bf:Int->Bool->List (List F)}{X:Int->Bool->Nat}(h:rz r I m R ab Y bf X)(B:Int)(k:Bool)(J:List F)(ad:bU J=true)(v:F)
 (jZ:bf B k≠ []) (an:v= .agg [.int .i64 B,if k then hy X bf B false else .own (X B k) ((bf B k).length+1) 0 ((bf B k).length+1),if k then .own (X B k) ((bf B k).length+1) 0 ((bf B k).length+1) else hy X bf B true])
 (Q9:∀bG∈aW,jc (r.length+aW.length) bG=true):
 gf r ((r.set (X B k) (.ag (tE k) 2 (bf B k++[J]))++aW).set m (ym X bf Y B v)) m/\hQ ((r.set (X B k) (.ag (tE k) 2 (bf B k++[J]))++aW).set m (ym X bf Y B v)) I m R ab (ek B Y) (gR bf B k J):=by
 have hl:=h.lt B k jZ;have av:jP (r.set (X B k) (.ag (tE k) 2 (bf B k++[J]))):=Co h.all (kA (by rw[P2,h.fX];simp[dY,ad]));refine Zj h B k J ad (X B k) v an (λ_=>rfl) (λe=>absurd e jZ) (EV av (by rw[aLg];exact Q9)) (by simp) ?_ λz bG d G=>bQ ?_
 ·refine bQ ?_;rw[aKQ,Rc rfl,Rc hl]
 ·rw[aKQ,S (λe=>G e.symm)];exact d
theorem Q8 {r:List Z}{I m:Nat}{R ab:Int}{Y:List Int}{bf:Int->Bool->List (List F)}(h0:hQ r I m R ab Y bf)(cU:∀B k,(bf B k).length<=1000000)(ah:Int)(ef:ByteArray)(cN:Int):
 aO prog 118 [.bd I 1 0 0,.int .i64 ah,.agg [.str ef,.int .i64 cN]] r
  (λv W=>v= .bo []/\gf r W m/\if R<=ah/\ah<=ab then hQ W I m R ab (ek ah Y) (gR bf ah false [.str ef,.int .i64 cN]) else hQ W I m R ab Y bf):=by
 obtain⟨X,h⟩:=h0;refine cu func118 Zn (by simp[Cp,EY]) ?_;have ao:=h.I;have hm:=h.m
 by_cases ay:R<=ah/\ah<=ab
 rotate_left
 ·have key:∀(t:List Z),(∀bG∈t,jc (r.length+t.length) bG=true)->gf r (r++t) m/\if R<=ah/\ah<=ab then hQ (r++t) I m R ab (ek ah Y) (gR bf ah false [.str ef,.int .i64 cN]) else hQ (r++t) I m R ab Y bf:=λt ht=>
   ⟨gf.mh,by rw[S ay];exact⟨X,h.ext ht⟩⟩
  by_cases aLA:ah<R
  ·simp only[go_sem,Cp,EY,aKT,bQ ao,aLA];exact i ⟨rfl,key _ (by simp[jc,mj,gx,dt])⟩
  ·have ky:ab<ah:=by omega
   simp only[go_sem,Cp,EY,aKT,bQ ao,aLA,ky];exact i ⟨rfl,key _ (by simp[jc,mj,gx,dt])⟩
 have aLA:¬ah<R:=by omega
 have ky:¬ab<ah:=by omega
 obtain⟨il,vb⟩:=Zi (X:=X) (ah:=ah) h.ea;have avj:=cU ah false;have d:cV (hy X bf ah true)=true:=Zh;have vP:∀n,r.length<=n->dt n (hy X bf ah true)=true:=λn aH=>Hb aH _ (Ra h.lt ah true)
 by_cases an:bf ah false=[]
 ·have iI:hy X bf ah false= .bH:=by unfold hy;rw[an];rfl
  rw[iI] at vb;simp only[go_sem,Cp,EY,aKT,bQ ao,bQ hm,dO,dH,ee,ec,aKK,aLA,ky,vb,d];refine i ⟨rfl,?_⟩;rw[Rc ay];exact Zl h ah false _ rfl 3 _ an rfl rfl (by
   simp only[aKV,aNf,aNt,aN9,aOa,jc,mj,gx,dt,vP _ (aNs _ _),aK8,aLQ,aK0,aLw,aKN,aMh,aMi];omega)
 ·have aj:=h.x ah false an;have ak:0<(bf ah false).length:=aNL.2 an;have iI:hy X bf ah false= .own (X ah false) (bf ah false).length 0 (bf ah false).length:=by unfold hy;rw[S (by omega)]
  rw[iI] at vb;simp only[go_sem,Cp,EY,aKT,bQ ao,bQ hm,bQ aj,dO,dH,ee,ec,aKK,aLA,ky,vb,d];refine⟨rfl,by omega,?_⟩;have ts:X ah false≠I:=λe=>(by rw[e,ao] at aj;simp only[aLj,Z.ag.injEq] at aj;omega);have Gl:X ah false≠m:=λe=>(by rw[e,hm] at aj;cases aj);have LR: (r.set (X ah false) (.ag 78 2 (bf ah false++[[.str ef,.int .i64 cN]])))[I]? =some (.ag 118 3 [[.int .i64 R,.int .i64 ab,.bE m]]):=by rw[aKQ,S ts];exact ao
  have ov: (r.set (X ah false) (.ag 78 2 (bf ah false++[[.str ef,.int .i64 cN]])))[m]? =some (.be (.map false [.int .i64] (de (nI X bf) Y))):=by rw[aKQ,S Gl];exact hm
  have nJ: (r.set (X ah false) (.ag 78 2 (bf ah false++[[.str ef,.int .i64 cN]]))).length=r.length:=aLg;have mX:=λ(aW:List Z) hN=>Zm (aW:=aW) h ah false [.str ef,.int .i64 cN] rfl _ an rfl hN;simp only[tF aj];have HL:∀n,r.length<=n->dt n (.own (X ah false) ((bf ah false).length+1) 0 ((bf ah false).length+1))=true:=λn aH=>by
   have:=h.lt ah false an;simp only[dt,aKN];omega
  simp only[show tE false=78 from rfl] at mX;generalize r.set (X ah false) (.ag 78 2 (bf ah false++[[.str ef,.int .i64 cN]]))=aF at *;simp only[<-nJ] at vP HL mX ⊢;simp only[go_sem,bQ LR,bQ ov,dO,dH,ee,ec,aKK,d];refine i ⟨rfl,?_⟩;rw[Rc ay];refine mX _ ?_;simp only[aKV,aNf,aNt,aN9,aOa,jc,mj,gx,dt,vP _ (aNs _ _),HL _ (aNs _ _),aK8,aLQ,aK0,aLw,aKN,aMh,aMi]
  all_goals (have:=h.lt ah false an;omega)
def auI:Go.Shelf.Ren:=
 {f:=λx=>match x with|189=>127|125=>158|257=>211|128=>241|129=>242|294=>263|295=>264|296=>265|297=>266|298=>267|299=>268|216=>269|300=>270|301=>271|328=>333|329=>290|330=>291|331=>334|332=>335|215=>159|343=>357|n=>n,
  t:=λx=>match x with|28=>47|3=>3|46=>284|0=>0|51=>347|53=>349|4=>4|183=>341|182=>340|131=>206|5=>5|9=>9|218=>376|222=>380|228=>412|229=>308|n=>n,
  g:=λn=>n}
set_option maxRecDepth 100000 in
theorem LJ:Lays.n189 prog auI where
 mixed:=by kernel_rfl
 f125:=aKL func158 (aKI some (by kernel_rfl))
 f128:=aKL func241 (aKI some (by kernel_rfl))
 f129:=aKL func242 (aKI some (by kernel_rfl))
 f189:=aKL func127 (aKI some (by kernel_rfl))
 f215:=aKL func159 (aKI some (by kernel_rfl))
 f216:=aKL func269 (aKI some (by kernel_rfl))
 f257:=aKL func211 (aKI some (by kernel_rfl))
 f294:=aKL func263 (aKI some (by kernel_rfl))
 f295:=aKL func264 (aKI some (by kernel_rfl))
 f296:=aKL func265 (aKI some (by kernel_rfl))
 f297:=aKL func266 (aKI some (by kernel_rfl))
 f298:=aKL func267 (aKI some (by kernel_rfl))
 f299:=aKL func268 (aKI some (by kernel_rfl))
 f300:=aKL func270 (aKI some (by kernel_rfl))
 f301:=aKL func271 (aKI some (by kernel_rfl))
 f328:=aKL func333 (aKI some (by kernel_rfl))
 f329:=aKL func290 (aKI some (by kernel_rfl))
 f330:=aKL func291 (aKI some (by kernel_rfl))
 f331:=aKL func334 (aKI some (by kernel_rfl))
 f332:=aKL func335 (aKI some (by kernel_rfl))
 f343:=aKL func357 (aKI some (by kernel_rfl))
 t0:=underlying0
 a0:=isAgg0
 z0:=sizeOf0
 v0:=zeroValue0
 t3:=underlying3
 a3:=isAgg3
 z3:=sizeOf3
 v3:=zeroValue3
 t4:=underlying4
 a4:=isAgg4
 z4:=sizeOf4
 v4:=zeroValue4
 t5:=underlying5
 a5:=isAgg5
 z5:=sizeOf5
 v5:=zeroValue5
 t9:=underlying9
 a9:=isAgg9
 z9:=sizeOf9
 v9:=zeroValue9
 t28:=underlying47
 a28:=isAgg47
 z28:=sizeOf47
 v28:=zeroValue47
 t46:=underlying284
 a46:=isAgg284
 z46:=sizeOf284
 v46:=zeroValue284
 t51:=underlying347
 a51:=isAgg347
 z51:=sizeOf347
 v51:=zeroValue347
 t53:=underlying349
 a53:=isAgg349
 z53:=sizeOf349
 v53:=zeroValue349
 t131:=underlying206
 a131:=isAgg206
 z131:=sizeOf206
 v131:=zeroValue206
 t182:=underlying340
 a182:=isAgg340
 z182:=sizeOf340
 v182:=zeroValue340
 t183:=underlying341
 a183:=isAgg341
 z183:=sizeOf341
 v183:=zeroValue341
 t218:=underlying376
 a218:=isAgg376
 z218:=sizeOf376
 v218:=zeroValue376
 t222:=underlying380
 a222:=isAgg380
 z222:=sizeOf380
 v222:=zeroValue380
 t228:=underlying412
 a228:=isAgg412
 z228:=sizeOf412
 v228:=zeroValue412
 t229:=underlying308
 a229:=isAgg308
 z229:=sizeOf308
 v229:=zeroValue308
def auJ:Go.Shelf.Ren:=
 {f:=λx=>match x with|20=>186|n=>n,
  t:=λx=>match x with|22=>47|3=>3|4=>4|0=>0|n=>n,
  g:=λn=>n}
set_option maxRecDepth 100000 in
theorem YU:Lays2.n20 prog auJ where
 mixed:=by kernel_rfl
 f20:=aKL func186 (aKI some (by kernel_rfl))
 t0:=underlying0
 a0:=isAgg0
 z0:=sizeOf0
 v0:=zeroValue0
 t3:=underlying3
 a3:=isAgg3
 z3:=sizeOf3
 v3:=zeroValue3
 t4:=underlying4
 a4:=isAgg4
 z4:=sizeOf4
 v4:=zeroValue4
 t22:=underlying47
 a22:=isAgg47
 z22:=sizeOf47
 v22:=zeroValue47
 i3:=by kernel_rfl
def fq (ce:List Int):List Int:=ce.mergeSort λx y=>decide (x<=y)
theorem zY (ce:List Int): (fq ce).length=ce.length:=by unfold fq;exact List.length_mergeSort ce
theorem QT (ce:List Int): (Lib.compact ce).length<=ce.length:=by
 unfold Lib.compact Lib.compactUpTo;rw[aLe];refine aLk (aNw _ _) ?_;simp
theorem auK (ce:List Int)(ba:ce.length<4611686018427387904):aO prog 127 [.own 0 ce.length 0 ce.length] [.ag 3 1 (cJ .i64 ce)] (λv rs=>v= .bo []/\rs=[.ag 3 1 (cJ .i64 (fq ce))]):=by
 by_cases h0:0<ce.length
 ·refine aO.inPlace (zY ce) h0 (λw b cap d G=> ?_);exact Any.slices_Sort_int LJ b 0 cap ce w d G ba
 ·obtain rfl:ce=[]:=aN5.1 (by omega);refine aO.D2 ?_;rintro C dA N aA hG dv;rw[aE] at dv;obtain⟨aMp,aKO,rfl,an,aH⟩:=dv;rw[aE] at aH;subst aH;rw[Rep] at an;obtain⟨_,⟨cy,J,rfl⟩,_⟩:=an;refine (calls_of_every_depth λaD=>AnyS.slices_Sort_int_none_in LJ aD cy J C.w).mono ?_;rintro e w' ⟨rfl,rfl⟩;exact⟨_,.bo [],rfl,⟨Below.refl _ _,aKM _⟩,λaB _=>by rw[Rep];exact⟨#[],rfl,by simp[aE]⟩,rfl,by simp[fq]⟩
theorem auL (ce:List Int)(ba:ce.length<4611686018427387904):aO prog 186 [.own 0 ce.length 0 ce.length] [.ag 3 1 (cJ .i64 ce)]
 (λv rs=>v= .own 0 ce.length 0 (Lib.compact ce).length/\rs=[.ag 3 1 (cJ .i64 (Lib.compact ce++List.replicate (ce.length-(Lib.compact ce).length) 0))]):=by
 have eA:=QT ce
 by_cases h0:0<ce.length
 ·refine aO.arR (by simp;omega) h0 eA (λw b cap d G au=> ?_);refine (Any.slices_Compact_int YU b 0 cap ce w d (by omega) au).mono ?_;rintro e w' ⟨rfl,q,rfl⟩;exact⟨rfl,q,#[],by simp[Go.Sort.grow];rfl⟩
 ·obtain rfl:ce=[]:=aN5.1 (by omega);refine aO.D2 ?_;rintro C dA N aA hG dv;rw[aE] at dv;obtain⟨aMp,aKO,rfl,an,aH⟩:=dv;rw[aE] at aH;subst aH;have df:=an;rw[Rep] at df;obtain⟨_,⟨cy,J,rfl⟩,_⟩:=df;refine (Any.slices_Compact_int_empty YU cy J C.w).mono ?_;rintro e w' ⟨rfl,rfl⟩;exact⟨_,.own 0 0 0 0,rfl,⟨Below.refl _ _,aKM _⟩,λaB aj=>Rep.ext aj _ _ an,rfl,rfl⟩
open Go.Maps
def abv:Go.Shelf.Ren:=
 {f:=λx=>match x with|6=>47|8=>126|9=>127|11=>210|13=>158|12=>211|23=>241|24=>242|14=>263|15=>264|16=>265|17=>266|18=>267|19=>268|20=>269|21=>270|22=>271|25=>333|26=>290|27=>291|28=>334|29=>335|30=>159|31=>357|n=>n,
  t:=λx=>match x with|26=>3|28=>125|24=>47|0=>0|3=>3|37=>284|48=>347|50=>349|4=>4|40=>341|39=>340|45=>206|5=>5|9=>9|51=>376|55=>380|57=>412|58=>308|33=>244|n=>n,
  g:=λn=>n}
set_option maxRecDepth 100000 in
theorem Sr:SlLaysZI.n6 prog abv where
 mixed:=by kernel_rfl
 f6:=⟨"slices.Sorted[int]",by decide,aKL func47 (aKI some (by kernel_rfl))⟩
 f8:=⟨"slices.Collect[int]",by decide,aKL func126 (aKI some (by kernel_rfl))⟩
 f11:=⟨"slices.AppendSeq[[]int,int]",by decide,aKL func210 (aKI some (by kernel_rfl))⟩
 t0:=underlying0
 a0:=isAgg0
 z0:=sizeOf0
 v0:=zeroValue0
 t24:=underlying47
 a24:=isAgg47
 z24:=sizeOf47
 v24:=zeroValue47
 t26:=underlying3
 a26:=isAgg3
 z26:=sizeOf3
 v26:=zeroValue3
 t28:=underlying125
 a28:=isAgg125
 z28:=sizeOf125
 v28:=zeroValue125
 i26:=by kernel_rfl
theorem My {C:bD}{b:Nat}:∀(ce:List Int) (V:Nat),(∀c (h:c<ce.length),C.w.cell? ⟨b,V+c,none⟩=some (.int .i64 ce[c]))->dh C b V 1 (cJ .i64 ce)
 | [],V,_=>by simp[cJ,dh]
 |M::ce,V,h=>by
  rw[cJ,aKP,dh];refine⟨rfl,?_,My ce (V+1) λc av=> ?_⟩
  ·rw[dC];refine⟨⟨.int .i64 M,h 0 (Nat.zero_lt_succ _),rfl,by rw[Rep]⟩,by rw[dC];trivial⟩
  ·have:=h (c+1) (by simpa using av);rw[show V+1+c=V+(c+1) by omega];simpa using this
theorem BZ {C:bD}:∀{ce:List Int} {vs:List Value},aE C (ce.map (F.int .i64 ·)) vs->vs=ce.map (Value.int .i64 ·)
 | [],vs,h=>by simpa[aE] using h
 |M::ce,vs,h=>by
  rw[aKP,aE] at h;obtain⟨v,bS,rfl,an,N⟩:=h;rw[Rep] at an;rw[aKP,<-BZ N,an]
theorem Ss (m:Nat):AnyZI.SortsIn prog abv Fence.wide m:=
 ⟨λoq off cap bV W uQ vL dJ=>callsIn_wide.2 (Any.slices_Sort_int LJ oq off cap bV W uQ vL dJ),
  λp cap W=>callsIn_wide.2 (calls_of_every_depth λaD=>AnyS.slices_Sort_int_none_in LJ aD p cap W)⟩
def Su:Value->Int
 | .int _ M=>M
 |_=>0
def abw:Go.Shelf.Ren:=
 {f:=λx=>match x with|7=>48|10=>128|n=>n,
  t:=λx=>match x with|23=>116|26=>3|3=>76|28=>125|0=>0|27=>124|33=>244|4=>4|n=>n,
  g:=λn=>n}
set_option maxRecDepth 100000 in
theorem axw:SlLaysZI.n7 prog abw where
 mixed:=by kernel_rfl
 f7:=⟨"maps.Keys[map[int]payroll/api.DayResult,int,payroll/api.DayResult]",by decide,aKL func48 (aKI some (by kernel_rfl))⟩
 f10:=⟨"maps.Keys[map[int]payroll/api.DayResult,int,payroll/api.DayResult]$1",by decide,aKL func128 (aKI some (by kernel_rfl))⟩
 t0:=underlying0
 a0:=isAgg0
 z0:=sizeOf0
 v0:=zeroValue0
 t4:=underlying4
 a4:=isAgg4
 z4:=sizeOf4
 v4:=zeroValue4
 t23:=underlying116
 a23:=isAgg116
 z23:=sizeOf116
 v23:=zeroValue116
 t26:=underlying3
 a26:=isAgg3
 z26:=sizeOf3
 v26:=zeroValue3
 t27:=underlying124
 a27:=isAgg124
 z27:=sizeOf124
 v27:=zeroValue124
 t28:=underlying125
 a28:=isAgg125
 z28:=sizeOf125
 v28:=zeroValue125
 t33:=underlying244
 a33:=isAgg244
 z33:=sizeOf244
 v33:=zeroValue244
theorem aba {r:List Z}{a b:Nat}{aW:TypeId}{ents:List (F×F)}{Y:List Int}(aC:r[a]? =some (.be (.map false [.int .i64] ents)))(af:r[b]? =some (.ag aW 1 [[.bE a]]))(O:ents.map (·.1)=Y.map (F.int .i64 ·))(ss:Y.Nodup)(ki:∀x∈Y,(Lit.int .i64 x).wf=true)(cK:Y.length<=1000000):
 aO prog 47 [.fn 128 [.bd b 1 0 0]] r
  (λv rs=>v= .pure 1 (cJ .i64 (fq Y))/\rs=r):=by
 refine aO.P5 (λh=>h) ?_;intro C dA N aA hG dv;have iV:C.r[a]? =some (.be (.map false [.int .i64] ents)):=by rw[N];exact aC
 have jS:C.r[b]? =some (.ag aW 1 [[.bE a]]):=by rw[N];exact af
 rw[aE] at dv;obtain⟨v0,bS,rfl,an,aH⟩:=dv;rw[aE] at aH;subst aH;rw[Rep] at an;obtain⟨vs,rfl,kU⟩:=an;rw[aE] at kU;obtain⟨RX,bS,Cz,ak,aH⟩:=kU;rw[aE] at aH;subst aH;rw[Rep] at ak;obtain⟨hC,_,_,hall⟩:=ak;obtain⟨_,G⟩:=hall _ _ _ jS;obtain⟨_,Bm,J,rl,rfl⟩:=G rfl;obtain rfl:vs= #[.pointer (some ⟨Bm,0,none⟩)]:=by
  apply aM7.1;rw[Cz]
 rcases aA.ag jS with ⟨_,qo⟩|⟨aKU,cap,ap,iK,zG,nE,eK,vK,eA,dp⟩
 ·cases qo
 rw[rl] at iK;simp only[aLj,aLH] at iK;obtain⟨rfl,rfl⟩:=iK;rw[dh,dC] at dp;obtain⟨⟨RY,nw,_,kD⟩,_⟩:=dp.2.1;rw[Rep] at kD;obtain⟨_,_,_,kD⟩:=kD;obtain⟨b0,c0,CA,rfl⟩:=kD _ iV;have mr:=aA.r _ _ iV;rw[dQ] at mr;obtain⟨RZ,R0,ar,qK,R1,lZ,sb,xq,Gh,Gi⟩:=mr;rw[CA] at qK;simp only[aLj,aLH] at qK;obtain⟨rfl,rfl⟩:=qK;have gO:ar.toList.map (·.key)=Y.map (Value.int .i64 ·):=BZ (by rw[<-O];exact xq);have dJ:ar.size=Y.length:=by
  have:=aKI List.length gO;simpa using this
 let aF:Value->Option (DataW Unit×List MemPlace):=λ_=>some (.nil,[])
 have Io:prog.underlying 3=some (.int .i64):=underlying3;have tP:∀x∈ar.toList,∃M:Int,x.key= .int .i64 M/\M∈Y/\Go.WideElems.rd prog 3 aF x=some (.int .i64 M,.nil):=by
  intro x aj;have:x.key∈Y.map (Value.int .i64 ·):=by rw[<-gO];exact aM2 aj
  obtain⟨M,ba,sD⟩:=aKZ.1 this;refine⟨M,sD.symm,ba,?_⟩;unfold Go.WideElems.rd;rw[<-sD,keyOf_int_mk Io (ki M ba)];rfl
 have uA:Go.WideElems.Fit prog 3 aF ar ar.size:=by
  refine⟨by rw[dJ];unfold maxLen;omega,⟨λx aj=> ?_,?_,?_⟩,λx aj=> ?_⟩
  ·obtain⟨c,av,rfl⟩:=aL9 aj;have:=sb c _ (by rw[<-aLJ,aKS av]);rw[this];simpa using av
  ·have:ar.toList.map (·.born)=List.range ar.size:=by
    refine aLT λc=> ?_
    by_cases av:c<ar.size
    ·rw[aLG,aLJ,aLN av,aMU av];simp[sb c _ (aLN av)]
    ·rw[aLB (by simp;omega),aLB (by simp;omega)]
   rw[this];exact aM8
  ·rw[gO];exact aMB.2 (ss.imp λh e=>h (by simpa using e))
  ·obtain⟨M,_,_,h⟩:=tP x aj;exact⟨_,h⟩
 let el:=ar.toList.map (Go.WideElems.rg prog 3 aF)
 let aD:DataW Unit:= .map (el.foldr DataW.insert [])
 have pK:C.w.ownsMap prog 3 aF b0 ar.size aD:=⟨ar,ar.size,lZ,uA,aKM _,rfl⟩;have wF:el.map (λp=>Go.intOf p.1)=Y:=by
  have:∀x∈ar.toList,((λp:Lit×DataW Unit=>Go.intOf p.1)∘Go.WideElems.rg prog 3 aF) x=(Su∘λx:MapEntry=>x.key) x:=by
   intro x aj;obtain⟨M,d,_,G⟩:=tP x aj;simp only[aMZ];rw[Go.WideElems.rg_of G,d];rfl
  show List.map _ (List.map _ ar.toList)=Y;rw[aLr,aMy this,<-aLr,gO,aLr];exact aOu Y
 have kV: (intKeys aD).Perm Y:=by
  rw[<-wF];exact (Go.WideShapes.sorted_perm el).map _
 have fS:Maps.size aD=Y.length:=by
  show (el.foldr DataW.insert []).length=_;rw[length_sorted,aLe,aLE,dJ]
 have vf:SeqGives Fence.wide 2 prog 128 #[.pointer (some ⟨Bm,0,none⟩)] encZ (λbV:List Int=>bV.Perm (intKeys aD)) (Maps.size aD) C.w:=
  AnyZI.keys_gives (ρ:=abw) {axw with} Fence.wide _ trivial rfl (by omega) Bm b0 ar.size aD C.w (aLp.1 nE).1 nw pK
 have CB:=AnyZI.sorted_in Sr Fence.wide 5 trivial trivial trivial trivial rfl (by omega) (Ss _) (enters_of func127 (by kernel_rfl) rfl) 128 #[.pointer (some ⟨Bm,0,none⟩)] trivial (enters_of func128 (by kernel_rfl) rfl) _ _ (by rw[fS];unfold maxLen;omega) (by rw[fS];omega) _ vf;refine (callsIn_wide.1 CB).mono ?_;rintro e w' ⟨v,bV,rfl,du,hrow,iW,af⟩;have CC: (bV.mergeSort leI)=fq Y:=mergeSort_of_perm_i (du.trans kV);have fF:bV.length=(fq Y).length:=by rw[zY];exact (du.trans kV).length_eq
 refine⟨v,_,rfl,af,λDp=> ?_,rfl,by rw[<-N]⟩;rw[Rep];rcases hrow.2 with ⟨rfl,ba⟩|⟨g,cap,oZ,rfl,Mz,ve,aKO,cY,fY,fc⟩
 ·exact⟨none,0,by rw[mV,<-fF,ba],by rw[mV,<-fF,ba];exact aKM _,.inl (by rw[mV,<-fF,ba])⟩
 ·refine⟨_,cap,by rw[mV,<-fF],by rw[mV,<-fF];exact aKO,.inr ⟨g,0,rfl,⟨(aLp.1 ve).1,λbp=> ?_,λz J h=> ?_⟩,?_⟩⟩
  ·have:=aA.bY _ bp;omega
  ·have:=aA.lt h;omega
  ·refine My (C:=bD.p _) _ _ λc av=> ?_;have d: (oZ.toList.take (bV.length*1))[c]? =((bV.mergeSort leI).map encZ)[c]? :=by rw[fc]
   rw[aOD (by rw[aNn,fF];exact av),aLG,CC,aKS av,aLJ] at d;show World.cell? w' _=_;simp only[World.cell?,ve,aL5];simpa using d
def abx:Go.Shelf.Ren:=
 {f:=λx=>match x with|7=>82|10=>168|n=>n,
  t:=λx=>match x with|23=>169|26=>3|3=>4|28=>125|0=>0|27=>124|33=>244|4=>4|n=>n,
  g:=λn=>n}
set_option maxRecDepth 100000 in
theorem axx:SlLaysZI.n7 prog abx where
 mixed:=by kernel_rfl
 f7:=⟨"maps.Keys[map[int]bool,int,bool]",by decide,aKL func82 (aKI some (by kernel_rfl))⟩
 f10:=⟨"maps.Keys[map[int]bool,int,bool]$1",by decide,aKL func168 (aKI some (by kernel_rfl))⟩
 t0:=underlying0
 a0:=isAgg0
 z0:=sizeOf0
 v0:=zeroValue0
 t4:=underlying4
 a4:=isAgg4
 z4:=sizeOf4
 v4:=zeroValue4
 t23:=underlying169
 a23:=isAgg169
 z23:=sizeOf169
 v23:=zeroValue169
 t26:=underlying3
 a26:=isAgg3
 z26:=sizeOf3
 v26:=zeroValue3
 t27:=underlying124
 a27:=isAgg124
 z27:=sizeOf124
 v27:=zeroValue124
 t28:=underlying125
 a28:=isAgg125
 z28:=sizeOf125
 v28:=zeroValue125
 t33:=underlying244
 a33:=isAgg244
 z33:=sizeOf244
 v33:=zeroValue244
theorem axy {r:List Z}{a b:Nat}{aW:TypeId}{ents:List (F×F)}{Y:List Int}(aC:r[a]? =some (.be (.map false [.int .i64] ents)))(af:r[b]? =some (.ag aW 1 [[.bE a]]))(O:ents.map (·.1)=Y.map (F.int .i64 ·))(ss:Y.Nodup)(ki:∀x∈Y,(Lit.int .i64 x).wf=true)(cK:Y.length<=1000000):
 aO prog 47 [.fn 168 [.bd b 1 0 0]] r
  (λv rs=>v= .pure 1 (cJ .i64 (fq Y))/\rs=r):=by
 refine aO.P5 (λh=>h) ?_;intro C dA N aA hG dv;have iV:C.r[a]? =some (.be (.map false [.int .i64] ents)):=by rw[N];exact aC
 have jS:C.r[b]? =some (.ag aW 1 [[.bE a]]):=by rw[N];exact af
 rw[aE] at dv;obtain⟨v0,bS,rfl,an,aH⟩:=dv;rw[aE] at aH;subst aH;rw[Rep] at an;obtain⟨vs,rfl,kU⟩:=an;rw[aE] at kU;obtain⟨RX,bS,Cz,ak,aH⟩:=kU;rw[aE] at aH;subst aH;rw[Rep] at ak;obtain⟨hC,_,_,hall⟩:=ak;obtain⟨_,G⟩:=hall _ _ _ jS;obtain⟨_,Bm,J,rl,rfl⟩:=G rfl;obtain rfl:vs= #[.pointer (some ⟨Bm,0,none⟩)]:=by
  apply aM7.1;rw[Cz]
 rcases aA.ag jS with ⟨_,qo⟩|⟨aKU,cap,ap,iK,zG,nE,eK,vK,eA,dp⟩
 ·cases qo
 rw[rl] at iK;simp only[aLj,aLH] at iK;obtain⟨rfl,rfl⟩:=iK;rw[dh,dC] at dp;obtain⟨⟨RY,nw,_,kD⟩,_⟩:=dp.2.1;rw[Rep] at kD;obtain⟨_,_,_,kD⟩:=kD;obtain⟨b0,c0,CA,rfl⟩:=kD _ iV;have mr:=aA.r _ _ iV;rw[dQ] at mr;obtain⟨RZ,R0,ar,qK,R1,lZ,sb,xq,Gh,Gi⟩:=mr;rw[CA] at qK;simp only[aLj,aLH] at qK;obtain⟨rfl,rfl⟩:=qK;have gO:ar.toList.map (·.key)=Y.map (Value.int .i64 ·):=BZ (by rw[<-O];exact xq);have dJ:ar.size=Y.length:=by
  have:=aKI List.length gO;simpa using this
 let aF:Value->Option (DataW Unit×List MemPlace):=λ_=>some (.nil,[])
 have Io:prog.underlying 3=some (.int .i64):=underlying3;have tP:∀x∈ar.toList,∃M:Int,x.key= .int .i64 M/\M∈Y/\Go.WideElems.rd prog 3 aF x=some (.int .i64 M,.nil):=by
  intro x aj;have:x.key∈Y.map (Value.int .i64 ·):=by rw[<-gO];exact aM2 aj
  obtain⟨M,ba,sD⟩:=aKZ.1 this;refine⟨M,sD.symm,ba,?_⟩;unfold Go.WideElems.rd;rw[<-sD,keyOf_int_mk Io (ki M ba)];rfl
 have uA:Go.WideElems.Fit prog 3 aF ar ar.size:=by
  refine⟨by rw[dJ];unfold maxLen;omega,⟨λx aj=> ?_,?_,?_⟩,λx aj=> ?_⟩
  ·obtain⟨c,av,rfl⟩:=aL9 aj;have:=sb c _ (by rw[<-aLJ,aKS av]);rw[this];simpa using av
  ·have:ar.toList.map (·.born)=List.range ar.size:=by
    refine aLT λc=> ?_
    by_cases av:c<ar.size
    ·rw[aLG,aLJ,aLN av,aMU av];simp[sb c _ (aLN av)]
    ·rw[aLB (by simp;omega),aLB (by simp;omega)]
   rw[this];exact aM8
  ·rw[gO];exact aMB.2 (ss.imp λh e=>h (by simpa using e))
  ·obtain⟨M,_,_,h⟩:=tP x aj;exact⟨_,h⟩
 let el:=ar.toList.map (Go.WideElems.rg prog 3 aF)
 let aD:DataW Unit:= .map (el.foldr DataW.insert [])
 have pK:C.w.ownsMap prog 3 aF b0 ar.size aD:=⟨ar,ar.size,lZ,uA,aKM _,rfl⟩;have wF:el.map (λp=>Go.intOf p.1)=Y:=by
  have:∀x∈ar.toList,((λp:Lit×DataW Unit=>Go.intOf p.1)∘Go.WideElems.rg prog 3 aF) x=(Su∘λx:MapEntry=>x.key) x:=by
   intro x aj;obtain⟨M,d,_,G⟩:=tP x aj;simp only[aMZ];rw[Go.WideElems.rg_of G,d];rfl
  show List.map _ (List.map _ ar.toList)=Y;rw[aLr,aMy this,<-aLr,gO,aLr];exact aOu Y
 have kV: (intKeys aD).Perm Y:=by
  rw[<-wF];exact (Go.WideShapes.sorted_perm el).map _
 have fS:Maps.size aD=Y.length:=by
  show (el.foldr DataW.insert []).length=_;rw[length_sorted,aLe,aLE,dJ]
 have vf:SeqGives Fence.wide 2 prog 168 #[.pointer (some ⟨Bm,0,none⟩)] encZ (λbV:List Int=>bV.Perm (intKeys aD)) (Maps.size aD) C.w:=
  AnyZI.keys_gives (ρ:=abx) {axx with} Fence.wide _ trivial rfl (by omega) Bm b0 ar.size aD C.w (aLp.1 nE).1 nw pK
 have CB:=AnyZI.sorted_in Sr Fence.wide 5 trivial trivial trivial trivial rfl (by omega) (Ss _) (enters_of func127 (by kernel_rfl) rfl) 168 #[.pointer (some ⟨Bm,0,none⟩)] trivial (enters_of func168 (by kernel_rfl) rfl) _ _ (by rw[fS];unfold maxLen;omega) (by rw[fS];omega) _ vf;refine (callsIn_wide.1 CB).mono ?_;rintro e w' ⟨v,bV,rfl,du,hrow,iW,af⟩;have CC: (bV.mergeSort leI)=fq Y:=mergeSort_of_perm_i (du.trans kV);have fF:bV.length=(fq Y).length:=by rw[zY];exact (du.trans kV).length_eq
 refine⟨v,_,rfl,af,λDp=> ?_,rfl,by rw[<-N]⟩;rw[Rep];rcases hrow.2 with ⟨rfl,ba⟩|⟨g,cap,oZ,rfl,Mz,ve,aKO,cY,fY,fc⟩
 ·exact⟨none,0,by rw[mV,<-fF,ba],by rw[mV,<-fF,ba];exact aKM _,.inl (by rw[mV,<-fF,ba])⟩
 ·refine⟨_,cap,by rw[mV,<-fF],by rw[mV,<-fF];exact aKO,.inr ⟨g,0,rfl,⟨(aLp.1 ve).1,λbp=> ?_,λz J h=> ?_⟩,?_⟩⟩
  ·have:=aA.bY _ bp;omega
  ·have:=aA.lt h;omega
  ·refine My (C:=bD.p _) _ _ λc av=> ?_;have d: (oZ.toList.take (bV.length*1))[c]? =((bV.mergeSort leI).map encZ)[c]? :=by rw[fc]
   rw[aOD (by rw[aNn,fF];exact av),aLG,CC,aKS av,aLJ] at d;show World.cell? w' _=_;simp only[World.cell?,ve,aL5];simpa using d
def QU:Go.Shelf.Ren:=
 {f:=λx=>match x with|7=>116|10=>204|n=>n,
  t:=λx=>match x with|23=>224|26=>3|3=>227|28=>125|0=>0|27=>124|33=>244|4=>4|n=>n,
  g:=λn=>n}
set_option maxRecDepth 100000 in
theorem YV:SlLaysZI.n7 prog QU where
 mixed:=by kernel_rfl
 f7:=⟨"maps.Keys[map[int][16]int,int,[16]int]",by decide,aKL func116 (aKI some (by kernel_rfl))⟩
 f10:=⟨"maps.Keys[map[int][16]int,int,[16]int]$1",by decide,aKL func204 (aKI some (by kernel_rfl))⟩
 t0:=underlying0
 a0:=isAgg0
 z0:=sizeOf0
 v0:=zeroValue0
 t4:=underlying4
 a4:=isAgg4
 z4:=sizeOf4
 v4:=zeroValue4
 t23:=underlying224
 a23:=isAgg224
 z23:=sizeOf224
 v23:=zeroValue224
 t26:=underlying3
 a26:=isAgg3
 z26:=sizeOf3
 v26:=zeroValue3
 t27:=underlying124
 a27:=isAgg124
 z27:=sizeOf124
 v27:=zeroValue124
 t28:=underlying125
 a28:=isAgg125
 z28:=sizeOf125
 v28:=zeroValue125
 t33:=underlying244
 a33:=isAgg244
 z33:=sizeOf244
 v33:=zeroValue244
theorem YW {r:List Z}{a b:Nat}{aW:TypeId}{ents:List (F×F)}{Y:List Int}(aC:r[a]? =some (.be (.map false [.int .i64] ents)))(af:r[b]? =some (.ag aW 1 [[.bE a]]))(O:ents.map (·.1)=Y.map (F.int .i64 ·))(ss:Y.Nodup)(ki:∀x∈Y,(Lit.int .i64 x).wf=true)(cK:Y.length<=1000000):
 aO prog 47 [.fn 204 [.bd b 1 0 0]] r
  (λv rs=>v= .pure 1 (cJ .i64 (fq Y))/\rs=r):=by
 refine aO.P5 (λh=>h) ?_;intro C dA N aA hG dv;have iV:C.r[a]? =some (.be (.map false [.int .i64] ents)):=by rw[N];exact aC
 have jS:C.r[b]? =some (.ag aW 1 [[.bE a]]):=by rw[N];exact af
 rw[aE] at dv;obtain⟨v0,bS,rfl,an,aH⟩:=dv;rw[aE] at aH;subst aH;rw[Rep] at an;obtain⟨vs,rfl,kU⟩:=an;rw[aE] at kU;obtain⟨RX,bS,Cz,ak,aH⟩:=kU;rw[aE] at aH;subst aH;rw[Rep] at ak;obtain⟨hC,_,_,hall⟩:=ak;obtain⟨_,G⟩:=hall _ _ _ jS;obtain⟨_,Bm,J,rl,rfl⟩:=G rfl;obtain rfl:vs= #[.pointer (some ⟨Bm,0,none⟩)]:=by
  apply aM7.1;rw[Cz]
 rcases aA.ag jS with ⟨_,qo⟩|⟨aKU,cap,ap,iK,zG,nE,eK,vK,eA,dp⟩
 ·cases qo
 rw[rl] at iK;simp only[aLj,aLH] at iK;obtain⟨rfl,rfl⟩:=iK;rw[dh,dC] at dp;obtain⟨⟨RY,nw,_,kD⟩,_⟩:=dp.2.1;rw[Rep] at kD;obtain⟨_,_,_,kD⟩:=kD;obtain⟨b0,c0,CA,rfl⟩:=kD _ iV;have mr:=aA.r _ _ iV;rw[dQ] at mr;obtain⟨RZ,R0,ar,qK,R1,lZ,sb,xq,Gh,Gi⟩:=mr;rw[CA] at qK;simp only[aLj,aLH] at qK;obtain⟨rfl,rfl⟩:=qK;have gO:ar.toList.map (·.key)=Y.map (Value.int .i64 ·):=BZ (by rw[<-O];exact xq);have dJ:ar.size=Y.length:=by
  have:=aKI List.length gO;simpa using this
 let aF:Value->Option (DataW Unit×List MemPlace):=λ_=>some (.nil,[])
 have Io:prog.underlying 3=some (.int .i64):=underlying3;have tP:∀x∈ar.toList,∃M:Int,x.key= .int .i64 M/\M∈Y/\Go.WideElems.rd prog 3 aF x=some (.int .i64 M,.nil):=by
  intro x aj;have:x.key∈Y.map (Value.int .i64 ·):=by rw[<-gO];exact aM2 aj
  obtain⟨M,ba,sD⟩:=aKZ.1 this;refine⟨M,sD.symm,ba,?_⟩;unfold Go.WideElems.rd;rw[<-sD,keyOf_int_mk Io (ki M ba)];rfl
 have uA:Go.WideElems.Fit prog 3 aF ar ar.size:=by
  refine⟨by rw[dJ];unfold maxLen;omega,⟨λx aj=> ?_,?_,?_⟩,λx aj=> ?_⟩
  ·obtain⟨c,av,rfl⟩:=aL9 aj;have:=sb c _ (by rw[<-aLJ,aKS av]);rw[this];simpa using av
  ·have:ar.toList.map (·.born)=List.range ar.size:=by
    refine aLT λc=> ?_
    by_cases av:c<ar.size
    ·rw[aLG,aLJ,aLN av,aMU av];simp[sb c _ (aLN av)]
    ·rw[aLB (by simp;omega),aLB (by simp;omega)]
   rw[this];exact aM8
  ·rw[gO];exact aMB.2 (ss.imp λh e=>h (by simpa using e))
  ·obtain⟨M,_,_,h⟩:=tP x aj;exact⟨_,h⟩
 let el:=ar.toList.map (Go.WideElems.rg prog 3 aF)
 let aD:DataW Unit:= .map (el.foldr DataW.insert [])
 have pK:C.w.ownsMap prog 3 aF b0 ar.size aD:=⟨ar,ar.size,lZ,uA,aKM _,rfl⟩;have wF:el.map (λp=>Go.intOf p.1)=Y:=by
  have:∀x∈ar.toList,((λp:Lit×DataW Unit=>Go.intOf p.1)∘Go.WideElems.rg prog 3 aF) x=(Su∘λx:MapEntry=>x.key) x:=by
   intro x aj;obtain⟨M,d,_,G⟩:=tP x aj;simp only[aMZ];rw[Go.WideElems.rg_of G,d];rfl
  show List.map _ (List.map _ ar.toList)=Y;rw[aLr,aMy this,<-aLr,gO,aLr];exact aOu Y
 have kV: (intKeys aD).Perm Y:=by
  rw[<-wF];exact (Go.WideShapes.sorted_perm el).map _
 have fS:Maps.size aD=Y.length:=by
  show (el.foldr DataW.insert []).length=_;rw[length_sorted,aLe,aLE,dJ]
 have vf:SeqGives Fence.wide 2 prog 204 #[.pointer (some ⟨Bm,0,none⟩)] encZ (λbV:List Int=>bV.Perm (intKeys aD)) (Maps.size aD) C.w:=
  AnyZI.keys_gives (ρ:=QU) {YV with} Fence.wide _ trivial rfl (by omega) Bm b0 ar.size aD C.w (aLp.1 nE).1 nw pK
 have CB:=AnyZI.sorted_in Sr Fence.wide 5 trivial trivial trivial trivial rfl (by omega) (Ss _) (enters_of func127 (by kernel_rfl) rfl) 204 #[.pointer (some ⟨Bm,0,none⟩)] trivial (enters_of func204 (by kernel_rfl) rfl) _ _ (by rw[fS];unfold maxLen;omega) (by rw[fS];omega) _ vf;refine (callsIn_wide.1 CB).mono ?_;rintro e w' ⟨v,bV,rfl,du,hrow,iW,af⟩;have CC: (bV.mergeSort leI)=fq Y:=mergeSort_of_perm_i (du.trans kV);have fF:bV.length=(fq Y).length:=by rw[zY];exact (du.trans kV).length_eq
 refine⟨v,_,rfl,af,λDp=> ?_,rfl,by rw[<-N]⟩;rw[Rep];rcases hrow.2 with ⟨rfl,ba⟩|⟨g,cap,oZ,rfl,Mz,ve,aKO,cY,fY,fc⟩
 ·exact⟨none,0,by rw[mV,<-fF,ba],by rw[mV,<-fF,ba];exact aKM _,.inl (by rw[mV,<-fF,ba])⟩
 ·refine⟨_,cap,by rw[mV,<-fF],by rw[mV,<-fF];exact aKO,.inr ⟨g,0,rfl,⟨(aLp.1 ve).1,λbp=> ?_,λz J h=> ?_⟩,?_⟩⟩
  ·have:=aA.bY _ bp;omega
  ·have:=aA.lt h;omega
  ·refine My (C:=bD.p _) _ _ λc av=> ?_;have d: (oZ.toList.take (bV.length*1))[c]? =((bV.mergeSort leI).map encZ)[c]? :=by rw[fc]
   rw[aOD (by rw[aNn,fF];exact av),aLG,CC,aKS av,aLJ] at d;show World.cell? w' _=_;simp only[World.cell?,ve,aL5];simpa using d
structure eH where
 bk:Int
 ah:Int
 name:ByteArray
 min:Int
instance:aJ eH:=⟨λa=> [.int .i64 a.bk,.int .i64 a.ah,.str a.name,.int .i64 a.min],4,λ_=>rfl,λ_=>rfl,λ_=>rfl⟩
theorem QV (e:eH):aJ.J e=[.int .i64 e.bk,.int .i64 e.ah,.str e.name,.int .i64 e.min]:=rfl
theorem auP:aJ.U eH=4:=rfl
theorem auQ (e:eH):List.take 4 (aJ.J e)=aJ.J e:=rfl
attribute [go_sem] auP auQ
structure cw where
 ah:Int
 bw:Int
 cN:Int
instance:aJ cw:=⟨λa=> [.int .i64 a.ah,.int .i64 a.bw,.int .i64 a.cN],3,λ_=>rfl,λ_=>rfl,λ_=>rfl⟩
theorem uZ (e:cw):aJ.J e=[.int .i64 e.ah,.int .i64 e.bw,.int .i64 e.cN]:=rfl
theorem auR:aJ.U cw=3:=rfl
theorem auS (e:cw):List.take 3 (aJ.J e)=aJ.J e:=rfl
attribute [go_sem] auR auS
def ry (I:cw)(ah:Int):Int:=if I.ah=ah/\1<=I.cN/\I.cN<=1440 then I.cN else 0
def Ck (ae:List cw)(ah:Int):Int:=((ae.take 1024).map λI=>ry I ah).sum
theorem QW (ah:Int):∀(l:List cw),0<=(l.map λI=>ry I ah).sum/\(l.map λI=>ry I ah).sum<=1440*l.length
 | []=>by simp
 |I::l=>by
  have ih:=QW ah l;have:0<=ry I ah/\ry I ah<=1440:=by unfold ry;split<;>omega
  rw[aKP,aMf,aK8];omega
theorem auT (ae:List cw)(ah:Int):0<=Ck ae ah/\Ck ae ah<=1474560:=by
 have h:=QW ah (ae.take 1024);have G: (ae.take 1024).length<=1024:=by simp;omega
 unfold Ck;omega
theorem YX {bj:Type}(f:bj->Int){l:List bj}{c:Nat}(h:c<l.length): ((l.take (c+1)).map f).sum=((l.take c).map f).sum+f l[c]:=by
 rw[aLz h,aLU,aNO];simp
theorem auU (ae:List cw)(hl:ae.length<=1000000)(ah:Int):aO prog 119 [.pure 3 (ai ae),.int .i64 ah] [] (λv rs=>v= .int .i64 (Ck ae ah)/\rs=[]):=by
 refine cu func119 YY (by simp[yi,zZ]) ?_;simp only[go_sem,yi,zZ,bT];refine⟨by omega,by omega,?_⟩;have aV:List.take ((min (ae.length:Int) 1024).toNat-0) ae=ae.take 1024:=by
  by_cases h:ae.length<=1024
  ·rw[show (min (ae.length:Int) 1024).toNat-0=ae.length by omega,aLb,aLZ h]
  ·rw[show (min (ae.length:Int) 1024).toNat-0=1024 by omega]
 unfold Ck;obtain⟨q,YZ⟩:∃q,ae.take 1024=q:=⟨_,rfl⟩;have Y0:q.length<=1024:=by rw[<-YZ];simp;omega
 simp only[WL,aNr,aV,YZ,bT];refine dN (λD r=> ∃c:Nat,c<=q.length/\D=[(1,.int .i64 ah),(5,.int .i64 ((q.take c).map λI=>ry I ah).sum),(12,.pure 3 (ai q)),(13,.int .i64 q.length),(14,.int .i64 c)]/\r=[])
  (λD _=>match bs D 14 with| .int _ j=>(q.length-j).toNat|_=>0) ?_ ?_
 ·exact i ⟨0,by omega,rfl,rfl⟩
 ·rintro D r ⟨c,av,rfl,rfl⟩;have aP:=dB (c:=c) (by omega);have af:=QW ah (q.take c);have rX: (q.take c).length<=1024:=by simp;omega
  by_cases aI:c<q.length
  ·have d: (c:Int)<q.length:=by omega
   have h0: (0:Int)<=c:=by omega
   have aw: (ai q).getD c []=[.int .i64 q[c].ah,.int .i64 q[c].bw,.int .i64 q[c].cN]:=by rw[cT aI,uZ]
   have ao:=YX (λI=>ry I ah) aI
   by_cases J:q[c].ah=ah/\1<=q[c].cN/\q[c].cN<=1440
   ·have gI:IntKind.i64.wrap ((List.map (λI=>ry I ah) (List.take c q)).sum+q[c].cN)=(List.map (λI=>ry I ah) (List.take (c+1) q)).sum:=by
     rw[bl,ao];unfold ry;rw[Rc J]
    simp only[go_sem,yi,zZ,h0,d,aw,bT,aKX,J,aNF,gI,aP]
    (refine E.bB [] ?_;simp only[go_sem])
    refine i ⟨⟨c+1,by omega,rfl,rfl⟩,?_⟩;simp only[go_sem];omega
   ·have ba: (List.map (λI=>ry I ah) (List.take (c+1) q)).sum=(List.map (λI=>ry I ah) (List.take c q)).sum:=by
     rw[ao];unfold ry;rw[S J,aN8]
    by_cases c1:q[c].ah=ah
    ·by_cases c2:1<=q[c].cN
     ·have c3:¬q[c].cN<=1440:=λh=>J ⟨c1,c2,h⟩;simp only[go_sem,yi,zZ,h0,d,aw,bT,aKX,c1,c2,c3,aNF,aP]
      (refine E.bB [] ?_;simp only[go_sem])
      (rw[<-ba];refine i ⟨⟨c+1,by omega,rfl,rfl⟩,?_⟩;simp only[go_sem];omega)
     ·simp only[go_sem,yi,zZ,h0,d,aw,bT,aKX,c1,c2,aNF,aP]
      (refine E.bB [] ?_;simp only[go_sem])
      (rw[<-ba];refine i ⟨⟨c+1,by omega,rfl,rfl⟩,?_⟩;simp only[go_sem];omega)
    ·have HC: (q[c].ah==ah)=false:=aLO.2 c1;simp only[go_sem,yi,zZ,h0,d,aw,bT,aKX,HC,aP]
     (refine E.bB [] ?_;simp only[go_sem])
     (rw[<-ba];refine i ⟨⟨c+1,by omega,rfl,rfl⟩,?_⟩;simp only[go_sem];omega)
  ·have d:¬(c:Int)<q.length:=by omega
   obtain rfl:c=q.length:=by omega
   simp only[go_sem,yi,zZ,d,aLb];exact aKG rfl ⟨rfl,rfl⟩
end Go.Proofs.YtpincjkjoeopkaaGreatDoor
namespace Go.Proofs.YtpincjkjoeopkaaGreatDoor
open Go Go.Abs Go.Proofs.Tryz
open Go.Sort (SWO)
theorem awq {r:List Z}{B:Option Nat}{D:aQ}{K:aQ->List Z->Prop}{a b:ByteArray}:bA (.iY .gtr) [.str a,.str b] r B D K=K (put D B (.bool !(Op.bytesLess a.toList b.toList||a.toList==b.toList))) r:=aKF rfl
attribute [go_sem] awq
def gT (a b:Int):Int:=if a<b then -1 else if b<a then 1 else 0
def ow:List Int->Int
 | []=>0
 |x::aq=>if x=0 then ow aq else x
def yv (a b:ByteArray):Int:=if a.toList<b.toList then -1 else if b.toList<a.toList then 1 else 0
theorem Mg:∀(x y:List UInt8),Op.bytesLess x y=decide (x<y)
 | [],[]=>by simp[Op.bytesLess]
 |_::_,[]=>by simp[Op.bytesLess]
 | [],_::_=>by simp[Op.bytesLess]
 |a::x,b::y=>by
  rw[Op.bytesLess,Mg x y];simp only[List.cons_lt_cons_iff]
  by_cases d:a<b<;>by_cases G:a=b<;>by_cases au:x<y<;>simp[d,G,au]
theorem Mh {a b:List UInt8}(h:¬a<b):a=b\/b<a:=by
 rcases Decidable.em (b<a) with d|d
 ·exact .inr d
 ·exact .inl (aQg (aPi.1 d) (aPi.1 h))
theorem Ie (a:List UInt8):¬a<a:=aQh a
theorem Z8 {a b J:List UInt8}(h:a<b)(k:b<J):a<J:=aPj h k
theorem awr {aq:List Int}{c:Nat}(h:c<aq.length):ow (aq.drop c)=if aq[c]=0 then ow (aq.drop (c+1)) else aq[c]:=by
 rw[aL4 h,ow]
structure cv where
 B:Int
 n:ByteArray
instance:aJ cv:=⟨λk=> [.int .i64 k.B,.str k.n],2,λ_=>rfl,λ_=>rfl,λ_=>rfl⟩
instance:Inhabited cv:=⟨⟨0,default⟩⟩
theorem LP (e:cv):aJ.J e=[.int .i64 e.B,.str e.n]:=rfl
theorem aws:aJ.U cv=2:=rfl
theorem awt (e:cv):List.take 2 (aJ.J e)=aJ.J e:=rfl
attribute [go_sem] aws awt
def If (a b:cv):Int:=ow [gT a.B b.B,yv a.n b.n]
def pN (a b:cv):Prop:=a.B<b.B\/(a.B=b.B/\a.n.toList<b.n.toList)
theorem QY:Int.negSucc 0= -1:=rfl
attribute [go_sem] QY
section
variable [iZ:dE]
theorem Z9 (a:Int):aO prog 159 [.int .i64 a] [] (λv rs=>v= .bool false/\rs=[]):=by
 refine cu func159 aaa (by simp[Mi,R4]) ?_;simp only[go_sem,Mi,R4,aMm];exact aKG rfl ⟨rfl,rfl⟩
theorem yw (a b:Int):aO prog 74 [.int .i64 a,.int .i64 b] [] (λv rs=>v= .int .i64 (gT a b)/\rs=[]):=by
 refine cu func74 aab (by simp[Mj,R5]) ?_;simp only[go_sem,Mj,R5];refine bM (Z9 a) rfl rfl ?_;simp only[go_sem];refine bM (Z9 b) rfl rfl ?_;simp only[go_sem];unfold gT
 by_cases d:a<b
 ·simp only[go_sem,d];exact aKG rfl ⟨rfl,rfl⟩
 ·by_cases G:b<a<;>simp only[go_sem,d,G]<;>exact aKG rfl ⟨rfl,rfl⟩
theorem aac (a:ByteArray):aO prog 208 [.str a] [] (λv rs=>v= .bool false/\rs=[]):=by
 refine cu func208 aad (by simp[Mk,R6]) ?_;simp only[go_sem,Mk,R6,aNF,Bool.not_true];exact aKG rfl ⟨rfl,rfl⟩
theorem awu (a b:ByteArray):aO prog 124 [.str a,.str b] [] (λv rs=>v= .int .i64 (yv a b)/\rs=[]):=by
 refine cu func124 aae (by simp[Ml,R7]) ?_;simp only[go_sem,Ml,R7];refine bM (aac a) rfl rfl ?_;simp only[go_sem];refine bM (aac b) rfl rfl ?_;simp only[go_sem];unfold yv;rw[Mg]
 by_cases d:a.toList<b.toList
 ·simp only[go_sem,d];exact aKG rfl ⟨rfl,rfl⟩
 ·by_cases G:b.toList<a.toList
  ·have au: (a.toList==b.toList)=false:=by
    rw[aLO];exact λe=>Ie _ (e▸G)
   simp only[go_sem,d,G,au,Mg];exact aKG rfl ⟨rfl,rfl⟩
  ·have au: (a.toList==b.toList)=true:=by
    rw[aLu];rcases Mh d with e|e
    ·exact e
    ·exact absurd e G
   simp only[go_sem,d,G,au,Mg];exact aKG rfl ⟨rfl,rfl⟩
theorem Mm (aq:List Int)(aj:aq.length<=1000):aO prog 123 [.own 0 aq.length 0 aq.length] [.ag 3 1 (cJ .i64 aq)] (λv rs=>v= .int .i64 (ow aq)/\rs=[.ag 3 1 (cJ .i64 aq)]):=by
 refine cu func123 aaf (by simp[CE,E7]) ?_;simp only[go_sem,CE,E7];refine dN (λD r=> ∃c:Nat,c<=aq.length/\ow aq=ow (aq.drop c)/\D=[(3,.int .i64 0),(6,.own 0 aq.length 0 aq.length),(7,.int .i64 aq.length),(8,.int .i64 c)]/\r=[.ag 3 1 (cJ .i64 aq)])
  (λD _=>match bs D 8 with| .int _ j=>(aq.length-j).toNat|_=>0) ?_ ?_
 ·exact i ⟨0,by omega,rfl,rfl,rfl⟩
 ·rintro D r ⟨c,av,Al,rfl,rfl⟩;have aP:=dB (c:=c) (by omega);simp only[go_sem,CE,E7];refine cf ?_ ?_<;>intro ct<;>simp only[bC] at ct<;>simp only[go_sem,CE,E7]
  ·have aI:c<aq.length:=by omega
   have eR: (cJ .i64 aq).getD c []=[.int .i64 aq[c]]:=by rw[tw aI,aLn,aKS aI,aMW]
   rw[awr aI] at Al;refine⟨by omega,by omega,?_⟩;simp only[aKX,eR];simp only[go_sem];refine cf ?_ ?_<;>intro fH<;>simp only[bC] at fH<;>simp only[go_sem,CE,E7,aP]
   ·exact i ⟨by rw[Al,S fH];rfl,rfl⟩
   ·rw[Rc fH] at Al;refine i ⟨⟨c+1,by omega,Al,rfl,rfl⟩,?_⟩;simp only[go_sem];omega
  ·obtain rfl:c=aq.length:=by omega
   rw[aLF] at Al;exact i ⟨by rw[Al];rfl,rfl⟩
theorem awv (a b:cv):aO prog 122 [.agg (aJ.J a),.agg (aJ.J b)] [] (λv rs=>v= .int .i64 (If a b)/\rs=[]):=by
 refine cu func122 aag (by simp[Mo,R8]) ?_;simp only[go_sem,Mo,R8,LP];refine gG (yw _ _) rfl rfl ?_;simp only[go_sem];refine gG (awu _ _) rfl rfl ?_;simp only[go_sem]
 (refine D4 [2] (Mm [gT a.B b.B,yv a.n b.n] (by simp)) ?_;rintro _ _ ⟨rfl,rfl⟩;simp only[go_sem])
 exact aKG rfl ⟨rfl,rfl⟩
end
theorem Am {a b:Int}:gT a b<0↔a<b:=by
 unfold gT;split
 ·simp_all
 ·split<;>simp_all
theorem tQ {a b:Int}:gT a b=0↔a=b:=by
 unfold gT;split
 ·simp;omega
 ·split
  ·simp;omega
  ·simp;omega
theorem aww {a b:ByteArray}:yv a b<0↔a.toList<b.toList:=by
 unfold yv;split
 ·simp_all
 ·split<;>simp_all
theorem awx {a b:ByteArray}:yv a b=0↔a.toList=b.toList:=by
 unfold yv;split
 ·rename_i h;constructor
  ·intro h;cases h
  ·intro e;exact absurd h (e▸Ie _)
 ·rename_i h;split
  ·rename_i G;constructor
   ·intro h;cases h
   ·intro e;exact absurd G (e▸Ie _)
  ·rename_i G;refine⟨λ_=> ?_,λ_=>rfl⟩;rcases Mh h with e|e
   ·exact e
   ·exact absurd e G
theorem aah {a b:cv}:If a b<0↔pN a b:=by
 unfold If pN;simp only[ow]
 by_cases h:gT a.B b.B=0
 ·rw[Rc h];have h0:=tQ.1 h
  by_cases G:yv a.n b.n=0
  ·rw[Rc G];have au:=awx.1 G;constructor
   ·intro h;cases h
   ·rintro (h|⟨_,h⟩)
    ·omega
    ·exact absurd h (au▸Ie _)
  ·rw[S G,aww];exact⟨λh=> .inr ⟨h0,h⟩,λh=>by rcases h with h|h;(·omega);exact h.2⟩
 ·rw[S h,Am];have h0:¬a.B=b.B:=λe=>h (tQ.2 e);exact⟨.inl,λh=>by rcases h with h|h;(·exact h);exact absurd h.1 h0⟩
end Go.Proofs.YtpincjkjoeopkaaGreatDoor
namespace Go.Proofs.YtpincjkjoeopkaaGreatDoor
open Go Go.Abs Go.Maps Go.Proofs.Tryz
open Go.RowKit (Below)
set_option maxRecDepth 100000
theorem abs {P:Program}{B:Nat}{t:TypeId}{ap:List Value}{fg:Array Field}(h:P.underlying t=some (.struct fg)):
 P.keyLits (B+1) t ap=if ap.length=P.cellsOf t/\fg.all (·.name != "_")=true then (fg.toList.mapM λf=>P.keyLits B f.type ((ap.drop f.offset).take (P.cellsOf f.type))).map List.flatten else none:=by
 rw[Program.keyLits.eq_def];simp only[h]
theorem axt {P:Program}{B:Nat}{t:TypeId}{ap:List Value}{q:IntKind}{ma:List Lit}(h:P.underlying t=some (.int q))(O:P.keyLits (B+1) t ap=some ma):∃n,ap=[.int q n]/\(Lit.int q n).wf=true/\ma=[.int q n]:=by
 rw[Program.keyLits.eq_def] at O;rcases ap with _|⟨v,_|⟨_,_⟩⟩
 ·simp[h] at O
 ·cases v<;>simp only[h] at O<;>try (simp at O;done)
  split at O
  ·rename_i ad;cases O;obtain⟨rfl,aP⟩:=ad;exact⟨_,rfl,aP,rfl⟩
  ·cases O
 ·simp[h] at O
theorem axu {P:Program}{B:Nat}{t:TypeId}{ap:List Value}{ma:List Lit}(h:P.underlying t=some .string)(O:P.keyLits (B+1) t ap=some ma):∃n,ap=[.string n]/\n.size<=maxLen/\ma=[.string n.data.toList]:=by
 rw[Program.keyLits.eq_def] at O;rcases ap with _|⟨v,_|⟨_,_⟩⟩
 ·simp[h] at O
 ·cases v<;>simp only[h] at O<;>try (simp at O;done)
  split at O
  ·cases O;exact⟨_,rfl,by assumption,rfl⟩
  ·cases O
 ·simp[h] at O
theorem ie:prog.types.size+1=(prog.types.size-1)+1+1:=by kernel_rfl
theorem c3:prog.cellsOf 3=1:=by kernel_rfl
theorem c2:prog.cellsOf 9=1:=by kernel_rfl
theorem ij:prog.cellsOf 235=2:=by kernel_rfl
theorem axv {bj:Type}{l:List bj}(h:l.length=2):∃a b,l=[a,b]:=by
 match l,h with
 | [a,b],_=>exact⟨a,b,rfl⟩
theorem Rs (v:Value)(l:Lit)(h:keyOf prog 235 v=some l):∃B n,v= .agg #[.int .i64 B,.string n]/\(Lit.int .i64 B).wf=true/\n.size<=maxLen/\l= .string (keyBytes [.int .i64 B,.string n.data.toList]):=by
 unfold keyOf at h;rw[underlying235] at h;simp only at h;split at h
 ·rename_i hf;simp only[aKJ] at hf;rw[ie,abs underlying235] at h;split at h
  ·rename_i ad;obtain⟨ad,_⟩:=ad;rw[ij] at ad;obtain⟨x,y,Fd⟩:=axv ad;rw[Fd] at h;simp only[aNH,List.mapM_nil,c3,c2,List.drop_succ_cons,aNr,aOX,aOZ,Option.bind_eq_bind,Option.pure_def] at h;cases d:prog.keyLits (prog.types.size-1+1) 3 [x] with
   |none=>rw[d] at h;cases h
   |some mN=>
    cases G:prog.keyLits (prog.types.size-1+1) 9 [y] with
    |none=>rw[d,G] at h;cases h
    |some nv=>
     rw[d,G] at h;obtain⟨B,bF,jG,rfl⟩:=axt underlying3 d;obtain⟨n,bK,jH,rfl⟩:=axu underlying9 G;cases bF;cases bK;refine⟨B,n,?_,jG,jH,?_⟩
     ·have hf:=hf.2;unfold Value.formed at hf;split at hf
      ·rename_i ap _;congr 1;exact aM7.1 Fd
      ·cases hf
      ·rw[underlying235] at hf;cases hf
     ·simpa using h.symm
  ·cases h
 ·cases h
theorem Ic {B:Int}{n:ByteArray}(d: (Lit.int .i64 B).wf=true)(G:n.size<=maxLen):keyOf prog 235 (.agg #[.int .i64 B,.string n])=some (.string (keyBytes [.int .i64 B,.string n.data.toList])):=by
 have O:prog.keyType 235=true:=by kernel_rfl
 unfold keyOf;rw[underlying235];simp only;rw[Rc (by rw[O];unfold Value.formed;simp only[underlying235,ij];rfl),ie,abs underlying235,Rc ⟨by rw[ij];rfl,by kernel_rfl⟩];have bF:prog.keyLits (prog.types.size-1+1) 3 [.int .i64 B]=some [.int .i64 B]:=by
  rw[Program.keyLits.eq_def];simp only[underlying3,d,aOn,aK5]
 have bK:prog.keyLits (prog.types.size-1+1) 9 [.string n]=some [.string n.data.toList]:=by
  rw[Program.keyLits.eq_def];simp only[underlying9,G,aK5]
 simp only[Value.cells,aNH,List.mapM_nil,c3,c2,List.drop_succ_cons,aNr,aOX,aOZ,bF,bK,Option.bind_eq_bind,Option.pure_def];rfl
theorem Rq:Keyed prog 235:=Keyed.of_law (deep_law_gate (by kernel_rfl) (aNc (by kernel_rfl)) (aNc (by kernel_rfl)) (by kernel_rfl) (by kernel_rfl))
end Go.Proofs.YtpincjkjoeopkaaGreatDoor
