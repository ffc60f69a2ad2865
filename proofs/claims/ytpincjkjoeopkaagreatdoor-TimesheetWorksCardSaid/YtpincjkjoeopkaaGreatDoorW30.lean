/- Time evaluation. -/
import Derived.Test.YtpincjkjoeopkaaGreatDoorW29
import Derived.Test.YtpincjkjoeopkaaGreatDoorW22
import Derived.Test.YtpincjkjoeopkaaGreatDoorW27
import Derived.Test.YtpincjkjoeopkaaGreatDoorW4
import Derived.Test.YtpincjkjoeopkaaGreatDoorW15
import Derived.Test.YtpincjkjoeopkaaGreatDoorW17
set_option linter.all false
namespace Go.Proofs.YtpincjkjoeopkaaGreatDoor
open Go Go.Abs
theorem awy {e cO:Int}(he:cO≤e): ∀ {l:List Pr.dF},Pr.io e l=true→Pr.io cO l=true
 | [],_=>rfl
 |p::z,h=>by
  simp only[Pr.io,Pr.tL,Pr.hR,Bool.and_eq_true,decide_eq_true_eq] at h ⊢;exact⟨⟨⟨⟨by omega,h.1.1.1.2⟩,h.1.1.2⟩,h.1.2⟩,h.2⟩
theorem R9: ∀ {l cb:List Pr.dF} {e:Int},cb.Sublist l→Pr.io e l=true→Pr.io e cb=true
 |_,_,_,.slnil,_=>rfl
 |_,_,e,.cons (a:=p) ao,h=>by
  have cR:=h;simp only[Pr.io,Pr.tL,Pr.hR,Bool.and_eq_true,decide_eq_true_eq] at cR;exact awy (e:=p.ab) (by omega) (R9 ao cR.2)
 |_,_,e,.cons_cons (a:=p) ao,h=>by
  simp only[Pr.io,Bool.and_eq_true] at h ⊢;exact⟨h.1,R9 ao h.2⟩
theorem awz {l cb:List Pr.dF}(ao:cb.Sublist l)(h:Pr.lx l=0):Pr.lx cb=0:=by
 have hl:=ao.length_le;have h1:l.length≤1024∧Pr.io 0 l=true:=by
  unfold Pr.lx at h;split at h
  ·cases h
  ·split at h
   ·exact⟨by omega,by assumption⟩
   ·cases h
 unfold Pr.lx;rw[if_neg (by omega),if_pos (R9 ao h1.2)]
theorem aai {a b:Int}{p:Pr.dF}{aY:List Pr.dF}{cs:Int}(aC:a < cs): ∀ {ds:List eX},(∀ B∈ds,B.aa.Sublist aY∧B.bP < cs)→ ∀ B∈fI a b p ds,B.aa.Sublist (aY++ [p])∧B.bP < cs
 | [],_,B,ay=>by
  rw[fI,List.mem_singleton] at ay;subst ay;exact⟨List.sublist_append_right aY [p],aC⟩
 |x::t,h,B,ay=>by
  have aj:=h x List.mem_cons_self;unfold fI at ay;split at ay
  ·rcases List.mem_cons.1 ay with rfl|ay
   ·exact⟨aj.1.append (List.Sublist.refl [p]),aj.2⟩
   ·have:=h B (List.mem_cons_of_mem _ ay);exact⟨this.1.trans (List.sublist_append_left aY [p]),this.2⟩
  ·rcases List.mem_cons.1 ay with rfl|ay
   ·exact⟨aj.1.trans (List.sublist_append_left aY [p]),aj.2⟩
   ·exact aai aC (fun d bt=>h d (List.mem_cons_of_mem _ bt)) B ay
theorem aaj {M:cc}{ae:List cw}{e l:Int}{aa:List Pr.dF}: ∀ {c:Nat},c≤aa.length→ ∀ B∈mY M ae e l (aa.take c),B.aa.Sublist (aa.take c)∧B.bP < ae.length
 |0,_,B,ay=>by simp[mY] at ay
 |c+1,h,B,ay=>by
  rw[RF (by omega)] at ay;rw[List.take_succ_eq_append_getElem (by omega)];refine aai ?_ (aaj (by omega)) B ay;have:=YP (aa[c]'(by omega)).R e l (ae.map (fW M));rw[List.length_map] at this;unfold Ct;omega
theorem awA {M:cc}{ae:List cw}{e l:Int}{aa:List Pr.dF}(h:Pr.lx aa=0): ∀ B∈mY M ae e l aa,Pr.lx B.aa=0∧B.bP < ae.length:=fun B ay=>by
 have:=aaj (M:=M) (ae:=ae) (e:=e) (l:=l) (aa:=aa) (c:=aa.length) (Nat.le_refl _) B (by rw[List.take_length];exact ay);rw[List.take_length] at this;exact⟨awz this.1 h,this.2⟩
theorem Sa: ∀ {dl:List Pr.lR} {k a m:Int} {w:List Pr.bx},Pr.lz a m dl=true→Pr.gz w→Pr.gz (Pr.pR dl k w)∧Pr.da (Pr.pR dl k w)≤Pr.da w
 | [],k,a,m,w,_,h=>⟨h,by simp[Pr.pR]⟩
 |b::dl,k,a,m,w,af,h=>by
  simp only[Pr.lz,Bool.and_eq_true] at af;rw[Pr.pR];split
  ·exact Sa af.2 h
  ·obtain⟨J,B⟩:=Pr.Sb (l:=w) (z:= []) (a:=b.after) (k:=min (b.iP-k) (Pr.da w-b.after)) (by omega) h (by simp[Pr.gz]);obtain⟨e,f⟩:=Sa (k:=k+min (b.iP-k) (Pr.da w-b.after)) af.2 J;simp only[Pr.da] at B;exact⟨e,by omega⟩
theorem awB {z:Pr.gK}{ae:Pr.bx}{aa:List Pr.dF}(h:Pr.qD z ae aa=0):Pr.gz (Pr.pb z ae aa)∧Pr.da (Pr.pb z ae aa)≤100000:=by
 obtain⟨h1,G,au,bv⟩:=Pr.Sc h;obtain⟨yn,kX,nK⟩:=Pr.LS h1;have tG:=Pr.LU au;obtain⟨fK,E8⟩:=Pr.Sd (z:= []) (Pr.Ig tG) (by omega) (Pr.Rf (Pr.HP (z:=z) (ae:=ae) (aa:=aa) (last:=0)) (by omega)) (by simp[Pr.gz]);unfold Pr.pb;simp only;split
 ·exact⟨by simp[Pr.gz],by simp[Pr.da]⟩
 ·obtain⟨J,B⟩:=Sa (k:=Pr.vg (Pr.mx (Pr.kB z ae 0 aa) (Pr.na aa) [])) kX fK;simp only[Pr.da] at E8;exact⟨J,by omega⟩
theorem awC {z:Pr.gK}{ae:Pr.bx}{aa:List Pr.dF}(h:Pr.qD z ae aa=0):Pr.dd 0 120968640 (Pr.pb z ae aa)=true∧(Pr.pb z ae aa).length≤100000:=by
 obtain⟨h1,G,au,bv⟩:=Pr.Sc h;obtain⟨yn,kX,nK⟩:=Pr.LS h1;obtain⟨av,ht⟩:=awB h;obtain⟨⟨el,ju⟩,_⟩:=Pr.awD (z:=z) (ae:=ae) (aa:=aa) kX (Pr.LU au);have hl:=Pr.nO av;refine⟨Se (fun x aj=> ?_) (ju.Sf.imp fun h=>by omega),by omega⟩;have:=av x aj;have:=ju.xR x aj;omega
end Go.Proofs.YtpincjkjoeopkaaGreatDoor
namespace Go.Proofs.YtpincjkjoeopkaaGreatDoor.Ib
open Go Go.Abs
open Go.Proofs.Tryz
def mC (t I:Int):Prop:=0≤t∧t≤65535∧0≤I∧I≤2147483647
def iD (e:Ev):Prop:=mC e.cZ e.Y∧1≤e.bk∧e.bk≤2147483647∧0≤e.time∧e.time≤120968639∧
 ((1≤e.cB∧e.cB≤4∧e.iq=0∧e.eg=0)∨((e.cB=5∨e.cB=6)∧mC e.iq e.eg))
instance (t I:Int):Decidable (mC t I):=by unfold mC;infer_instance
instance (e:Ev):Decidable (iD e):=by unfold iD;infer_instance
theorem I0 (t I:Int):aO prog 181 [.agg [.int .i64 t,.int .i64 I]] [] (fun v r=>v= .bool (decide (mC t I))∧r= []):=by
 refine cu func181 SY (by simp[AF,CX]) ?_;simp only[go_sem,AF,CX]
 repeat' ((first|refine gv ?_ ?_|refine gw ?_ ?_|refine cf ?_ ?_|refine dj ?_ ?_)<;>intro aw<;>(have ak:=aw;try simp only[bC] at ak)<;>(first|omega| (simp only[go_sem,aw,AF,CX];clear aw)))
 all_goals (refine E.bg rfl ⟨?_,rfl⟩;congr 1;first| (rw[decide_eq_decide];simp only[mC];omega)| (symm;rw[decide_eq_false_iff_not];simp only[mC];omega))
theorem aNy (t I:Int):aO prog 294 [.agg [.int .i64 t,.int .i64 I]] [] (fun v r=>v= .bool (decide (mC t I))∧r= []):=by
 refine cu func294 aBI (by simp[afV,aIb]) ?_;simp only[go_sem,afV,aIb]
 repeat' ((first|refine gv ?_ ?_|refine gw ?_ ?_|refine cf ?_ ?_|refine dj ?_ ?_)<;>intro aw<;>(have ak:=aw;try simp only[bC] at ak)<;>(first|omega| (simp only[go_sem,aw,afV,aIb];clear aw)))
 all_goals (refine E.bg rfl ⟨?_,rfl⟩;congr 1;first| (rw[decide_eq_decide];simp only[mC];omega)| (symm;rw[decide_eq_false_iff_not];simp only[mC];omega))
theorem aCY (e:Ev):aO prog 94 [.agg (aJ.J e)] [] (fun v r=>v= .bool (decide (iD e))∧r= []):=by
 refine cu func94 SX (by simp[ua,vr]) ?_;simp only[go_sem,ua,vr,rJ];refine bM (I0 _ _) rfl rfl ?_;simp only[go_sem,ua,vr]
 repeat' ((first|refine gv ?_ ?_|refine gw ?_ ?_|refine cf ?_ ?_|refine dj ?_ ?_)<;>intro aw<;>(have ak:=aw;try simp only[bC] at ak)<;>(first|omega| (simp only[go_sem,aw,ua,vr];clear aw)))
 all_goals (try (refine bM (I0 _ _) rfl rfl ?_;simp only[go_sem,ua,vr]))
 all_goals (refine E.bg rfl ⟨congrArg F.bool ?_,rfl⟩;rw[Bool.eq_iff_iff];simp only[bC,Bool.false_eq_true,false_iff,true_iff,iff_true,iff_false,and_true,true_and] at *;try simp only[iD,mC] at *;omega)
theorem aLQ (e:Ev):aO prog 245 [.agg (aJ.J e)] [] (fun v r=>v= .bool (decide (iD e))∧r= []):=by
 refine cu func245 aBt (by simp[afv,aI9]) ?_;simp only[go_sem,afv,aI9,rJ];refine bM (aNy _ _) rfl rfl ?_;simp only[go_sem,afv,aI9]
 repeat' ((first|refine gv ?_ ?_|refine gw ?_ ?_|refine cf ?_ ?_|refine dj ?_ ?_)<;>intro aw<;>(have ak:=aw;try simp only[bC] at ak)<;>(first|omega| (simp only[go_sem,aw,afv,aI9];clear aw)))
 all_goals (try (refine bM (aNy _ _) rfl rfl ?_;simp only[go_sem,afv,aI9]))
 all_goals (refine E.bg rfl ⟨congrArg F.bool ?_,rfl⟩;rw[Bool.eq_iff_iff];simp only[bC,Bool.false_eq_true,false_iff,true_iff,iff_true,iff_false,and_true,true_and] at *;try simp only[iD,mC] at *;omega)
def IV (e:Ev):Prop:=iD e∧e.cZ≤3∧1000≤e.time∧e.bk≤2
theorem aNz (l:List Int)(hl:mW l):BU prog 143 91 [] l (fun v=> ∃ e:Ev,v= .agg (aJ.J e)∧IV e):=by
 intro az h0 h1;refine cu func91 aAj (by simp[adj,aIm]) ?_;simp only[go_sem,adj,aIm];refine KP (aNA l hl) rfl rfl h0 h1 ?_;rintro _ az _ _ ⟨cZ,Y,rfl,_,_,_,_⟩;simp only[go_sem]
 (refine lN (hi l hl 6 (by omega)) ?_;rintro _ az _ _ ⟨x,rfl,_,_⟩;simp only[go_sem])
 have aj:x.tdiv 5=x / 5:=Int.tdiv_eq_ediv_of_nonneg (by omega);refine⟨by omega,?_⟩;refine KP (aji l hl) rfl rfl (by omega) (by omega) ?_;rintro _ az _ _ ⟨t,rfl,_,_⟩;simp only[go_sem]
 (refine ja [1,2,3,4,1,2,5,6] (ys l hl _ (by simp) (by simp)) ?_;rintro _ az _ _ ⟨k,cg,rfl⟩;simp only[fR] at cg;simp only[go_sem])
 rw[aj];simp (disch:=omega) only[bl,aqJ,KN];refine cf ?_ ?_<;>intro aw<;>simp only[bC] at aw<;>simp only[go_sem,adj,aIm]
 ·refine KP (aNA l hl) rfl rfl (by omega) (by omega) ?_;rintro _ az _ _ ⟨iq,eg,rfl,_,_,_,_⟩;simp only[go_sem];exact E.tape rfl (by omega) (by omega) ⟨⟨_,_,_,_,_,_,_⟩,rfl,by simp only[IV,iD,mC,and_true];omega⟩
 ·exact E.tape rfl (by omega) (by omega) ⟨⟨_,_,_,_,_,_,_⟩,rfl,by simp only[IV,iD,mC,and_true];omega⟩
theorem aOF (l:List Int)(hl:mW l)(n:Int)(LD:0≤n)(aH:n≤1000)(az:Int)(h0:0≤az)(h1:az≤l.length):aO prog 31 [.bd 0 1 0 0,.int .i64 n] [gp l az]
 (fun v rs=> ∃ (a:Int) (ar:List Ev),v= .own 1 ar.length 0 ar.length∧rs= [gp l a,.ag 71 7 (ai ar)]∧0≤a∧a≤l.length∧ar.length≤n∧ ∀ e∈ar,IV e):=by
 refine cu func31 azC (by simp[a31,aIg]) ?_;simp only[go_sem,a31,aIg,gp];simp (disch:=omega) only[bl,aqJ,KN]
 (refine lN (hi l hl (n+1) (by omega)) ?_;rintro _ az _ _ ⟨k,rfl,_,_⟩;simp only[go_sem])
 refine dN (fun D r=> ∃ (a:Int) (ar:List Ev) (j:Int),D= [(0,.bd 0 1 0 0),(5,.own 1 ar.length 0 ar.length),(6,.int .i64 j)]∧r= [dX 143 l a,.ag 71 7 (ai ar)]∧0≤a∧a≤l.length∧0≤j∧ar.length+j≤n∧ ∀ e∈ar,IV e)
  (fun D _=>match bs D 6 with| .int _ j=>j.toNat|_=>0) ?_ ?_
 ·(refine E.iv 5 71 7 rfl (E.eW [0,5,6] ?_);simp only[go_sem])
  exact E.ac ⟨az,[],k,rfl,rfl,by omega,by omega,by omega,by simp;omega,by simp⟩
 ·rintro D r ⟨az,ar,j,rfl,rfl,_,_,_,_,kM⟩;simp only[go_sem,a31,aIg];refine cf ?_ ?_<;>intro aw<;>simp only[bC] at aw<;>simp only[go_sem]
  ·refine gv ?_ ?_<;>intro af<;>simp only[go_sem,af]<;>simp only[bC] at af
   ·(refine lN (hi l hl 8 (by omega)) ?_;rintro _ az _ _ ⟨x,rfl,_,_⟩;simp only[go_sem])
    refine cf ?_ ?_<;>intro ad<;>simp only[go_sem,a31,aIg]
    ·(refine lN (hi l hl (ar.length:Int) (by omega)) ?_;rintro _ az _ _ ⟨d,rfl,_,_⟩;simp only[go_sem])
     refine⟨by omega,by omega,?_⟩;rw[cT (by omega)];simp only[go_sem];refine⟨by omega,?_⟩
     (refine E.bB [some 0,some 1] ?_;simp only[go_sem])
     rw[bl (by omega) (by omega)];refine E.ac ⟨⟨az,ar++ [ar[d.toNat]],j-1,by simp,rfl,by omega,by omega,by omega,by simp;omega,?_⟩,?_⟩
     ·intro e he;simp only[List.mem_append,List.mem_singleton] at he;rcases he with he|rfl
      ·exact kM e he
      ·exact kM _ (List.getElem_mem _)
     ·simp only[go_sem];omega
    ·refine KP (aNz l hl) rfl rfl (by omega) (by omega) ?_;rintro _ az _ _ ⟨e,rfl,he⟩;simp only[go_sem,a31,aIg];refine⟨by omega,?_⟩
     (refine E.bB [some 0,some 1] ?_;simp only[go_sem])
     rw[bl (by omega) (by omega)];refine E.ac ⟨⟨az,ar++ [e],j-1,by simp,rfl,by omega,by omega,by omega,by simp;omega,?_⟩,?_⟩
     ·intro cO Py;simp only[List.mem_append,List.mem_singleton] at Py;rcases Py with Py|rfl
      ·exact kM cO Py
      ·exact he
     ·simp only[go_sem];omega
   ·refine KP (aNz l hl) rfl rfl (by omega) (by omega) ?_;rintro _ az _ _ ⟨e,rfl,he⟩;simp only[go_sem,a31,aIg];refine⟨by omega,?_⟩
    (refine E.bB [some 0,some 1] ?_;simp only[go_sem])
    rw[bl (by omega) (by omega)];refine E.ac ⟨⟨az,ar++ [e],j-1,by simp,rfl,by omega,by omega,by omega,by simp;omega,?_⟩,?_⟩
    ·intro cO Py;simp only[List.mem_append,List.mem_singleton] at Py;rcases Py with Py|rfl
     ·exact kM cO Py
     ·exact he
    ·simp only[go_sem];omega
  ·exact E.ac ⟨az,ar,rfl,rfl,by omega,by omega,by omega,kM⟩
theorem aOI (l:List Int)(hl:mW l)(e:Ev):BU prog 143 65 [.agg (aJ.J e)] l (fun v=> ∃ cO:Ev,v= .agg (aJ.J cO)):=by
 intro az h0 h1;refine cu func65 azR (by simp[acQ,aHR]) ?_;simp only[go_sem,acQ,aHR,rJ]
 (refine lN (hi l hl 6 (by omega)) ?_;rintro _ az _ _ ⟨x,rfl,_,_⟩;simp only[go_sem])
 repeat' ((first|refine gv ?_ ?_|refine gw ?_ ?_|refine cf ?_ ?_|refine dj ?_ ?_)<;>intro aw<;>(have ak:=aw;try simp only[bC] at ak)<;>(first|omega| (simp only[go_sem,aw,acQ,aHR];clear aw)))
 ·(refine ja [0,7,-1] (ys l hl _ (by simp) (by simp)) ?_;rintro _ az _ _ ⟨d,cg,rfl⟩;simp only[fR] at cg;simp only[go_sem])
  exact E.tape rfl (by omega) (by omega) ⟨{e with cB:=d},rfl⟩
 ·(refine ja [0,-1,2147483648] (ys l hl _ (by simp) (by simp)) ?_;rintro _ az _ _ ⟨d,cg,rfl⟩;simp only[fR] at cg;simp only[go_sem])
  exact E.tape rfl (by omega) (by omega) ⟨{e with bk:=d},rfl⟩
 ·(refine ja [-1,120968640,0] (ys l hl _ (by simp) (by simp)) ?_;rintro _ az _ _ ⟨d,cg,rfl⟩;simp only[fR] at cg;simp only[go_sem])
  exact E.tape rfl (by omega) (by omega) ⟨{e with time:=d},rfl⟩
 ·(refine ja [65536,-1,65535] (ys l hl _ (by simp) (by simp)) ?_;rintro _ az _ _ ⟨d,cg,rfl⟩;simp only[fR] at cg;simp only[go_sem])
  exact E.tape rfl (by omega) (by omega) ⟨{e with cZ:=d},rfl⟩
 ·(refine ja [-1,2147483648,2147483647] (ys l hl _ (by simp) (by simp)) ?_;rintro _ az _ _ ⟨d,cg,rfl⟩;simp only[fR] at cg;simp only[go_sem])
  exact E.tape rfl (by omega) (by omega) ⟨{e with Y:=d},rfl⟩
 ·(refine ja [1,70000,-1] (ys l hl _ (by simp) (by simp)) ?_;rintro _ az _ _ ⟨d,cg,rfl⟩;simp only[fR] at cg;simp only[go_sem])
  exact E.tape rfl (by omega) (by omega) ⟨{e with iq:=d,eg:=0},rfl⟩
deriving instance DecidableEq for Ev
deriving instance DecidableEq for Ky
deriving instance DecidableEq for Stamp
def AV {bj:Type}[DecidableEq bj](acc:List bj)(x:bj):List bj:=if acc.getLast?=some x then acc else acc++ [x]
def il {bj:Type}[DecidableEq bj](l:List bj):List bj:=l.foldl AV []
theorem I7 {bj:Type}[DecidableEq bj](l:List bj)(x:bj):il (l++ [x])=AV (il l) x:=by simp[il]
theorem vq {bj:Type}{P:List bj→Prop}(h0:P [])(h1: ∀ l x,P l→P (l++ [x]))(l:List bj):P l:=by
 rw[←List.reverse_reverse l]
 induction l.reverse with
 |nil=>exact h0
 |cons x l ih=>rw[List.reverse_cons];exact h1 _ _ ih
theorem ahE {bj:Type}[DecidableEq bj](l:List bj): (il l).getLast?=l.getLast?:=by
 induction l using vq with
 |h0=>rfl
 |h1 l x ih=>
  rw[I7];unfold AV;split
  ·next h=>rw[h];simp
  ·simp
theorem Td {bj:Type}[DecidableEq bj]{l:List bj}{q:Nat}(h0:0 < q)(h:q < l.length):il (l.take (q+1))=if l[q]=l[q-1] then il (l.take q) else il (l.take q)++ [l[q]]:=by
 rw[List.take_succ_eq_append_getElem h,I7];unfold AV;rw[ahE];have: (l.take q).getLast?=some l[q-1]:=by
  rw[List.getLast?_eq_getElem?,List.length_take,show min q l.length-1=q-1 from by omega,List.getElem?_take,if_pos (by omega),List.getElem?_eq_getElem (by omega)]
 rw[this]
 by_cases G:l[q]=l[q-1]
 ·rw[if_pos G,if_pos (by rw[G])]
 ·rw[if_neg G,if_neg (fun h=>G (by simpa using h.symm))]
theorem agQ {bj:Type}[DecidableEq bj](l:List bj): (il l).length≤l.length:=by
 induction l using vq with
 |h0=>simp[il]
 |h1 l x ih=>
  rw[I7];unfold AV;split<;>simp<;>omega
theorem TM {bj:Type}[DecidableEq bj](l:List bj)(a:bj):a∈il l↔a∈l:=by
 induction l using vq with
 |h0=>simp[il]
 |h1 l x ih=>
  rw[I7];unfold AV;split
  ·next h=>
   rw[ih,List.mem_append,List.mem_singleton];rw[ahE] at h;have:=List.mem_of_getLast? h;constructor
   ·exact .inl
   ·rintro (h|rfl)
    ·exact h
    ·exact this
  ·rw[List.mem_append,List.mem_append,ih]
theorem Np {bj:Type}[DecidableEq bj]{l:List bj}: ∀ q,q≤l.length→(∀ c (h:c < l.length),0 < c→c < q→l[c]≠l[c-1])→il (l.take q)=l.take q
 |0,_,_=>by simp[il]
 |1,h,_=>by
  cases l with
  |nil=>simp[il]
  |cons x l=>simp[il,AV]
 |q+2,h,ay=>by
  have ih:=Np (l:=l) (q+1) (by omega) fun c h1 G au=>ay c h1 G (by omega);rw[Td (by omega) (by omega),if_neg (ay (q+1) (by omega) (by omega) (by omega)),ih,←List.take_succ_eq_append_getElem (by omega)]
theorem ahF (a:Ev): ¬jy a a:=by unfold jy;omega
theorem aDN {a b J:Ev}:jy a b→jy b J→jy a J:=by unfold jy;omega
theorem aDO {a b:Ev}:jy a b→ ¬jy b a:=by unfold jy;omega
theorem ahG {a b:Ev}(h1: ¬jy a b)(G: ¬jy b a):a=b:=by
 unfold jy at *;exact Ev.ext' (by omega) (by omega) (by omega) (by omega) (by omega) (by omega) (by omega)
def sJ (l:List Ev):Prop:=l.Pairwise jy
theorem ahH {a b:List Ev}(aC:sJ a)(af:sJ b)(h: ∀ e,e∈a↔e∈b):a=b:=by
 have aDP:a.Nodup:=List.Pairwise.imp (S:=fun x d=>x≠d) (fun {x d} h (e:x=d)=>ahF x (by subst e;exact h)) aC;have aDQ:b.Nodup:=List.Pairwise.imp (S:=fun x d=>x≠d) (fun {x d} h (e:x=d)=>ahF x (by subst e;exact h)) af;exact ((List.perm_ext_iff_of_nodup aDP aDQ).2 h).eq_of_pairwise (fun x d _ _ h1 G=>(aDO h1 G).elim) aC af
theorem aDR {l:List Ev}(h:l.Pairwise fun x d=> ¬jy d x):sJ (il l):=by
 induction l using vq with
 |h0=>simp[il,sJ]
 |h1 l x ih=>
  rw[List.pairwise_append] at h;have ih:=ih h.1;rw[I7];unfold AV;split
  ·exact ih
  ·next hne=>
   unfold sJ at *;rw[List.pairwise_append];refine⟨ih,by simp,fun a aC b af=> ?_⟩;rw[List.mem_singleton] at af;subst af;have h1:=h.2.2 a ((TM l a).1 aC) b (by simp);apply Classical.byContradiction;intro G;have e:=ahG G h1;subst e;apply hne;cases hl: (il l).getLast? with
   |none=>rw[List.getLast?_eq_none_iff] at hl;rw[hl] at aC;simp at aC
   |some M=>
    congr 1;obtain⟨i,kN⟩:=List.getLast?_eq_some_iff.1 hl;rw[kN,List.mem_append,List.mem_singleton] at aC;rcases aC with aC|rfl
    ·rw[kN,List.pairwise_append] at ih;have au:=ih.2.2 a aC M (by simp);have bv:=h.2.2 M ((TM l M).1 (by rw[kN];simp)) a (by simp);exact (bv au).elim
    ·rfl
instance (a b:Ev):Decidable (jy a b):=by unfold jy;infer_instance
def ug (e:Ev):List Ev→List Ev
 | []=> [e]
 |x::aq=>if jy e x then e::x::aq else if e=x then x::aq else x::ug e aq
def fr (l:List Ev):List Ev:=l.foldl (fun acc e=>ug e acc) []
theorem TN (e a:Ev): ∀ l,a∈ug e l↔a=e∨a∈l
 | []=>by simp[ug]
 |x::aq=>by
  have ih:=TN e a aq;unfold ug;split
  ·simp
  ·split
   ·next h=>subst h;simp
   ·simp only[List.mem_cons,ih];constructor
    ·rintro (h|h|h)
     ·exact .inr (.inl h)
     ·exact .inl h
     ·exact .inr (.inr h)
    ·rintro (h|h|h)
     ·exact .inr (.inl h)
     ·exact .inl h
     ·exact .inr (.inr h)
theorem ahI (e:Ev): ∀ {l},sJ l→sJ (ug e l)
 | [],_=>by simp[ug,sJ]
 |x::aq,h=>by
  unfold sJ at *;rw[List.pairwise_cons] at h;have ih:=ahI e (l:=aq) h.2;unfold ug;split
  ·next hl=>
   rw[List.pairwise_cons,List.pairwise_cons];refine⟨fun d bt=> ?_,h⟩;rcases List.mem_cons.1 bt with rfl|bt
   ·exact hl
   ·exact aDN hl (h.1 d bt)
  ·next hl=>
   split
   ·rw[List.pairwise_cons];exact h
   ·next hne=>
    rw[List.pairwise_cons];refine⟨fun d bt=> ?_,ih⟩;rcases (TN e d aq).1 bt with rfl|bt
    ·apply Classical.byContradiction;intro G;exact hne (ahG hl G)
    ·exact h.1 d bt
theorem TO (l:List Ev)(e:Ev):fr (l++ [e])=ug e (fr l):=by simp[fr]
theorem Nt (l:List Ev):sJ (fr l):=by
 induction l using vq with
 |h0=>simp[fr,sJ]
 |h1 l x ih=>rw[TO];exact ahI x ih
theorem Fl (l:List Ev)(a:Ev):a∈fr l↔a∈l:=by
 induction l using vq with
 |h0=>simp[fr]
 |h1 l x ih=>
  rw[TO,TN,ih,List.mem_append,List.mem_singleton];constructor
  ·rintro (h|h)
   ·exact .inr h
   ·exact .inl h
  ·rintro (h|h)
   ·exact .inr h
   ·exact .inl h
theorem aDS {l cb:List Ev}(ak:cb.Perm l)(h:cb.Pairwise fun x d=> ¬jy d x):il cb=fr l:=
 ahH (aDR h) (Nt l) fun e=>by rw[TM,Fl,ak.mem_iff]
theorem Tb (l:List Ev): (fr l).length≤l.length:=by
 induction l using vq with
 |h0=>simp[fr]
 |h1 l x ih=>
  have: ∀ (e:Ev) (aq:List Ev),(ug e aq).length≤aq.length+1:=by
   intro e aq
   induction aq with
   |nil=>simp[ug]
   |cons d i DC=>
    unfold ug;split
    ·simp
    ·split
     ·simp
     ·simp;omega
  rw[TO];have:=this x (fr l);simp;omega
theorem aDL (n:Int)(h0:0≤n)(h1:n≤100000000):aO prog 247 [.bH,.int .i64 n] [] (fun v rs=>v= .own 0 0 0 0∧rs= [.ag 71 7 (ai ([]:List Ev))]):=by
 refine hJ func247 afx (by simp[Na,TL]) ?_;have aH:decide (n < 0)=false:=decide_eq_false (by omega);have aP:IntKind.i64.wrap n=n:=bl (by omega) (by omega);simp only[go_sem,Na,TL]
 (refine E.ac ?_;simp only[go_sem])
 (refine E.ac ?_;simp only[go_sem])
 simp only[go_sem,aH]
 repeat (refine E.ac ?_;simp only[go_sem])
 have gI:IntKind.i64.wrap (n-IntKind.i64.wrap (0-0))=n:=by rw[bl (x:=0-0) (by omega) (by omega),bl (by omega) (by omega)];omega
 rw[gI]
 by_cases ak:0 < n
 ·have af:decide ((0:Int) < n)=true:=decide_eq_true ak;simp only[go_sem,af]
  repeat (refine E.ac ?_;simp only[go_sem])
  refine⟨by omega,by omega,?_⟩;simp only[go_sem];refine⟨by omega,by omega,by omega,by rw[List.length_replicate],?_⟩;refine E.oc (.ei (am:=List.replicate n.toNat [.int .i64 0,.int .i64 0,.int .i64 0,.int .i64 0,.int .i64 0,.int .i64 0,.int .i64 0]) 0 0 n.toNat 0 rfl rfl (by rw[List.length_replicate])) ?_;simp only[go_sem]
  (refine E.bB [some 1] ?_;simp only[go_sem])
  repeat (refine E.ac ?_;simp only[go_sem])
  exact E.ac ⟨rfl,rfl⟩
 ·have af:decide ((0:Int) < n)=false:=decide_eq_false ak;simp only[go_sem,af]
  (refine E.iv 0 71 7 rfl (E.eW [0] ?_);simp only[go_sem])
  repeat (refine E.ac ?_;simp only[go_sem])
  exact E.ac ⟨rfl,rfl⟩
theorem aDM (a b:List Ev)(aC:a.length≤10000000)(af:b.length≤10000000):aO prog 177 [.own 0 2 0 2] [.ag 53 1 [[.pure 7 (ai a)],[.pure 7 (ai b)]]]
 (fun v rs=>v= .own 1 (a++b).length 0 (a++b).length∧rs= [.ag 53 1 [[.pure 7 (ai a)],[.pure 7 (ai b)]],.ag 71 7 (ai (a++b))]):=by
 refine hJ func177 aey (by simp[wN,yH]) ?_;simp only[go_sem,wN,yH]
 repeat (refine E.ac ?_;simp only[go_sem])
 refine hv (fun D r=> ∃ (c x:Int),(c=0∧x=0∨c=1∧x=a.length∨c=2∧x=a.length+b.length)∧D= [(0,.own 0 2 0 2),(3,.int .i64 x),(9,.own 0 2 0 2),(10,.int .i64 2),(11,.int .i64 c)]∧r= [.ag 53 1 [[.pure 7 (ai a)],[.pure 7 (ai b)]]])
  (fun D _=>match bs D 11 with| .int _ j=>(2-j).toNat|_=>0) ?_ ?_
 ·exact E.ac ⟨0,0,.inl ⟨rfl,rfl⟩,rfl,rfl⟩
 have jG:IntKind.i64.wrap (0+1)=1:=by rw[bl (by omega) (by omega)];omega
 have jH:IntKind.i64.wrap (1+1)=2:=by rw[bl (by omega) (by omega)];omega
 rintro D r ⟨c,x,⟨rfl,rfl⟩|⟨rfl,rfl⟩|⟨rfl,rfl⟩,rfl,rfl⟩
 ·simp only[go_sem,wN,yH]
  repeat (refine E.ac ?_;simp only[go_sem])
  have bF:IntKind.i64.wrap (0+(a.length:Int))=a.length:=by rw[bl (by omega) (by omega)];omega
  have bK:decide ((a.length:Int) < 0)=false:=decide_eq_false (by omega);simp only[go_sem,bF,bK]
  repeat (refine E.ac ?_;simp only[go_sem])
  simp only[go_sem,jG];exact⟨⟨1,_,.inr (.inl ⟨rfl,rfl⟩),rfl⟩,by omega⟩
 ·simp only[go_sem,wN,yH]
  repeat (refine E.ac ?_;simp only[go_sem])
  have bF:IntKind.i64.wrap ((a.length:Int)+(b.length:Int))=a.length+b.length:=by rw[bl (by omega) (by omega)]
  have bK:decide ((a.length:Int)+b.length < 0)=false:=decide_eq_false (by omega);simp only[go_sem,bF,bK]
  repeat (refine E.ac ?_;simp only[go_sem])
  simp only[go_sem,jH];exact⟨⟨2,_,.inr (.inr ⟨rfl,rfl⟩),rfl⟩,by omega⟩
 simp only[go_sem,wN,yH]
 repeat (refine E.ac ?_;simp only[go_sem])
 (refine rv (aDL (a.length+b.length) (by omega) (by omega)) ?_;rintro _ _ ⟨rfl,rfl⟩;simp only[go_sem])
 repeat (refine E.ac ?_;simp only[go_sem])
 refine hv (fun D r=> ∃ (c:Int) (X:List Ev),(c=0∧X= []∨c=1∧X=a∨c=2∧X=a++b)∧D= [(6,.own 1 X.length 0 X.length),(25,.own 0 2 0 2),(26,.int .i64 2),(27,.int .i64 c)]∧r= [.ag 53 1 [[.pure 7 (ai a)],[.pure 7 (ai b)]],.ag 71 7 (ai X)])
  (fun D _=>match bs D 27 with| .int _ j=>(2-j).toNat|_=>0) ?_ ?_
 ·exact E.ac ⟨0,[],.inl ⟨rfl,rfl⟩,rfl,rfl⟩
 rintro D r ⟨c,X,⟨rfl,rfl⟩|⟨rfl,rfl⟩|⟨rfl,rfl⟩,rfl,rfl⟩
 ·simp only[go_sem,wN,yH]
  repeat (refine E.ac ?_;simp only[go_sem])
  refine⟨by omega,?_⟩
  repeat (refine E.ac ?_;simp only[go_sem])
  simp only[go_sem,jG];exact⟨⟨1,a,.inr (.inl ⟨rfl,rfl⟩),rfl,rfl⟩,by omega⟩
 ·simp only[go_sem,wN,yH]
  repeat (refine E.ac ?_;simp only[go_sem])
  refine⟨by omega,?_⟩
  repeat (refine E.ac ?_;simp only[go_sem])
  simp only[go_sem,jH];exact⟨⟨2,_,.inr (.inr ⟨rfl,rfl⟩),by simp,rfl⟩,by omega⟩
 ·simp only[go_sem,wN,yH]
  repeat (refine E.ac ?_;simp only[go_sem])
  exact E.ac ⟨rfl,rfl⟩
theorem agM (e:Ev):cE [.int .i64,.int .i64,.int .i64,.int .i64,.int .i64,.int .i64,.int .i64] (aJ.J e):=by simp[cE,rJ]
theorem agN (a b:Ev):ed (aJ.J a) (aJ.J b)=decide (a=b):=by
 rw[Bool.eq_iff_iff,decide_eq_true_eq];simp only[rJ,ed,Bool.and_eq_true,beq_iff_eq,and_true];constructor
 ·rintro⟨h1,G,au,bv,cx,dx,oN⟩;exact Ev.ext' h1 G au bv cx dx oN
 ·rintro rfl;simp
theorem agJ (a b:Ky):ed (aJ.J a) (aJ.J b)=decide (a=b):=by
 rw[Bool.eq_iff_iff,decide_eq_true_eq];simp only[aCy,ed,Bool.and_eq_true,beq_iff_eq,and_true];constructor
 ·rintro⟨h1,G⟩;exact Ky.ext' h1 G
 ·rintro rfl;simp
theorem agO {bj:Type}{C l:List bj}{m c:Nat}(h:C.drop m=l.drop m)(hm:m≤c)(h1:c < C.length)(G:c < l.length):C[c]=l[c]:=by
 have bF: (C.drop m)[c-m]? =some C[c]:=by rw[List.getElem?_drop,show m+(c-m)=c from by omega,List.getElem?_eq_getElem h1]
 have bK: (l.drop m)[c-m]? =some l[c]:=by rw[List.getElem?_drop,show m+(c-m)=c from by omega,List.getElem?_eq_getElem G]
 rw[h,bK] at bF;exact (Option.some.inj bF).symm
theorem aCz (l:List Ev)(hl:l.length≤1000000000):aO prog 180 [.own 0 l.length 0 l.length] [.ag 71 7 (ai l)]
 (fun v rs=>v= .own 0 l.length 0 (il l).length∧rs= [.ag 71 7 (ai (il l++List.replicate (l.length-(il l).length) (⟨0,0,0,0,0,0,0⟩:Ev)))]):=by
 refine cu func180 aeB (by simp[vn,wP]) ?_;simp only[go_sem,vn,wP];refine cf ?_ ?_<;>intro aw<;>simp only[bC] at aw<;>simp only[go_sem,vn,wP]
 ·have e:il l=l:=by
   have:=Np (l:=l) l.length (Nat.le_refl _) (fun c h1 G au=>by omega)
   rwa [List.take_length] at this
  exact E.ac ⟨by rw[e];rfl,by rw[e,Nat.sub_self];simp⟩
 refine dN (fun D r=> ∃ k:Nat,1≤k∧k≤l.length∧D= [(0,.own 0 l.length 0 l.length),(3,.int .i64 k)]∧r= [.ag 71 7 (ai l)]∧(∀ c (h:c < l.length),0 < c→c < k→l[c]≠l[c-1]))
  (fun D _=>match bs D 3 with| .int _ j=>(l.length-j).toNat|_=>0) ?_ ?_
 ·exact E.ac ⟨1,by omega,by omega,rfl,rfl,fun c h h1 G=>by omega⟩
 rintro D r ⟨k,kL,gO,rfl,rfl,ay⟩;have dn:=dB (c:=k) (by omega);have pV:IntKind.i64.wrap ((k:Int)-1)=((k-1:Nat):Int):=by rw[bl (by omega) (by omega)];omega
 simp only[go_sem,vn,wP];refine cf ?_ ?_<;>intro dI<;>simp only[bC] at dI<;>simp only[go_sem,vn,wP]
 rotate_left
 ·have e:il l=l:=by
   have:=Np (l:=l) l.length (Nat.le_refl _) (fun c h1 G au=>ay c h1 G (by omega))
   rwa [List.take_length] at this
  exact E.ac ⟨by rw[e];rfl,by rw[e,Nat.sub_self];simp⟩
 have aI:k < l.length:=by omega
 have h0: (0:Int)≤k:=by omega
 have h1: (k:Int) < l.length:=by omega
 have G: (0:Int)≤((k-1:Nat):Int):=by omega
 have au: ((k-1:Nat):Int) < l.length:=by omega
 have g1: (ai l).getD k []=aJ.J l[k]:=cT aI;have bR: (ai l).getD (k-1) []=aJ.J l[k-1]:=cT (by omega);simp only[go_sem,h0,h1,pV,G,au,g1,bR,agM,agN];refine cf ?_ ?_<;>intro ct<;>simp only[bC] at ct<;>simp only[go_sem,vn,wP]
 rotate_left
 ·simp only[go_sem,dn];refine E.ac ⟨⟨k+1,by omega,by omega,rfl,rfl,fun c h Rw OX=> ?_⟩,?_⟩
  ·rcases Nat.lt_or_ge c k with agP|agP
   ·exact ay c h Rw agP
   ·obtain rfl:c=k:=by omega
    exact ct
  ·simp only[go_sem];omega
 have yF: (k:Int)≤l.length:=by omega
 have aKb: ((l.length-k:Nat):Int)=(l.length:Int)-k:=by omega
 simp only[go_sem,h0,yF,Int.le_refl];refine dN (fun D r=> ∃ (j p:Nat) (C:List Ev),1≤j∧k+j≤l.length∧p+1≤k+j∧C.length=l.length∧C.drop (k+j-1)=l.drop (k+j-1)∧C.take p=il (l.take (k+j))∧D= [(0,.own 0 l.length 0 l.length),(3,.int .i64 p),(4,.own 0 l.length k (l.length-k)),(5,.int .i64 j)]∧r= [.ag 71 7 (ai C)])
  (fun D _=>match bs D 5 with| .int _ j=>(l.length-j).toNat|_=>0) ?_ ?_
 ·refine E.ac ⟨1,k,l,by omega,by omega,by omega,rfl,rfl,?_,rfl,rfl⟩;rw[Td (by omega) aI,if_pos ct,Np k (by omega) ay]
 clear ct dn pV h1 G au g1 bR dI;rintro D r ⟨j,p,C,Te,nC,aKc,IT,Nq,IU,rfl,rfl⟩;have dn:=dB (c:=j) (by omega);have nd:=dB (c:=p) (by omega);have pV:IntKind.i64.wrap ((j:Int)-1)=((j-1:Nat):Int):=by rw[bl (by omega) (by omega)];omega
 simp only[go_sem,vn,wP];refine cf ?_ ?_<;>intro fH<;>simp only[bC] at fH<;>simp only[go_sem,vn,wP]
 ·have aV:k+j < C.length:=by omega
  have c0: (0:Int)≤j:=by omega
  have c1: (j:Int) < ((l.length-k:Nat):Int):=by omega
  have c2: (0:Int)≤((j-1:Nat):Int):=by omega
  have c3: ((j-1:Nat):Int) < ((l.length-k:Nat):Int):=by omega
  have g1: (ai C).getD (k+j) []=aJ.J C[k+j]:=cT aV;have bR: (ai C).getD (k+(j-1)) []=aJ.J (C[k+j-1]'(by omega)):=by
   have e:k+(j-1)=k+j-1:=by omega
   rw[e];exact cT (by omega)
  have bF:C[k+j]=l[k+j]'(by omega):=agO Nq (by omega) aV (by omega);have bK:C[k+j-1]'(by omega)=l[k+j-1]'(by omega):=agO Nq (by omega) (by omega) (by omega);rw[bF] at g1;rw[bK] at bR;have dV:=Td (l:=l) (q:=k+j) (by omega) (by omega);simp only[go_sem,c0,c1,pV,c2,c3,g1,bR,agM,agN,IT];refine cf ?_ ?_<;>intro pd<;>simp only[go_sem,vn,wP]
  ·have hne: ¬l[k+j]'(by omega)=l[k+j-1]'(by omega):=by simpa using pd
   rw[if_neg hne] at dV;have p0: (0:Int)≤p:=by omega
   have p1: (p:Int) < l.length:=by omega
   have ak:p < C.length:=by omega
   have zI: ∀ x:Ev,List.drop 7 (aJ.J x)= []:=fun _=>rfl;simp only[go_sem,c0,c1,g1,p0,p1,IT,nd,dn];rw[cT ak,zI,List.append_nil,xS];refine E.ac ⟨⟨j+1,p+1,C.set p (l[k+j]'(by omega)),by omega,by omega,by omega,by rw[List.length_set];exact IT,?_,?_,rfl,rfl⟩,?_⟩
   ·rw[show k+(j+1)-1=k+j from by omega,List.drop_set_of_lt (by omega)];have:=congrArg (List.drop 1) Nq
    rwa [List.drop_drop,List.drop_drop,show k+j-1+1=k+j from by omega] at this
   ·rw[show k+(j+1)=k+j+1 from by omega,dV,←IU,List.take_succ_eq_append_getElem (by rw[List.length_set];exact ak),List.take_set_of_le (by omega)];simp
   ·simp only[go_sem];omega
  ·have he:l[k+j]'(by omega)=l[k+j-1]'(by omega):=by simpa using pd
   rw[if_pos he] at dV;simp only[go_sem,dn];refine E.ac ⟨⟨j+1,p,C,by omega,by omega,by omega,IT,?_,?_,rfl,rfl⟩,?_⟩
   ·rw[show k+(j+1)-1=k+j from by omega];have:=congrArg (List.drop 1) Nq
    rwa [List.drop_drop,List.drop_drop,show k+j-1+1=k+j from by omega] at this
   ·rw[show k+(j+1)=k+j+1 from by omega,dV];exact IU
   ·simp only[go_sem];omega
 ·have aCA:k+j=l.length:=by omega
  rw[aCA,List.take_length] at IU;have gy:p=(il l).length:=by rw[←IU,List.length_take];omega
  have p0: (0:Int)≤p:=by omega
  have p1: (p:Int)≤l.length:=by omega
  simp only[go_sem,p0,p1,Int.le_refl,IT];refine⟨by omega,?_⟩;have ba:List.replicate (l.length-p) [.int .i64 0,.int .i64 0,.int .i64 0,.int .i64 0,.int .i64 0,.int .i64 0,.int .i64 0]=ai (List.replicate (l.length-p) (⟨0,0,0,0,0,0,0⟩:Ev)):=by simp[ai,rJ]
  rw[ba];simp only[go_sem];have vO:KY C p (List.replicate (l.length-p) (⟨0,0,0,0,0,0,0⟩:Ev))=il l++List.replicate (l.length-(il l).length) (⟨0,0,0,0,0,0,0⟩:Ev):=by
   unfold KY;rw[IU,List.length_replicate,List.drop_of_length_le (by omega),List.append_nil,gy]
  rw[vO];have eA:=agQ l;refine⟨by rw[List.length_append,List.length_replicate];omega,?_⟩;exact E.ac ⟨by rw[←gy];rfl,rfl⟩
theorem agL (a b:List Ev)(aC:a.length≤1000000)(af:b.length≤1000000):aO prog 93 [.pure 7 (ai a),.pure 7 (ai b)] []
 (fun v rs=>v= .own 0 (fr (a++b)).length 0 (fr (a++b)).length∧rs= [.ag 71 7 (ai (fr (a++b)))]):=by
 refine hJ func93 adl (by simp[MY,TP]) ?_;simp only[go_sem,MY,TP]
 repeat (refine E.ac ?_;simp only[go_sem])
 have hl: (a++b).length≤2000000:=by rw[List.length_append];omega
 (refine fy [0] (aDM a b (by omega) (by omega)) ?_;rintro _ _ ⟨rfl,rfl⟩;simp only[go_sem])
 generalize eZ:a++b=X at *
 repeat (refine E.ac ?_;simp only[go_sem])
 (refine fy [1] (aCj X (by omega)) ?_;rintro _ _ ⟨rfl,cb,ak,ao,rfl⟩;simp only[go_sem])
 have iJ:=ak.length_eq;rw[←iJ] at hl ⊢
 repeat (refine E.ac ?_;simp only[go_sem])
 (refine fy [1] (aCz cb (by omega)) ?_;rintro _ _ ⟨rfl,rfl⟩;simp only[go_sem])
 have eA:=agQ cb;have bc:=aDS ak ao;rw[bc] at eA ⊢
 repeat (refine E.ac ?_;simp only[go_sem])
 refine E.oc (.ei (am:=ai (fr X++List.replicate (cb.length-(fr X).length) ⟨0,0,0,0,0,0,0⟩)) 0 1 cb.length (fr X).length rfl rfl (by rw[bT,List.length_append,List.length_replicate];omega)) ?_;have ht: (ai (fr X++List.replicate (cb.length-(fr X).length) (⟨0,0,0,0,0,0,0⟩:Ev))).take (fr X).length=ai (fr X):=by
  unfold ai;rw[←List.map_take,List.take_left]
 rw[ht];simp only[go_sem]
 (refine E.bB [some 2] ?_;simp only[go_sem])
 exact E.ac ⟨rfl,rfl⟩
theorem aNL (a b:Int):gT a b= -1∨gT a b=0∨gT a b=1:=by unfold gT;split<;>(try split)<;>simp
theorem aMx: ∀ {aq:List Int},(∀ x∈aq,x= -1∨x=0∨x=1)→ow aq= -1∨ow aq=0∨ow aq=1
 | [],_=>by simp[ow]
 |x::aq,h=>by
  rw[ow];split
  ·exact aMx fun d bt=>h d (List.mem_cons_of_mem _ bt)
  ·exact h x List.mem_cons_self
theorem aNM: ∀ {aq:List Int},ow aq=0↔ ∀ x∈aq,x=0
 | []=>by simp[ow]
 |x::aq=>by
  rw[ow];split
  ·next h=>rw[aNM];simp[h]
  ·next h=>simp[h]
theorem aPI (a b:Ky):vp a b= -1∨vp a b=0∨vp a b=1:=aMx (by simp[aNL])
theorem aNN (a b:Ev):IQ a b= -1∨IQ a b=0∨IQ a b=1:=aMx (by simp[aNL,aPI])
theorem aMy {a b:Ev}:IQ a b=0↔a=b:=by
 unfold IQ;rw[aNM];simp only[List.mem_cons,List.not_mem_nil,or_false,forall_eq_or_imp,forall_eq,agE,tQ];constructor
 ·rintro⟨⟨h1,G⟩,au,bv,cx,dx,oN⟩;exact Ev.ext' h1 G au bv cx dx oN
 ·rintro rfl;simp
theorem aLc {a b:Ev}(h:jy a b):IQ a b= -1:=by
 have:=aNN a b;have:=agH.2 h;omega
theorem aLd {a b:Ev}(h:jy b a):IQ a b=1:=by
 have h1:=aNN a b;have G: ¬IQ a b < 0:=fun au=>aDO h (agH.1 au);have au: ¬IQ a b=0:=fun au=>ahF a (by have:=aMy.1 au;subst this;exact h);omega
theorem aNK {a b:Ev}:0 < IQ a b↔jy b a:=by
 constructor
 ·intro h;apply Classical.byContradiction;intro G
  by_cases au:jy a b
  ·have:=aLc au;omega
  ·have:=aMy.2 (ahG au G);omega
 ·intro h;have:=aLd h;omega
theorem aPG (a b:Ev):aO prog 246 [.agg (aJ.J a),.agg (aJ.J b)] [] (fun v rs=>v= .int .i64 (IQ a b)∧rs= []):=by
 refine cu func246 aBu (by simp[afw,aHk]) ?_;simp only[go_sem,afw,aHk,rJ];refine dN (fun D r=> ∃ c:Int,0≤c∧c≤7∧(1≤c→a.cZ=b.cZ)∧(2≤c→a.Y=b.Y)∧(3≤c→a.bk=b.bk)∧(4≤c→a.time=b.time)∧(5≤c→a.cB=b.cB)∧(6≤c→a.iq=b.iq)∧(7≤c→a.eg=b.eg)∧D= [(5,.bd 0 1 0 0),(6,.bd 1 1 0 0),(7,.int .i64 c)]∧r= [.ag 382 7 [[.int .i64 a.cZ,.int .i64 a.Y,.int .i64 a.bk,.int .i64 a.time,.int .i64 a.cB,.int .i64 a.iq,.int .i64 a.eg]],.ag 382 7 [[.int .i64 b.cZ,.int .i64 b.Y,.int .i64 b.bk,.int .i64 b.time,.int .i64 b.cB,.int .i64 b.iq,.int .i64 b.eg]]])
  (fun D _=>match bs D 7 with| .int _ j=>(7-j).toNat|_=>0) ?_ ?_
 ·(refine E.bB [some 2,some 3] ?_;simp only[go_sem])
  exact E.ac ⟨0,by omega,by omega,by omega,by omega,by omega,by omega,by omega,by omega,by omega,rfl,rfl⟩
 rintro D r ⟨c,Rw,aP1,bF,bK,gX,rt,Q4,Q5,aLt,rfl,rfl⟩;have av:c=0∨c=1∨c=2∨c=3∨c=4∨c=5∨c=6∨c=7:=by omega
 rcases av with rfl|rfl|rfl|rfl|rfl|rfl|rfl|rfl
 ·have w:IntKind.i64.wrap (0+1)=1:=by rw[bl (by omega) (by omega)];omega
  simp only[go_sem,afw,aHk];refine cf ?_ ?_<;>intro aw<;>simp only[bC] at aw<;>simp only[go_sem,afw,aHk]
  ·exact E.bg rfl ⟨by rw[aLc (by unfold jy;omega)],rfl⟩
  refine cf ?_ ?_<;>intro ct<;>simp only[bC] at ct<;>simp only[go_sem,afw,aHk,w]
  ·exact E.bg rfl ⟨by rw[aLd (by unfold jy;omega)],rfl⟩
  refine E.ac ⟨⟨1,by omega,by omega,by omega,by omega,by omega,by omega,by omega,by omega,by omega,rfl,rfl⟩,?_⟩;simp only[go_sem];omega
 ·have w:IntKind.i64.wrap (1+1)=2:=by rw[bl (by omega) (by omega)];omega
  simp only[go_sem,afw,aHk];refine cf ?_ ?_<;>intro aw<;>simp only[bC] at aw<;>simp only[go_sem,afw,aHk]
  ·exact E.bg rfl ⟨by rw[aLc (by unfold jy;omega)],rfl⟩
  refine cf ?_ ?_<;>intro ct<;>simp only[bC] at ct<;>simp only[go_sem,afw,aHk,w]
  ·exact E.bg rfl ⟨by rw[aLd (by unfold jy;omega)],rfl⟩
  refine E.ac ⟨⟨2,by omega,by omega,by omega,by omega,by omega,by omega,by omega,by omega,by omega,rfl,rfl⟩,?_⟩;simp only[go_sem];omega
 ·have w:IntKind.i64.wrap (2+1)=3:=by rw[bl (by omega) (by omega)];omega
  simp only[go_sem,afw,aHk];refine cf ?_ ?_<;>intro aw<;>simp only[bC] at aw<;>simp only[go_sem,afw,aHk]
  ·exact E.bg rfl ⟨by rw[aLc (by unfold jy;omega)],rfl⟩
  refine cf ?_ ?_<;>intro ct<;>simp only[bC] at ct<;>simp only[go_sem,afw,aHk,w]
  ·exact E.bg rfl ⟨by rw[aLd (by unfold jy;omega)],rfl⟩
  refine E.ac ⟨⟨3,by omega,by omega,by omega,by omega,by omega,by omega,by omega,by omega,by omega,rfl,rfl⟩,?_⟩;simp only[go_sem];omega
 ·have w:IntKind.i64.wrap (3+1)=4:=by rw[bl (by omega) (by omega)];omega
  simp only[go_sem,afw,aHk];refine cf ?_ ?_<;>intro aw<;>simp only[bC] at aw<;>simp only[go_sem,afw,aHk]
  ·exact E.bg rfl ⟨by rw[aLc (by unfold jy;omega)],rfl⟩
  refine cf ?_ ?_<;>intro ct<;>simp only[bC] at ct<;>simp only[go_sem,afw,aHk,w]
  ·exact E.bg rfl ⟨by rw[aLd (by unfold jy;omega)],rfl⟩
  refine E.ac ⟨⟨4,by omega,by omega,by omega,by omega,by omega,by omega,by omega,by omega,by omega,rfl,rfl⟩,?_⟩;simp only[go_sem];omega
 ·have w:IntKind.i64.wrap (4+1)=5:=by rw[bl (by omega) (by omega)];omega
  simp only[go_sem,afw,aHk];refine cf ?_ ?_<;>intro aw<;>simp only[bC] at aw<;>simp only[go_sem,afw,aHk]
  ·exact E.bg rfl ⟨by rw[aLc (by unfold jy;omega)],rfl⟩
  refine cf ?_ ?_<;>intro ct<;>simp only[bC] at ct<;>simp only[go_sem,afw,aHk,w]
  ·exact E.bg rfl ⟨by rw[aLd (by unfold jy;omega)],rfl⟩
  refine E.ac ⟨⟨5,by omega,by omega,by omega,by omega,by omega,by omega,by omega,by omega,by omega,rfl,rfl⟩,?_⟩;simp only[go_sem];omega
 ·have w:IntKind.i64.wrap (5+1)=6:=by rw[bl (by omega) (by omega)];omega
  simp only[go_sem,afw,aHk];refine cf ?_ ?_<;>intro aw<;>simp only[bC] at aw<;>simp only[go_sem,afw,aHk]
  ·exact E.bg rfl ⟨by rw[aLc (by unfold jy;omega)],rfl⟩
  refine cf ?_ ?_<;>intro ct<;>simp only[bC] at ct<;>simp only[go_sem,afw,aHk,w]
  ·exact E.bg rfl ⟨by rw[aLd (by unfold jy;omega)],rfl⟩
  refine E.ac ⟨⟨6,by omega,by omega,by omega,by omega,by omega,by omega,by omega,by omega,by omega,rfl,rfl⟩,?_⟩;simp only[go_sem];omega
 ·have w:IntKind.i64.wrap (6+1)=7:=by rw[bl (by omega) (by omega)];omega
  simp only[go_sem,afw,aHk];refine cf ?_ ?_<;>intro aw<;>simp only[bC] at aw<;>simp only[go_sem,afw,aHk]
  ·exact E.bg rfl ⟨by rw[aLc (by unfold jy;omega)],rfl⟩
  refine cf ?_ ?_<;>intro ct<;>simp only[bC] at ct<;>simp only[go_sem,afw,aHk,w]
  ·exact E.bg rfl ⟨by rw[aLd (by unfold jy;omega)],rfl⟩
  refine E.ac ⟨⟨7,by omega,by omega,by omega,by omega,by omega,by omega,by omega,by omega,by omega,rfl,rfl⟩,?_⟩;simp only[go_sem];omega
 ·simp only[go_sem,afw,aHk];have e:a=b:=Ev.ext' (by omega) (by omega) (by omega) (by omega) (by omega) (by omega) (by omega);exact E.bg rfl ⟨by rw[aMy.2 e],rfl⟩
end Go.Proofs.YtpincjkjoeopkaaGreatDoor.Ib
