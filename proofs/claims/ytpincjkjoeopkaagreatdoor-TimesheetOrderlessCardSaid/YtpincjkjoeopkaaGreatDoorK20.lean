/- Calendar and premiums. -/
import Derived.Test.YtpincjkjoeopkaaGreatDoorK15
import Derived.Test.YtpincjkjoeopkaaGreatDoorK14
import Derived.Test.YtpincjkjoeopkaaGreatDoorK17
set_option linter.unusedSimpArgs false
set_option linter.unusedVariables false
set_option linter.unusedSectionVars false
namespace Go.Proofs.YtpincjkjoeopkaaGreatDoor.Pm
open Go Go.Abs
def rW (y:Int):Int:=y / 4-y / 100+y / 400
def kZ (y:Int):Int:=365*(y-1970)+rW (y-1)-477
def xD:Nat→Int→Int→Int
 |0,y,_=>y
 |k+1,y,o=>if kZ (y+1)≤o then xD k (y+1) o else y
def eK (o:Int):Int:=xD 400 (1970+o / 366) o
def mF (y:Int):Nat→Int
 |0=>0
 |k+1=>mF y k+hH y (k+1)
def lS (y m o:Int):Int:=kZ y+mF y (m-1).toNat+o-1
def EI:Nat→Int→Int→Int→Int×Int
 |0,_,m,i=>(m,i)
 |k+1,y,m,i=>if hH y m≤i then EI k y (m+1) (i-hH y m) else (m,i)
theorem xE {y m:Int}(h1:1≤m)(B:m≤12):28≤hH y m∧hH y m≤31:=by
 obtain rfl|rfl|rfl|rfl|rfl|rfl|rfl|rfl|rfl|rfl|rfl|rfl:m=1∨m=2∨m=3∨m=4∨m=5∨m=6∨m=7∨m=8∨m=9∨m=10∨m=11∨m=12:=by omega
 all_goals simp[hH,eB]
 split<;>omega
theorem aCB (y:Int):mF y 12=if yM y=true then 366 else 365:=by
 simp only[mF];simp only[hH,eB];cases h:yM y<;>simp
theorem agt {y:Int}:yM y=true↔y%4=0∧(¬y%100=0∨y%400=0):=by
 simp only[yM,Bool.and_eq_true,Bool.or_eq_true,Bool.not_eq_true',decide_eq_true_eq,decide_eq_false_iff_not]
theorem aCC (y:Int):kZ (y+1)=kZ y+mF y 12:=by
 rw[aCB];simp only[kZ,rW];split
 ·rename_i h;rw[agt] at h;omega
 ·rename_i h;rw[agt] at h;omega
theorem MA {y:Int}(h0:1970≤y)(h1:y≤2300):365*(y-1970)≤kZ y∧kZ y≤365*(y-1970)+(y-1970):=by
 simp only[kZ,rW];omega
theorem agu: ∀ (k:Nat) (y o:Int),1970≤y→y+k≥2250→y≤2240→0≤o→o≤90000→kZ y≤o→kZ (xD k y o)≤o∧o < kZ (xD k y o+1)∧1970≤xD k y o∧xD k y o≤2240
 |0,y,o,_,_,_,_,_,_=>by omega
 |k+1,y,o,h1,B,am,bp,cn,dj=>by
  rw[xD];split
  ·rename_i h;have Z:=MA (y:=y+1) (by omega) (by omega);exact agu k (y+1) o (by omega) (by omega) (by omega) bp cn h
  ·rename_i h;exact⟨dj,by omega,by omega,by omega⟩
theorem agv {o:Int}(h0:0≤o)(h1:o≤90000):kZ (eK o)≤o∧o < kZ (eK o+1)∧1970≤eK o∧eK o≤2240:=by
 have Z:=MA (y:=1970+o / 366) (by omega) (by omega);exact agu 400 _ o (by omega) (by omega) (by omega) h0 h1 (by omega)
def HU (o:Int):Int×Int:=EI 12 (eK o) 1 (o-kZ (eK o))
open Go.Proofs.Tryz
theorem agB (y:Int)(h0:0≤y)(h1:y≤1000000):aK prog 312 [.int .i64 y] [] (fun v rs=>v= .int .i64 (rW y)∧rs= []):=by
 refine cr func312 aeG (by simp[Ma,SP]) ?_;simp only[go_sem,Ma,SP];simp only[Int.tdiv_eq_ediv_of_nonneg h0];rw[bf (x:=y / 4) (by omega) (by omega),bf (x:=y / 100) (by omega) (by omega),bf (x:=y / 400) (by omega) (by omega),bf (x:=y / 4-y / 100) (by omega) (by omega),bf (by omega) (by omega)];refine⟨by decide,by decide,by decide,?_⟩;exact s.bb rfl ⟨by rw[rW],rfl⟩
theorem SQ (y:Int)(h0:1≤y)(h1:y≤100000):aK prog 254 [.int .i64 y] [] (fun v rs=>v= .int .i64 (kZ y)∧rs= []):=by
 refine cr func254 aek (by simp[L8,SR]) ?_;simp only[go_sem,L8,SR];rw[bf (x:=y-1) (by omega) (by omega),bf (x:=y-1970) (by omega) (by omega),bf (by omega) (by omega)];refine bH (agB (y-1) (by omega) (by omega)) rfl rfl ?_;have hl:0≤rW (y-1)∧rW (y-1)≤100000:=by simp only[rW];omega
 have Z:kZ y=365*(y-1970)+rW (y-1)-rW 1969:=rfl;rw[Z];generalize rW (y-1)=a at hl ⊢;simp only[go_sem];rw[bf (by omega) (by omega)];refine bH (agB 1969 (by omega) (by omega)) rfl rfl ?_;rw[show rW 1969=477 from rfl];simp only[go_sem];rw[bf (by omega) (by omega)];exact s.bb rfl ⟨rfl,rfl⟩
theorem mY (o:Int):aK prog 252 [.int .i64 o] [] (fun v rs=>v= .bool (decide (0≤o∧o≤84005))∧rs= []):=by
 refine cr func252 aei (by simp[Hy,MC]) ?_;simp only[go_sem,Hy,MC]
 repeat' ((first|refine gF ?_ ?_|refine gP ?_ ?_|refine cg ?_ ?_|refine dg ?_ ?_)<;>intro ao<;>(have ae:=ao;try simp only[bA] at ae)<;>(first|omega| (simp only[go_sem,ao,Hy,MC];clear ao)))
 all_goals (refine s.bb rfl ⟨congrArg z.bool ?_,rfl⟩;rw[Bool.eq_iff_iff];simp only[bA,Bool.false_eq_true,false_iff];omega)
def lT (o:Int):Int:=(o+3)%7
theorem agC (x:Int): -7 < x.tmod 7∧x.tmod 7 < 7∧(x.tmod 7+7)%7=x%7:=by
 rw[Int.tmod_eq_emod];split<;>omega
theorem MD (o:Int)(h0: -1000000≤o)(h1:o≤1000000):aK prog 372 [.int .i64 o] [] (fun v rs=>v= .int .i64 (lT o)∧rs= []):=by
 refine cr func372 afa (by simp[Md,SS]) ?_;obtain⟨a,b,F⟩:=agC (o+3);simp only[go_sem,Md,SS];rw[bf (x:=o+3) (by omega) (by omega),bf (by omega) (by omega),Int.tmod_eq_emod_of_nonneg (a:=(o+3).tmod 7+7) (by omega),F];exact⟨by decide,by decide,s.bb rfl ⟨rfl,rfl⟩⟩
theorem aCI (o:Int)(h0:0≤o)(h1:o≤90000):aK prog 253 [.int .i64 o] [] (fun v rs=>v= .int .i64 (eK o)∧rs= []):=by
 refine cr func253 aej (by simp[Ep,HW]) ?_;simp only[go_sem,Ep,HW];refine⟨by decide,?_⟩;rw[Int.tdiv_eq_ediv_of_nonneg h0,bf (x:=o / 366) (by omega) (by omega),bf (by omega) (by omega)];refine dR (fun r d=> ∃ (k:Nat) (y:Int),eK o=xD k y o∧1970≤y∧y+k≥2250∧y≤2240∧kZ y≤o∧r= [(0,.int .i64 o),(3,.int .i64 y)]∧d= [])
  (fun r _=>match bn r 3 with| .int _ j=>(3000-j).toNat|_=>0) ?_ ?_
 ·have Z:=MA (y:=1970+o / 366) (by omega) (by omega);exact s.U ⟨400,1970+o / 366,rfl,by omega,by omega,by omega,by omega,rfl,rfl⟩
 ·rintro r d ⟨k,y,bl,B,am,bp,cn,rfl,rfl⟩;simp only[go_sem,Ep,HW];rw[bf (by omega) (by omega)];refine bH (SQ (y+1) (by omega) (by omega)) rfl rfl ?_;simp only[go_sem];obtain⟨k,rfl⟩: ∃ j,k=j+1:=⟨k-1,by omega⟩;rw[xD] at bl;refine cg ?_ ?_<;>intro dL<;>simp only[bA] at dL<;>simp only[go_sem,Ep,HW]
  ·rw[if_pos dL] at bl;have Z:=MA (y:=y+1) (by omega) (by omega);rw[bf (by omega) (by omega)];refine s.U ⟨⟨k,y+1,bl,by omega,by omega,by omega,dL,rfl,rfl⟩,?_⟩;simp only[go_sem];omega
  ·rw[if_neg (by omega)] at bl;exact s.bb rfl ⟨by rw[bl],rfl⟩
theorem ME (y:Int): ∀ k:Nat,k≤12→28*k≤mF y k∧mF y k≤31*k
 |0,_=>by simp[mF]
 |k+1,h=>by
  have ih:=ME y k (by omega);have hl:=xE (y:=y) (m:=k+1) (by omega) (by omega);rw[mF];omega
theorem SU {y:Int}(h0:1969≤y)(h1:y≤2300): -1000≤kZ y∧kZ y≤200000:=by
 simp only[kZ,rW];omega
theorem agD (y m o:Int)(h0:1970≤y)(h1:y≤2300)(B:1≤m)(am:m≤12)(bp: -1000≤o)(cn:o≤1000):aK prog 191 [.int .i64 y,.int .i64 m,.int .i64 o] [] (fun v rs=>v= .int .i64 (lS y m o)∧rs= []):=by
 refine cr func191 adq (by simp[Ek,HX]) ?_;have pe:=SU (y:=y) (by omega) h1;simp only[go_sem,Ek,HX];refine bH (SQ y (by omega) (by omega)) rfl rfl ?_;simp only[go_sem];refine dR (fun r d=> ∃ (k:Nat),(k:Int)+1≤m∧r= [(0,.int .i64 y),(1,.int .i64 m),(2,.int .i64 o),(7,.int .i64 (kZ y+mF y k)),(8,.int .i64 (k+1))]∧d= [])
  (fun r _=>match bn r 8 with| .int _ j=>(m-j).toNat|_=>0) ?_ ?_
 ·exact s.U ⟨0,by omega,by simp[mF],rfl⟩
 ·rintro r d ⟨k,I,rfl,rfl⟩;have QF:=ME y k (by omega);simp only[go_sem,Ek,HX];refine cg ?_ ?_<;>intro dL<;>simp only[bA] at dL<;>simp only[go_sem,Ek,HX]
  ·have hl:=xE (y:=y) (m:=k+1) (by omega) (by omega);refine bH (DF y (k+1) (by omega) (by omega) (by omega)) rfl rfl ?_;simp only[go_sem];rw[bf (x:=(k:Int)+1+1) (by omega) (by omega),bf (by omega) (by omega)];refine s.U ⟨⟨k+1,by omega,by rw[mF,Int.add_assoc];rfl,rfl⟩,?_⟩;simp only[go_sem];omega
  ·rw[bf (x:=kZ y+mF y k+o) (by omega) (by omega),bf (by omega) (by omega)];exact s.bb rfl ⟨by rw[lS,show (m-1).toNat=k from by omega],rfl⟩
def nl (y m o:Int):Int×Bool:=if 1970≤y∧y≤2199∧1≤m∧m≤12∧1≤o∧o≤hH y m then (lS y m o,true) else (0,false)
theorem agE (y m o:Int):aK prog 369 [.int .i64 y,.int .i64 m,.int .i64 o] [] (fun v rs=>v= .bg [.int .i64 (nl y m o).1,.bool (nl y m o).2]∧rs= []):=by
 refine cr func369 aeX (by simp[Eu,HY]) ?_;have qj: ¬(1970≤y∧y≤2199∧1≤m∧m≤12∧1≤o∧o≤hH y m)→nl y m o=(0,false):=fun h=>by rw[nl,if_neg h]
 simp only[go_sem,Eu,HY]
 repeat' ((first|refine gF ?_ ?_|refine gP ?_ ?_|refine cg ?_ ?_|refine dg ?_ ?_)<;>intro ao<;>(have ae:=ao;try simp only[bA] at ae)<;>(first|omega| (simp only[go_sem,ao,Eu,HY];clear ao)))
 any_goals exact s.bb rfl ⟨by rw[qj (by omega)],rfl⟩
 refine bH (DF y m (by omega) (by omega) (by omega)) rfl rfl ?_;simp only[go_sem];refine cg ?_ ?_<;>intro dL<;>simp only[bA] at dL<;>simp only[go_sem,Eu,HY]
 ·exact s.bb rfl ⟨by rw[qj (by omega)],rfl⟩
 ·have hl:=xE (y:=y) (m:=m) (by omega) (by omega);refine bH (agD y m o (by omega) (by omega) (by omega) (by omega) (by omega) (by omega)) rfl rfl ?_;simp only[go_sem];exact s.bb rfl ⟨by rw[nl,if_pos (by omega)],rfl⟩
def ti (o:Int):Prop:=0≤o∧o≤84005
instance (o:Int):Decidable (ti o):=by unfold ti;infer_instance
theorem aCJ (o:Int):aK prog 190 [.int .i64 o] [] (fun v rs=>v=(if ti o then .bg [.int .i64 (eK o),.int .i64 (HU o).1,.int .i64 ((HU o).2+1),.bool true] else .bg [.int .i64 0,.int .i64 0,.int .i64 0,.bool false])∧rs= []):=by
 refine cr func190 adp (by simp[BL,EJ]) ?_;simp only[go_sem,BL,EJ];refine bH (mY o) rfl rfl ?_;simp only[go_sem];refine cg ?_ ?_<;>intro dL<;>simp only[bA] at dL<;>simp only[go_sem,BL,EJ]
 ·exact s.bb rfl ⟨by rw[if_neg (show ¬ti o from dL)],rfl⟩
 rw[if_pos (show ti o from dL)];obtain⟨a,b,F,e⟩:=agv (o:=o) (by omega) (by omega);have pe:=SU (y:=eK o) (by omega) (by omega);rw[aCC] at b;refine bH (aCI o (by omega) (by omega)) rfl rfl ?_;simp only[go_sem];refine bH (SQ (eK o) (by omega) (by omega)) rfl rfl ?_;simp only[go_sem];rw[bf (by omega) (by omega)];have rX:HU o=EI 12 (eK o) 1 (o-kZ (eK o)):=rfl;generalize eK o=y at *;refine dR (fun r d=> ∃ (k m:Nat) (i:Int),HU o=EI k y m i∧1≤m∧m≤12∧12≤m+k∧0≤i∧i≤400∧i < mF y 12-mF y (m-1)∧r= [(6,.int .i64 y),(7,.int .i64 i),(8,.int .i64 m)]∧d= [])
  (fun r _=>match bn r 8 with| .int _ j=>(13-j).toNat|_=>0) ?_ ?_
 ·have aIP:=ME y 12 (by omega);exact s.U ⟨12,1,_,rX,by omega,by omega,by omega,by omega,by omega,by show _ < mF y 12-0;omega,rfl,rfl⟩
 ·rintro r d ⟨k,m,i,hm,h1,B,am,bp,cn,dj,rfl,rfl⟩;have hl:=xE (y:=y) (m:=m) (by omega) (by omega);obtain⟨j,rfl⟩: ∃ j,m=j+1:=⟨m-1,by omega⟩;simp only[Nat.add_sub_cancel] at dj;have ak:mF y (j+1)=mF y j+hH y (((j+1:Nat):Int)):=rfl;simp only[go_sem,BL,EJ];refine bH (DF y ((j+1:Nat):Int) (by omega) (by omega) (by omega)) rfl rfl ?_;simp only[go_sem];refine cg ?_ ?_<;>intro ck<;>simp only[bA] at ck<;>simp only[go_sem,BL,EJ]
  ·refine bH (DF y ((j+1:Nat):Int) (by omega) (by omega) (by omega)) rfl rfl ?_;simp only[go_sem];rw[bf (by omega) (by omega),bf (by omega) (by omega)];have aT:j+1 < 12:=by
    rcases Nat.lt_or_ge (j+1) 12 with h|h
    ·exact h
    ·exfalso;have nA:j=11:=by omega
     subst nA;have aIQ:mF y 12=mF y (11+1):=rfl;omega
   obtain⟨k,rfl⟩: ∃ c,k=c+1:=⟨k-1,by omega⟩;rw[EI,if_pos ck] at hm;refine s.U ⟨⟨k,j+2,_,hm,by omega,by omega,by omega,by omega,by omega,by simp only[show j+2-1=j+1 from rfl];omega,rfl,rfl⟩,?_⟩;simp only[go_sem];omega
  ·rw[bf (by omega) (by omega)];have Ln:HU o=(((j+1:Nat):Int),i):=by
    rw[hm];cases k with
    |zero=>rfl
    |succ k=>rw[EI,if_neg (by omega)]
   exact s.bb rfl ⟨by rw[Ln],rfl⟩
def agF (o:Int):Int:=if ti o then lT o else -1
def pu (y:Int):Prop:=1970≤y∧y≤2199
instance (o:Int):Decidable (pu o):=by unfold pu;infer_instance
def HZ (y:Int):Int:=(19*(y%19)+y / 100-y / 100 / 4-(y / 100-(y / 100+8) / 25+1) / 3+15)%30
def MF (y:Int):Int:=(32+2*(y / 100%4)+2*(y%100 / 4)-HZ y-y%100%4)%7
def tj (y:Int):Int:=HZ y+MF y-7*((y%19+11*HZ y+22*MF y) / 451)+114
theorem aCK {y:Int}:0≤y%19∧y%19≤18:=by omega
theorem aCL {y:Int}(bl:1970≤y∧y≤2199):19≤y / 100∧y / 100≤21:=by omega
theorem aCM {y:Int}:0≤y%100∧y%100≤99:=by omega
theorem aCN {F:Int}(zL:19≤F∧F≤21):1≤(F+8) / 25∧(F+8) / 25≤1:=by omega
theorem aCO {F q:Int}(zL:19≤F∧F≤21)(MG:1≤q∧q≤1):6≤(F-q+1) / 3∧(F-q+1) / 3≤7:=by omega
theorem aCP {F:Int}(zL:19≤F∧F≤21):4≤F / 4∧F / 4≤5:=by omega
theorem aCQ {x:Int}:0≤x%30∧x%30≤29:=by omega
theorem aCR {x:Int}:0≤x%4∧x%4≤3:=by omega
theorem aCS {i:Int}(en:0≤i∧i≤99):0≤i / 4∧i / 4≤24:=by omega
theorem aCT {x:Int}:0≤x%4∧x%4≤3:=by omega
theorem aCU {x:Int}:0≤x%7∧x%7≤6:=by omega
theorem aCV {g fz le:Int}(MH:0≤g∧g≤18)(EK:0≤fz∧fz≤29)(EL:0≤le∧le≤6):0≤(g+11*fz+22*le) / 451∧(g+11*fz+22*le) / 451≤1:=by omega
theorem aCW {fz le ek:Int}(EK:0≤fz∧fz≤29)(EL:0≤le∧le≤6)(MI:0≤ek∧ek≤1):3≤(fz+le-7*ek+114) / 31∧(fz+le-7*ek+114) / 31≤4:=by omega
theorem aCX {x:Int}:0≤x%31∧x%31≤30:=by omega
theorem aCY {y g F i q qk c4 fz nm eG ux le ek a b:Int}(AM:1970≤y∧y≤2199)(MH:0≤g∧g≤18)(zL:19≤F∧F≤21)(en:0≤i∧i≤99)(MG:1≤q∧q≤1)(agG:6≤qk∧qk≤7)(agH:4≤c4∧c4≤5)(EK:0≤fz∧fz≤29)(agI:0≤nm∧nm≤3)(agJ:0≤eG∧eG≤24)(agK:0≤ux∧ux≤3)(EL:0≤le∧le≤6)(MI:0≤ek∧ek≤1)(agL:3≤a∧a≤4)(uI:0≤b∧b≤30):
 (IntKind.i64.wrap (F)=F∧IntKind.i64.wrap (F+8)=F+8∧IntKind.i64.wrap (q)=q∧IntKind.i64.wrap (F-q)=F-q∧IntKind.i64.wrap (F-q+1)=F-q+1∧IntKind.i64.wrap (qk)=qk∧IntKind.i64.wrap (19*g)=19*g∧IntKind.i64.wrap (19*g+F)=19*g+F∧IntKind.i64.wrap (c4)=c4∧IntKind.i64.wrap (19*g+F-c4)=19*g+F-c4∧IntKind.i64.wrap (19*g+F-c4-qk)=19*g+F-c4-qk∧IntKind.i64.wrap (19*g+F-c4-qk+15)=19*g+F-c4-qk+15∧IntKind.i64.wrap (2*nm)=2*nm∧IntKind.i64.wrap (32+2*nm)=32+2*nm∧IntKind.i64.wrap (eG)=eG∧IntKind.i64.wrap (2*eG)=2*eG∧IntKind.i64.wrap (32+2*nm+2*eG)=32+2*nm+2*eG∧IntKind.i64.wrap (32+2*nm+2*eG-fz)=32+2*nm+2*eG-fz∧IntKind.i64.wrap (32+2*nm+2*eG-fz-ux)=32+2*nm+2*eG-fz-ux∧IntKind.i64.wrap (11*fz)=11*fz∧IntKind.i64.wrap (g+11*fz)=g+11*fz∧IntKind.i64.wrap (22*le)=22*le∧IntKind.i64.wrap (g+11*fz+22*le)=g+11*fz+22*le∧IntKind.i64.wrap (ek)=ek∧IntKind.i64.wrap (fz+le)=fz+le∧IntKind.i64.wrap (7*ek)=7*ek∧IntKind.i64.wrap (fz+le-7*ek)=fz+le-7*ek∧IntKind.i64.wrap (fz+le-7*ek+114)=fz+le-7*ek+114∧IntKind.i64.wrap (a)=a∧IntKind.i64.wrap (b+1)=b+1)∧(0≤y∧0≤y∧0≤y∧0≤F+8∧0≤F-q+1∧0≤F∧0≤19*g+F-c4-qk+15∧0≤F∧0≤i∧0≤i∧0≤32+2*nm+2*eG-fz-ux∧0≤g+11*fz+22*le∧0≤fz+le-7*ek+114∧0≤fz+le-7*ek+114):=by
 refine⟨⟨bf (by omega) (by omega),bf (by omega) (by omega),bf (by omega) (by omega),bf (by omega) (by omega),bf (by omega) (by omega),bf (by omega) (by omega),bf (by omega) (by omega),bf (by omega) (by omega),bf (by omega) (by omega),bf (by omega) (by omega),bf (by omega) (by omega),bf (by omega) (by omega),bf (by omega) (by omega),bf (by omega) (by omega),bf (by omega) (by omega),bf (by omega) (by omega),bf (by omega) (by omega),bf (by omega) (by omega),bf (by omega) (by omega),bf (by omega) (by omega),bf (by omega) (by omega),bf (by omega) (by omega),bf (by omega) (by omega),bf (by omega) (by omega),bf (by omega) (by omega),bf (by omega) (by omega),bf (by omega) (by omega),bf (by omega) (by omega),bf (by omega) (by omega),bf (by omega) (by omega)⟩,by omega,by omega,by omega,by omega,by omega,by omega,by omega,by omega,by omega,by omega,by omega,by omega,by omega,by omega⟩
theorem aCZ (y:Int)(bl:pu y):aK prog 370 [.int .i64 y] [] (fun v rs=>v= .bg [.int .i64 (nl y (tj y / 31) (tj y%31+1)).1,.bool (nl y (tj y / 31) (tj y%31+1)).2]∧rs= []):=by
 refine hr func370 aeY (by simp[Mc,SV]) ?_;unfold pu at bl;obtain⟨g,ao⟩: ∃ D:Int,D=y%19:=⟨_,rfl⟩;have MH:0≤g∧g≤18:=by rw[ao];exact aCK
 obtain⟨F,V⟩: ∃ D:Int,D=y / 100:=⟨_,rfl⟩;have zL:19≤F∧F≤21:=by rw[V];exact aCL bl
 obtain⟨i,G⟩: ∃ D:Int,D=y%100:=⟨_,rfl⟩;have en:0≤i∧i≤99:=by rw[G];exact aCM
 obtain⟨q,aQ⟩: ∃ D:Int,D=(F+8) / 25:=⟨_,rfl⟩;have MG:1≤q∧q≤1:=by rw[aQ];exact aCN zL
 obtain⟨qk,uk⟩: ∃ D:Int,D=(F-q+1) / 3:=⟨_,rfl⟩;have agG:6≤qk∧qk≤7:=by rw[uk];exact aCO zL MG
 obtain⟨c4,SW⟩: ∃ D:Int,D=F / 4:=⟨_,rfl⟩;have agH:4≤c4∧c4≤5:=by rw[SW];exact aCP zL
 obtain⟨fz,SX⟩: ∃ D:Int,D=(19*g+F-c4-qk+15)%30:=⟨_,rfl⟩;have EK:0≤fz∧fz≤29:=by rw[SX];exact aCQ
 obtain⟨nm,Dl⟩: ∃ D:Int,D=F%4:=⟨_,rfl⟩;have agI:0≤nm∧nm≤3:=by rw[Dl];exact aCR
 obtain⟨eG,KN⟩: ∃ D:Int,D=i / 4:=⟨_,rfl⟩;have agJ:0≤eG∧eG≤24:=by rw[KN];exact aCS en
 obtain⟨ux,IG⟩: ∃ D:Int,D=i%4:=⟨_,rfl⟩;have agK:0≤ux∧ux≤3:=by rw[IG];exact aCT
 obtain⟨le,ed⟩: ∃ D:Int,D=(32+2*nm+2*eG-fz-ux)%7:=⟨_,rfl⟩;have EL:0≤le∧le≤6:=by rw[ed];exact aCU
 obtain⟨ek,LG⟩: ∃ D:Int,D=(g+11*fz+22*le) / 451:=⟨_,rfl⟩;have MI:0≤ek∧ek≤1:=by rw[LG];exact aCV MH EK EL
 obtain⟨a,aw⟩: ∃ D:Int,D=(fz+le-7*ek+114) / 31:=⟨_,rfl⟩;have agL:3≤a∧a≤4:=by rw[aw];exact aCW EK EL MI
 obtain⟨b,Z⟩: ∃ D:Int,D=(fz+le-7*ek+114)%31:=⟨_,rfl⟩;have uI:0≤b∧b≤30:=by rw[Z];exact aCX
 obtain⟨⟨iO,jt,ju,oV,mQ,aC0,aC1,aC2,aC3,aC4,aC5,aC6,aC7,aC8,aC9,aDa,aDb,aDc,aDd,aDe,aDf,aDg,aDh,aDi,aDj,aDk,aDl,aDm,aDn,aDo⟩,aX,n1,ec,SY,aDp,aDq,n6,n7,aDr,aDs,aDt,aDu,aDv,aDw⟩:=aCY (y:=y) bl MH zL en MG agG agH EK agI agJ agK EL MI agL uI;have zM: (y).tmod 19=g:=by rw[Int.tmod_eq_emod_of_nonneg aX,ao]
 have et: (y).tdiv 100=F:=by rw[Int.tdiv_eq_ediv_of_nonneg n1,V]
 have hO: (y).tmod 100=i:=by rw[Int.tmod_eq_emod_of_nonneg ec,G]
 have f3: (F+8).tdiv 25=q:=by rw[Int.tdiv_eq_ediv_of_nonneg SY,aQ]
 have f4: (F-q+1).tdiv 3=qk:=by rw[Int.tdiv_eq_ediv_of_nonneg aDp,uk]
 have f5: (F).tdiv 4=c4:=by rw[Int.tdiv_eq_ediv_of_nonneg aDq,SW]
 have f6: (19*g+F-c4-qk+15).tmod 30=fz:=by rw[Int.tmod_eq_emod_of_nonneg n6,SX]
 have f7: (F).tmod 4=nm:=by rw[Int.tmod_eq_emod_of_nonneg n7,Dl]
 have f8: (i).tdiv 4=eG:=by rw[Int.tdiv_eq_ediv_of_nonneg aDr,KN]
 have f9: (i).tmod 4=ux:=by rw[Int.tmod_eq_emod_of_nonneg aDs,IG]
 have f10: (32+2*nm+2*eG-fz-ux).tmod 7=le:=by rw[Int.tmod_eq_emod_of_nonneg aDt,ed]
 have f11: (g+11*fz+22*le).tdiv 451=ek:=by rw[Int.tdiv_eq_ediv_of_nonneg aDu,LG]
 have f12: (fz+le-7*ek+114).tdiv 31=a:=by rw[Int.tdiv_eq_ediv_of_nonneg aDv,aw]
 have f13: (fz+le-7*ek+114).tmod 31=b:=by rw[Int.tmod_eq_emod_of_nonneg aDw,Z]
 have agM:HZ y=fz:=by rw[HZ,←ao,←V,←aQ,←uk,←SW,←SX]
 have aDx:MF y=le:=by rw[MF,agM,←V,←G,←Dl,←KN,←IG,←ed]
 have aDy:tj y=fz+le-7*ek+114:=by rw[tj,agM,aDx,←ao,←LG]
 rw[aDy,←aw,←Z];have d1:decide (y < 1970)=false:=decide_eq_false (fun h=>by have:=bl.1;exact absurd h (Int.not_lt.2 this));have kd:decide (2199 < y)=false:=decide_eq_false (fun h=>by have:=bl.2;exact absurd h (Int.not_lt.2 this));simp only[go_sem,Mc,SV,d1,kd]
 repeat (refine s.U ?_;simp only[go_sem,d1,kd])
 refine⟨by decide,by decide,by decide,?_⟩;rw[zM,et,hO,iO]
 (refine s.U ?_;simp only[go_sem,jt,ju,oV,mQ,aC0,f3,f4])
 refine⟨by decide,by decide,?_⟩
 (refine s.U ?_;simp only[go_sem,aC1,aC2,aC3,aC4,aC5,aC6,f5,f6])
 refine⟨by decide,by decide,?_⟩
 (refine s.U ?_;simp only[go_sem,aC7,aC8,aC9,aDa,aDb,aDc,aDd,f7,f8,f9,f10])
 refine⟨by decide,by decide,by decide,by decide,?_⟩
 (refine s.U ?_;simp only[go_sem,aDe,aDf,aDg,aDh,aDi,f11])
 refine⟨by decide,?_⟩
 (refine s.U ?_;simp only[go_sem,aDj,aDk,aDl,aDm])
 (refine s.U ?_;simp only[go_sem,aDn,aDo,f12,f13])
 refine⟨by decide,by decide,?_⟩;refine bH (agE y a (b+1)) rfl rfl ?_;simp only[go_sem]
 repeat (refine s.U ?_;simp only[go_sem])
 exact s.bb rfl ⟨rfl,rfl⟩
def vO (y:Int):Int×Bool:=nl y (tj y / 31) (tj y%31+1)
def agN (y:Int):Bool:=(vO y).2&&agF (vO y).1==6&&decide ((nl y 3 22).1≤(vO y).1)&&decide ((vO y).1≤(nl y 4 25).1)
theorem aDA: (List.range 230).all (fun k=>agN (1970+k))=true:=by kernel_rfl
theorem agO {y:Int}(h0:1970≤y)(h1:y≤2199): (vO y).2=true∧agF (vO y).1=6∧(nl y 3 22).1≤(vO y).1∧(vO y).1≤(nl y 4 25).1:=by
 have h:=List.all_eq_true.1 aDA (y-1970).toNat (List.mem_range.2 (by omega));rw[show (1970:Int)+((y-1970).toNat:Nat)=y from by omega] at h;simpa[agN,and_assoc] using h
open Go.RowKit (Below)
structure cP where
 cH:Int
 qU:Int
 ab:Int
 zO:Int
 offset:Int
 H2:Bool
def cP.cells (p:cP):List z:= [.int .i64 p.cH,.int .i64 p.qU,.int .i64 p.ab,.int .i64 p.zO,.int .i64 p.offset,.bool p.H2]
instance:aG cP:=⟨cP.cells,6,fun _=>rfl,fun _=>rfl,fun _=>rfl⟩
theorem SZ (p:cP):aG.F p= [.int .i64 p.cH,.int .i64 p.qU,.int .i64 p.ab,.int .i64 p.zO,.int .i64 p.offset,.bool p.H2]:=rfl
theorem aDF (o:Int)(b:Bool)(w:World)(h:jf w 0 .i64 eB):Calls prog 257 #[.agg #[.int .i64 0,.int .i64 1,.int .i64 o,.int .i64 0,.int .i64 0,.bool b]] w fun e w'=>e= .returned (.bool (decide (1≤o∧o≤31)))∧(Below w.heap.size w w'∧w.drawn≤w'.drawn):=by
 have V:=kA h (c:=0) rfl;have aC:0 < w.heap.size:=by obtain⟨_,_,h⟩:=h;exact (Array.getElem?_eq_some_iff.1 h).1
 clear h
 go_enter func257,ntmps257
 go_wp2
 ·rename_i aq
  go_ret
  exact⟨by simp[aq],⟨rfl,rfl,rfl,by simp,fun b Z=>heap_alloc_old w _ Z⟩,Nat.le_refl _⟩
 ·rename_i aq
  go_ret
  exact⟨by simp[show ¬(1≤o) from by omega],⟨rfl,rfl,rfl,by simp,fun b Z=>heap_alloc_old w _ Z⟩,Nat.le_refl _⟩
theorem aDG (o:Int)(b:Bool)(w:World)(h:jf w 0 .i64 eB):Calls prog 257 #[.agg #[.int .i64 0,.int .i64 2,.int .i64 o,.int .i64 0,.int .i64 0,.bool b]] w fun e w'=>e= .returned (.bool (decide (1≤o∧o≤29)))∧(Below w.heap.size w w'∧w.drawn≤w'.drawn):=by
 have V:=kA h (c:=1) rfl;have aC:0 < w.heap.size:=by obtain⟨_,_,h⟩:=h;exact (Array.getElem?_eq_some_iff.1 h).1
 clear h
 go_enter func257,ntmps257
 go_wp2
 ·rename_i aq
  go_ret
  exact⟨by simp[aq],⟨rfl,rfl,rfl,by simp,fun b Z=>heap_alloc_old w _ Z⟩,Nat.le_refl _⟩
 ·rename_i aq
  go_ret
  exact⟨by simp[show ¬(1≤o) from by omega],⟨rfl,rfl,rfl,by simp,fun b Z=>heap_alloc_old w _ Z⟩,Nat.le_refl _⟩
theorem aDH (o:Int)(b:Bool)(w:World)(h:jf w 0 .i64 eB):Calls prog 257 #[.agg #[.int .i64 0,.int .i64 3,.int .i64 o,.int .i64 0,.int .i64 0,.bool b]] w fun e w'=>e= .returned (.bool (decide (1≤o∧o≤31)))∧(Below w.heap.size w w'∧w.drawn≤w'.drawn):=by
 have V:=kA h (c:=2) rfl;have aC:0 < w.heap.size:=by obtain⟨_,_,h⟩:=h;exact (Array.getElem?_eq_some_iff.1 h).1
 clear h
 go_enter func257,ntmps257
 go_wp2
 ·rename_i aq
  go_ret
  exact⟨by simp[aq],⟨rfl,rfl,rfl,by simp,fun b Z=>heap_alloc_old w _ Z⟩,Nat.le_refl _⟩
 ·rename_i aq
  go_ret
  exact⟨by simp[show ¬(1≤o) from by omega],⟨rfl,rfl,rfl,by simp,fun b Z=>heap_alloc_old w _ Z⟩,Nat.le_refl _⟩
theorem aDI (o:Int)(b:Bool)(w:World)(h:jf w 0 .i64 eB):Calls prog 257 #[.agg #[.int .i64 0,.int .i64 4,.int .i64 o,.int .i64 0,.int .i64 0,.bool b]] w fun e w'=>e= .returned (.bool (decide (1≤o∧o≤30)))∧(Below w.heap.size w w'∧w.drawn≤w'.drawn):=by
 have V:=kA h (c:=3) rfl;have aC:0 < w.heap.size:=by obtain⟨_,_,h⟩:=h;exact (Array.getElem?_eq_some_iff.1 h).1
 clear h
 go_enter func257,ntmps257
 go_wp2
 ·rename_i aq
  go_ret
  exact⟨by simp[aq],⟨rfl,rfl,rfl,by simp,fun b Z=>heap_alloc_old w _ Z⟩,Nat.le_refl _⟩
 ·rename_i aq
  go_ret
  exact⟨by simp[show ¬(1≤o) from by omega],⟨rfl,rfl,rfl,by simp,fun b Z=>heap_alloc_old w _ Z⟩,Nat.le_refl _⟩
theorem aDJ (o:Int)(b:Bool)(w:World)(h:jf w 0 .i64 eB):Calls prog 257 #[.agg #[.int .i64 0,.int .i64 5,.int .i64 o,.int .i64 0,.int .i64 0,.bool b]] w fun e w'=>e= .returned (.bool (decide (1≤o∧o≤31)))∧(Below w.heap.size w w'∧w.drawn≤w'.drawn):=by
 have V:=kA h (c:=4) rfl;have aC:0 < w.heap.size:=by obtain⟨_,_,h⟩:=h;exact (Array.getElem?_eq_some_iff.1 h).1
 clear h
 go_enter func257,ntmps257
 go_wp2
 ·rename_i aq
  go_ret
  exact⟨by simp[aq],⟨rfl,rfl,rfl,by simp,fun b Z=>heap_alloc_old w _ Z⟩,Nat.le_refl _⟩
 ·rename_i aq
  go_ret
  exact⟨by simp[show ¬(1≤o) from by omega],⟨rfl,rfl,rfl,by simp,fun b Z=>heap_alloc_old w _ Z⟩,Nat.le_refl _⟩
theorem aDK (o:Int)(b:Bool)(w:World)(h:jf w 0 .i64 eB):Calls prog 257 #[.agg #[.int .i64 0,.int .i64 6,.int .i64 o,.int .i64 0,.int .i64 0,.bool b]] w fun e w'=>e= .returned (.bool (decide (1≤o∧o≤30)))∧(Below w.heap.size w w'∧w.drawn≤w'.drawn):=by
 have V:=kA h (c:=5) rfl;have aC:0 < w.heap.size:=by obtain⟨_,_,h⟩:=h;exact (Array.getElem?_eq_some_iff.1 h).1
 clear h
 go_enter func257,ntmps257
 go_wp2
 ·rename_i aq
  go_ret
  exact⟨by simp[aq],⟨rfl,rfl,rfl,by simp,fun b Z=>heap_alloc_old w _ Z⟩,Nat.le_refl _⟩
 ·rename_i aq
  go_ret
  exact⟨by simp[show ¬(1≤o) from by omega],⟨rfl,rfl,rfl,by simp,fun b Z=>heap_alloc_old w _ Z⟩,Nat.le_refl _⟩
theorem aDL (o:Int)(b:Bool)(w:World)(h:jf w 0 .i64 eB):Calls prog 257 #[.agg #[.int .i64 0,.int .i64 7,.int .i64 o,.int .i64 0,.int .i64 0,.bool b]] w fun e w'=>e= .returned (.bool (decide (1≤o∧o≤31)))∧(Below w.heap.size w w'∧w.drawn≤w'.drawn):=by
 have V:=kA h (c:=6) rfl;have aC:0 < w.heap.size:=by obtain⟨_,_,h⟩:=h;exact (Array.getElem?_eq_some_iff.1 h).1
 clear h
 go_enter func257,ntmps257
 go_wp2
 ·rename_i aq
  go_ret
  exact⟨by simp[aq],⟨rfl,rfl,rfl,by simp,fun b Z=>heap_alloc_old w _ Z⟩,Nat.le_refl _⟩
 ·rename_i aq
  go_ret
  exact⟨by simp[show ¬(1≤o) from by omega],⟨rfl,rfl,rfl,by simp,fun b Z=>heap_alloc_old w _ Z⟩,Nat.le_refl _⟩
theorem aDM (o:Int)(b:Bool)(w:World)(h:jf w 0 .i64 eB):Calls prog 257 #[.agg #[.int .i64 0,.int .i64 8,.int .i64 o,.int .i64 0,.int .i64 0,.bool b]] w fun e w'=>e= .returned (.bool (decide (1≤o∧o≤31)))∧(Below w.heap.size w w'∧w.drawn≤w'.drawn):=by
 have V:=kA h (c:=7) rfl;have aC:0 < w.heap.size:=by obtain⟨_,_,h⟩:=h;exact (Array.getElem?_eq_some_iff.1 h).1
 clear h
 go_enter func257,ntmps257
 go_wp2
 ·rename_i aq
  go_ret
  exact⟨by simp[aq],⟨rfl,rfl,rfl,by simp,fun b Z=>heap_alloc_old w _ Z⟩,Nat.le_refl _⟩
 ·rename_i aq
  go_ret
  exact⟨by simp[show ¬(1≤o) from by omega],⟨rfl,rfl,rfl,by simp,fun b Z=>heap_alloc_old w _ Z⟩,Nat.le_refl _⟩
theorem aDN (o:Int)(b:Bool)(w:World)(h:jf w 0 .i64 eB):Calls prog 257 #[.agg #[.int .i64 0,.int .i64 9,.int .i64 o,.int .i64 0,.int .i64 0,.bool b]] w fun e w'=>e= .returned (.bool (decide (1≤o∧o≤30)))∧(Below w.heap.size w w'∧w.drawn≤w'.drawn):=by
 have V:=kA h (c:=8) rfl;have aC:0 < w.heap.size:=by obtain⟨_,_,h⟩:=h;exact (Array.getElem?_eq_some_iff.1 h).1
 clear h
 go_enter func257,ntmps257
 go_wp2
 ·rename_i aq
  go_ret
  exact⟨by simp[aq],⟨rfl,rfl,rfl,by simp,fun b Z=>heap_alloc_old w _ Z⟩,Nat.le_refl _⟩
 ·rename_i aq
  go_ret
  exact⟨by simp[show ¬(1≤o) from by omega],⟨rfl,rfl,rfl,by simp,fun b Z=>heap_alloc_old w _ Z⟩,Nat.le_refl _⟩
theorem aDO (o:Int)(b:Bool)(w:World)(h:jf w 0 .i64 eB):Calls prog 257 #[.agg #[.int .i64 0,.int .i64 10,.int .i64 o,.int .i64 0,.int .i64 0,.bool b]] w fun e w'=>e= .returned (.bool (decide (1≤o∧o≤31)))∧(Below w.heap.size w w'∧w.drawn≤w'.drawn):=by
 have V:=kA h (c:=9) rfl;have aC:0 < w.heap.size:=by obtain⟨_,_,h⟩:=h;exact (Array.getElem?_eq_some_iff.1 h).1
 clear h
 go_enter func257,ntmps257
 go_wp2
 ·rename_i aq
  go_ret
  exact⟨by simp[aq],⟨rfl,rfl,rfl,by simp,fun b Z=>heap_alloc_old w _ Z⟩,Nat.le_refl _⟩
 ·rename_i aq
  go_ret
  exact⟨by simp[show ¬(1≤o) from by omega],⟨rfl,rfl,rfl,by simp,fun b Z=>heap_alloc_old w _ Z⟩,Nat.le_refl _⟩
theorem aDP (o:Int)(b:Bool)(w:World)(h:jf w 0 .i64 eB):Calls prog 257 #[.agg #[.int .i64 0,.int .i64 11,.int .i64 o,.int .i64 0,.int .i64 0,.bool b]] w fun e w'=>e= .returned (.bool (decide (1≤o∧o≤30)))∧(Below w.heap.size w w'∧w.drawn≤w'.drawn):=by
 have V:=kA h (c:=10) rfl;have aC:0 < w.heap.size:=by obtain⟨_,_,h⟩:=h;exact (Array.getElem?_eq_some_iff.1 h).1
 clear h
 go_enter func257,ntmps257
 go_wp2
 ·rename_i aq
  go_ret
  exact⟨by simp[aq],⟨rfl,rfl,rfl,by simp,fun b Z=>heap_alloc_old w _ Z⟩,Nat.le_refl _⟩
 ·rename_i aq
  go_ret
  exact⟨by simp[show ¬(1≤o) from by omega],⟨rfl,rfl,rfl,by simp,fun b Z=>heap_alloc_old w _ Z⟩,Nat.le_refl _⟩
theorem aDQ (o:Int)(b:Bool)(w:World)(h:jf w 0 .i64 eB):Calls prog 257 #[.agg #[.int .i64 0,.int .i64 12,.int .i64 o,.int .i64 0,.int .i64 0,.bool b]] w fun e w'=>e= .returned (.bool (decide (1≤o∧o≤31)))∧(Below w.heap.size w w'∧w.drawn≤w'.drawn):=by
 have V:=kA h (c:=11) rfl;have aC:0 < w.heap.size:=by obtain⟨_,_,h⟩:=h;exact (Array.getElem?_eq_some_iff.1 h).1
 clear h
 go_enter func257,ntmps257
 go_wp2
 ·rename_i aq
  go_ret
  exact⟨by simp[aq],⟨rfl,rfl,rfl,by simp,fun b Z=>heap_alloc_old w _ Z⟩,Nat.le_refl _⟩
 ·rename_i aq
  go_ret
  exact⟨by simp[show ¬(1≤o) from by omega],⟨rfl,rfl,rfl,by simp,fun b Z=>heap_alloc_old w _ Z⟩,Nat.le_refl _⟩
def oB (m:Int):Int:=if m=2 then 29 else eB.getD (m-1).toNat 0
def zJ (h:cP):Bool:=
 if h.cH=0 then decide (1≤h.qU∧h.qU≤12∧h.zO=0∧h.offset=0∧1≤h.ab∧h.ab≤oB h.qU)
 else if h.cH=1 then decide (-100≤h.offset∧h.offset≤100∧h.qU=0∧h.ab=0∧h.zO=0)
 else if h.cH=2 then decide (1≤h.qU∧h.qU≤12∧(h.ab= -1∨1≤h.ab∧h.ab≤5)∧0≤h.zO∧h.zO≤6∧ -7≤h.offset∧h.offset≤7)
 else false
theorem aDE (m o:Int)(b:Bool)(h1:1≤m)(B:m≤12):aK prog 257 [.agg [.int .i64 0,.int .i64 m,.int .i64 o,.int .i64 0,.int .i64 0,.bool b]] [] (fun v rs=>v= .bool (decide (1≤o∧o≤oB m))∧rs= []):=by
 refine aK.FT ?_;rintro C du G ar ⟨_,_,ht⟩ dk;simp only[ay,Rep] at dk;obtain⟨v1,r1,rfl,⟨vs,rfl,ag⟩,rfl⟩:=dk;obtain⟨a0,q0,g0,rfl,cz,q1,g1,rfl,eT,eF,bM,rfl,a3,ev,dh,rfl,a4,iE,gC,rfl,a5,pn,tN,rfl,rfl⟩:=ag;have jz:vs= #[.int .i64 0,.int .i64 m,.int .i64 o,.int .i64 0,.int .i64 0,.bool b]:=by
  cases vs;simp_all
 subst jz;have key: ∀ {D:Int},oB m=D→(Calls prog 257 #[.agg #[.int .i64 0,.int .i64 m,.int .i64 o,.int .i64 0,.int .i64 0,.bool b]] C.w fun e w'=>e= .returned (.bool (decide (1≤o∧o≤D)))∧(Below C.w.heap.size C.w w'∧C.w.drawn≤w'.drawn))→
  Calls prog 257 #[.agg #[.int .i64 0,.int .i64 m,.int .i64 o,.int .i64 0,.int .i64 0,.bool b]] C.w fun e w'=> ∃ aV v,e= .returned aV∧(Below C.w.heap.size C.w w'∧C.w.drawn≤w'.drawn)∧(∀ av:bv,jo C av→Rep av v aV)∧v= .bool (decide (1≤o∧o≤oB m))∧ []=([]:List R):=by
  intro D aS h;refine h.mono ?_;rintro e w' ⟨rfl,Z⟩;exact⟨_,.bool (decide (1≤o∧o≤D)),rfl,Z,fun av _=>by rw[Rep],by rw[aS],rfl⟩
 obtain rfl|rfl|rfl|rfl|rfl|rfl|rfl|rfl|rfl|rfl|rfl|rfl:m=1∨m=2∨m=3∨m=4∨m=5∨m=6∨m=7∨m=8∨m=9∨m=10∨m=11∨m=12:=by omega
 ·exact key (by simp[oB,eB]) (aDF o b C.w ht)
 ·exact key (by simp[oB,eB]) (aDG o b C.w ht)
 ·exact key (by simp[oB,eB]) (aDH o b C.w ht)
 ·exact key (by simp[oB,eB]) (aDI o b C.w ht)
 ·exact key (by simp[oB,eB]) (aDJ o b C.w ht)
 ·exact key (by simp[oB,eB]) (aDK o b C.w ht)
 ·exact key (by simp[oB,eB]) (aDL o b C.w ht)
 ·exact key (by simp[oB,eB]) (aDM o b C.w ht)
 ·exact key (by simp[oB,eB]) (aDN o b C.w ht)
 ·exact key (by simp[oB,eB]) (aDO o b C.w ht)
 ·exact key (by simp[oB,eB]) (aDP o b C.w ht)
 ·exact key (by simp[oB,eB]) (aDQ o b C.w ht)
theorem agR (k m o hK L:Int)(b:Bool):zJ ⟨k,m,o,hK,L,b⟩=true↔(k=0∧1≤m∧m≤12∧hK=0∧L=0∧1≤o∧o≤oB m)∨(k=1∧ -100≤L∧L≤100∧m=0∧o=0∧hK=0)∨
 (k=2∧1≤m∧m≤12∧(o= -1∨1≤o∧o≤5)∧0≤hK∧hK≤6∧ -7≤L∧L≤7):=by
 unfold zJ;simp only;split
 ·subst_vars;simp
 ·split
  ·subst_vars;simp
  ·split
   ·subst_vars;simp
   ·simp_all
theorem aDB (h:cP):aK prog 257 [.agg (aG.F h)] [] (fun v rs=>v= .bool (zJ h)∧rs= []):=by
 obtain⟨k,m,o,hK,L,b⟩:=h;rw[SZ]
 by_cases h0:k=0∧1≤m∧m≤12∧hK=0∧L=0
 ·obtain⟨rfl,h1,B,rfl,rfl⟩:=h0;refine (aDE m o b h1 B).mono ?_;rintro _ _ ⟨rfl,rfl⟩;simp[zJ,h1,B]
 ·refine cr func257 aen (by simp[L9,S0]) ?_;simp only[go_sem,L9,S0]
  repeat' ((first|refine gF ?_ ?_|refine gP ?_ ?_|refine cg ?_ ?_|refine dg ?_ ?_)<;>intro ao<;>(have ae:=ao;try simp only[bA] at ae)<;>(first|omega| (simp only[go_sem,ao,];clear ao)))
  all_goals first
   | (exfalso;simp only[bA] at *;omega)
   | (refine s.bb rfl ⟨congrArg z.bool ?_,rfl⟩;rw[Bool.eq_iff_iff,agR];simp only[bA,Bool.false_eq_true,false_iff,true_iff,iff_true,iff_false,and_true,true_and] at *;omega)
def nK (l:List cP):Bool:=l.all zJ
def mz (l:List cP):Int:=if 1024 < l.length then 3 else if nK l=true then 0 else 1
end Go.Proofs.YtpincjkjoeopkaaGreatDoor.Pm
