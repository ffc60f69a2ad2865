/- Calendar and premiums. -/
import Derived.Test.YtpincjkjoeopkaaGreatDoorD15
import Derived.Test.YtpincjkjoeopkaaGreatDoorD14
import Derived.Test.YtpincjkjoeopkaaGreatDoorD17
set_option linter.all false
namespace Go.Proofs.YtpincjkjoeopkaaGreatDoor.Pm
open Go Go.Abs
def sM (y:Int):Int:=y / 4-y / 100+y / 400
def lE (y:Int):Int:=365*(y-1970)+sM (y-1)-477
def yI:Nat→Int→Int→Int
 |0,y,_=>y
 |k+1,y,B=>if lE (y+1)≤B then yI k (y+1) B else y
def eT (B:Int):Int:=yI 400 (1970+B / 366) B
def nm (y:Int):Nat→Int
 |0=>0
 |k+1=>nm y k+hZ y (k+1)
def mF (y m B:Int):Int:=lE y+nm y (m-1).toNat+B-1
def FM:Nat→Int→Int→Int→Int×Int
 |0,_,m,z=>(m,z)
 |k+1,y,m,z=>if hZ y m≤z then FM k y (m+1) (z-hZ y m) else (m,z)
theorem yJ {y m:Int}(h1:1≤m)(G:m≤12):28≤hZ y m∧hZ y m≤31:=by
 obtain rfl|rfl|rfl|rfl|rfl|rfl|rfl|rfl|rfl|rfl|rfl|rfl:m=1∨m=2∨m=3∨m=4∨m=5∨m=6∨m=7∨m=8∨m=9∨m=10∨m=11∨m=12:=by omega
 all_goals simp[hZ,eM]
 split<;>omega
theorem aDT (y:Int):nm y 12=if zW y=true then 366 else 365:=by
 simp only[nm];simp only[hZ,eM];cases h:zW y<;>simp
theorem ahJ {y:Int}:zW y=true↔y%4=0∧(¬y%100=0∨y%400=0):=by
 simp only[zW,Bool.and_eq_true,Bool.or_eq_true,Bool.not_eq_true',decide_eq_true_eq,decide_eq_false_iff_not]
theorem aDU (y:Int):lE (y+1)=lE y+nm y 12:=by
 rw[aDT];simp only[lE,sM];split
 ·rename_i h;rw[ahJ] at h;omega
 ·rename_i h;rw[ahJ] at h;omega
theorem ND {y:Int}(h0:1970≤y)(h1:y≤2300):365*(y-1970)≤lE y∧lE y≤365*(y-1970)+(y-1970):=by
 simp only[lE,sM];omega
theorem ahK: ∀ (k:Nat) (y B:Int),1970≤y→y+k≥2250→y≤2240→0≤B→B≤90000→lE y≤B→lE (yI k y B)≤B∧B < lE (yI k y B+1)∧1970≤yI k y B∧yI k y B≤2240
 |0,y,B,_,_,_,_,_,_=>by omega
 |k+1,y,B,h1,G,au,bv,cx,dx=>by
  rw[yI];split
  ·rename_i h;have hb:=ND (y:=y+1) (by omega) (by omega);exact ahK k (y+1) B (by omega) (by omega) (by omega) bv cx h
  ·rename_i h;exact⟨dx,by omega,by omega,by omega⟩
theorem ahL {B:Int}(h0:0≤B)(h1:B≤90000):lE (eT B)≤B∧B < lE (eT B+1)∧1970≤eT B∧eT B≤2240:=by
 have hb:=ND (y:=1970+B / 366) (by omega) (by omega);exact ahK 400 _ B (by omega) (by omega) (by omega) h0 h1 (by omega)
def I8 (B:Int):Int×Int:=FM 12 (eT B) 1 (B-lE (eT B))
open Go.Proofs.Tryz
theorem ahR (y:Int)(h0:0≤y)(h1:y≤1000000):aO prog 312 [.int .i64 y] [] (fun v rs=>v= .int .i64 (sM y)∧rs= []):=by
 refine cu func312 afZ (by simp[Nf,TV]) ?_;simp only[go_sem,Nf,TV];simp only[Int.tdiv_eq_ediv_of_nonneg h0];rw[bl (x:=y / 4) (by omega) (by omega),bl (x:=y / 100) (by omega) (by omega),bl (x:=y / 400) (by omega) (by omega),bl (x:=y / 4-y / 100) (by omega) (by omega),bl (by omega) (by omega)];refine⟨by decide,by decide,by decide,?_⟩;exact E.bg rfl ⟨by rw[sM],rfl⟩
theorem TW (y:Int)(h0:1≤y)(h1:y≤100000):aO prog 254 [.int .i64 y] [] (fun v rs=>v= .int .i64 (lE y)∧rs= []):=by
 refine cu func254 afD (by simp[Nb,TX]) ?_;simp only[go_sem,Nb,TX];rw[bl (x:=y-1) (by omega) (by omega),bl (x:=y-1970) (by omega) (by omega),bl (by omega) (by omega)];refine bM (ahR (y-1) (by omega) (by omega)) rfl rfl ?_;have hl:0≤sM (y-1)∧sM (y-1)≤100000:=by simp only[sM];omega
 have hb:lE y=365*(y-1970)+sM (y-1)-sM 1969:=rfl;rw[hb];generalize sM (y-1)=a at hl ⊢;simp only[go_sem];rw[bl (by omega) (by omega)];refine bM (ahR 1969 (by omega) (by omega)) rfl rfl ?_;rw[show sM 1969=477 from rfl];simp only[go_sem];rw[bl (by omega) (by omega)];exact E.bg rfl ⟨rfl,rfl⟩
theorem lQ (B:Int):aO prog 252 [.int .i64 B] [] (fun v rs=>v= .bool (decide (0≤B∧B≤84005))∧rs= []):=by
 refine cu func252 afB (by simp[IK,NF]) ?_;simp only[go_sem,IK,NF]
 repeat' ((first|refine gv ?_ ?_|refine gw ?_ ?_|refine cf ?_ ?_|refine dj ?_ ?_)<;>intro aw<;>(have ak:=aw;try simp only[bC] at ak)<;>(first|omega| (simp only[go_sem,aw,IK,NF];clear aw)))
 all_goals (refine E.bg rfl ⟨congrArg F.bool ?_,rfl⟩;rw[Bool.eq_iff_iff];simp only[bC,Bool.false_eq_true,false_iff];omega)
def mG (B:Int):Int:=(B+3)%7
theorem ahS (x:Int): -7 < x.tmod 7∧x.tmod 7 < 7∧(x.tmod 7+7)%7=x%7:=by
 rw[Int.tmod_eq_emod];split<;>omega
theorem NG (B:Int)(h0: -1000000≤B)(h1:B≤1000000):aO prog 372 [.int .i64 B] [] (fun v rs=>v= .int .i64 (mG B)∧rs= []):=by
 refine cu func372 agu (by simp[Ni,TY]) ?_;obtain⟨a,b,J⟩:=ahS (B+3);simp only[go_sem,Ni,TY];rw[bl (x:=B+3) (by omega) (by omega),bl (by omega) (by omega),Int.tmod_eq_emod_of_nonneg (a:=(B+3).tmod 7+7) (by omega),J];exact⟨by decide,by decide,E.bg rfl ⟨rfl,rfl⟩⟩
theorem aD0 (B:Int)(h0:0≤B)(h1:B≤90000):aO prog 253 [.int .i64 B] [] (fun v rs=>v= .int .i64 (eT B)∧rs= []):=by
 refine cu func253 afC (by simp[Fx,Ja]) ?_;simp only[go_sem,Fx,Ja];refine⟨by decide,?_⟩;rw[Int.tdiv_eq_ediv_of_nonneg h0,bl (x:=B / 366) (by omega) (by omega),bl (by omega) (by omega)];refine dN (fun D r=> ∃ (k:Nat) (y:Int),eT B=yI k y B∧1970≤y∧y+k≥2250∧y≤2240∧lE y≤B∧D= [(0,.int .i64 B),(3,.int .i64 y)]∧r= [])
  (fun D _=>match bs D 3 with| .int _ j=>(3000-j).toNat|_=>0) ?_ ?_
 ·have hb:=ND (y:=1970+B / 366) (by omega) (by omega);exact E.ac ⟨400,1970+B / 366,rfl,by omega,by omega,by omega,by omega,rfl,rfl⟩
 ·rintro D r ⟨k,y,bt,G,au,bv,cx,rfl,rfl⟩;simp only[go_sem,Fx,Ja];rw[bl (by omega) (by omega)];refine bM (TW (y+1) (by omega) (by omega)) rfl rfl ?_;simp only[go_sem];obtain⟨k,rfl⟩: ∃ j,k=j+1:=⟨k-1,by omega⟩;rw[yI] at bt;refine cf ?_ ?_<;>intro dI<;>simp only[bC] at dI<;>simp only[go_sem,Fx,Ja]
  ·rw[if_pos dI] at bt;have hb:=ND (y:=y+1) (by omega) (by omega);rw[bl (by omega) (by omega)];refine E.ac ⟨⟨k,y+1,bt,by omega,by omega,by omega,dI,rfl,rfl⟩,?_⟩;simp only[go_sem];omega
  ·rw[if_neg (by omega)] at bt;exact E.bg rfl ⟨by rw[bt],rfl⟩
theorem NH (y:Int): ∀ k:Nat,k≤12→28*k≤nm y k∧nm y k≤31*k
 |0,_=>by simp[nm]
 |k+1,h=>by
  have ih:=NH y k (by omega);have hl:=yJ (y:=y) (m:=k+1) (by omega) (by omega);rw[nm];omega
theorem TZ {y:Int}(h0:1969≤y)(h1:y≤2300): -1000≤lE y∧lE y≤200000:=by
 simp only[lE,sM];omega
theorem ahT (y m B:Int)(h0:1970≤y)(h1:y≤2300)(G:1≤m)(au:m≤12)(bv: -1000≤B)(cx:B≤1000):aO prog 191 [.int .i64 y,.int .i64 m,.int .i64 B] [] (fun v rs=>v= .int .i64 (mF y m B)∧rs= []):=by
 refine cu func191 aeJ (by simp[Fs,Jb]) ?_;have pP:=TZ (y:=y) (by omega) h1;simp only[go_sem,Fs,Jb];refine bM (TW y (by omega) (by omega)) rfl rfl ?_;simp only[go_sem];refine dN (fun D r=> ∃ (k:Nat),(k:Int)+1≤m∧D= [(0,.int .i64 y),(1,.int .i64 m),(2,.int .i64 B),(7,.int .i64 (lE y+nm y k)),(8,.int .i64 (k+1))]∧r= [])
  (fun D _=>match bs D 8 with| .int _ j=>(m-j).toNat|_=>0) ?_ ?_
 ·exact E.ac ⟨0,by omega,by simp[nm],rfl⟩
 ·rintro D r ⟨k,O,rfl,rfl⟩;have RH:=NH y k (by omega);simp only[go_sem,Fs,Jb];refine cf ?_ ?_<;>intro dI<;>simp only[bC] at dI<;>simp only[go_sem,Fs,Jb]
  ·have hl:=yJ (y:=y) (m:=k+1) (by omega) (by omega);refine bM (ES y (k+1) (by omega) (by omega) (by omega)) rfl rfl ?_;simp only[go_sem];rw[bl (x:=(k:Int)+1+1) (by omega) (by omega),bl (by omega) (by omega)];refine E.ac ⟨⟨k+1,by omega,by rw[nm,Int.add_assoc];rfl,rfl⟩,?_⟩;simp only[go_sem];omega
  ·rw[bl (x:=lE y+nm y k+B) (by omega) (by omega),bl (by omega) (by omega)];exact E.bg rfl ⟨by rw[mF,show (m-1).toNat=k from by omega],rfl⟩
def nU (y m B:Int):Int×Bool:=if 1970≤y∧y≤2199∧1≤m∧m≤12∧1≤B∧B≤hZ y m then (mF y m B,true) else (0,false)
theorem ahU (y m B:Int):aO prog 369 [.int .i64 y,.int .i64 m,.int .i64 B] [] (fun v rs=>v= .bo [.int .i64 (nU y m B).1,.bool (nU y m B).2]∧rs= []):=by
 refine cu func369 agr (by simp[FB,Jc]) ?_;have qR: ¬(1970≤y∧y≤2199∧1≤m∧m≤12∧1≤B∧B≤hZ y m)→nU y m B=(0,false):=fun h=>by rw[nU,if_neg h]
 simp only[go_sem,FB,Jc]
 repeat' ((first|refine gv ?_ ?_|refine gw ?_ ?_|refine cf ?_ ?_|refine dj ?_ ?_)<;>intro aw<;>(have ak:=aw;try simp only[bC] at ak)<;>(first|omega| (simp only[go_sem,aw,FB,Jc];clear aw)))
 any_goals exact E.bg rfl ⟨by rw[qR (by omega)],rfl⟩
 refine bM (ES y m (by omega) (by omega) (by omega)) rfl rfl ?_;simp only[go_sem];refine cf ?_ ?_<;>intro dI<;>simp only[bC] at dI<;>simp only[go_sem,FB,Jc]
 ·exact E.bg rfl ⟨by rw[qR (by omega)],rfl⟩
 ·have hl:=yJ (y:=y) (m:=m) (by omega) (by omega);refine bM (ahT y m B (by omega) (by omega) (by omega) (by omega) (by omega) (by omega)) rfl rfl ?_;simp only[go_sem];exact E.bg rfl ⟨by rw[nU,if_pos (by omega)],rfl⟩
def ui (B:Int):Prop:=0≤B∧B≤84005
instance (B:Int):Decidable (ui B):=by unfold ui;infer_instance
theorem aD1 (B:Int):aO prog 190 [.int .i64 B] [] (fun v rs=>v=(if ui B then .bo [.int .i64 (eT B),.int .i64 (I8 B).1,.int .i64 ((I8 B).2+1),.bool true] else .bo [.int .i64 0,.int .i64 0,.int .i64 0,.bool false])∧rs= []):=by
 refine cu func190 aeI (by simp[CR,FN]) ?_;simp only[go_sem,CR,FN];refine bM (lQ B) rfl rfl ?_;simp only[go_sem];refine cf ?_ ?_<;>intro dI<;>simp only[bC] at dI<;>simp only[go_sem,CR,FN]
 ·exact E.bg rfl ⟨by rw[if_neg (show ¬ui B from dI)],rfl⟩
 rw[if_pos (show ui B from dI)];obtain⟨a,b,J,e⟩:=ahL (B:=B) (by omega) (by omega);have pP:=TZ (y:=eT B) (by omega) (by omega);rw[aDU] at b;refine bM (aD0 B (by omega) (by omega)) rfl rfl ?_;simp only[go_sem];refine bM (TW (eT B) (by omega) (by omega)) rfl rfl ?_;simp only[go_sem];rw[bl (by omega) (by omega)];have sN:I8 B=FM 12 (eT B) 1 (B-lE (eT B)):=rfl;generalize eT B=y at *;refine dN (fun D r=> ∃ (k m:Nat) (z:Int),I8 B=FM k y m z∧1≤m∧m≤12∧12≤m+k∧0≤z∧z≤400∧z < nm y 12-nm y (m-1)∧D= [(6,.int .i64 y),(7,.int .i64 z),(8,.int .i64 m)]∧r= [])
  (fun D _=>match bs D 8 with| .int _ j=>(13-j).toNat|_=>0) ?_ ?_
 ·have aKl:=NH y 12 (by omega);exact E.ac ⟨12,1,_,sN,by omega,by omega,by omega,by omega,by omega,by show _ < nm y 12-0;omega,rfl,rfl⟩
 ·rintro D r ⟨k,m,z,hm,h1,G,au,bv,cx,dx,rfl,rfl⟩;have hl:=yJ (y:=y) (m:=m) (by omega) (by omega);obtain⟨j,rfl⟩: ∃ j,m=j+1:=⟨m-1,by omega⟩;simp only[Nat.add_sub_cancel] at dx;have ao:nm y (j+1)=nm y j+hZ y (((j+1:Nat):Int)):=rfl;simp only[go_sem,CR,FN];refine bM (ES y ((j+1:Nat):Int) (by omega) (by omega) (by omega)) rfl rfl ?_;simp only[go_sem];refine cf ?_ ?_<;>intro ct<;>simp only[bC] at ct<;>simp only[go_sem,CR,FN]
  ·refine bM (ES y ((j+1:Nat):Int) (by omega) (by omega) (by omega)) rfl rfl ?_;simp only[go_sem];rw[bl (by omega) (by omega),bl (by omega) (by omega)];have aX:j+1 < 12:=by
    rcases Nat.lt_or_ge (j+1) 12 with h|h
    ·exact h
    ·exfalso;have oo:j=11:=by omega
     subst oo;have aKm:nm y 12=nm y (11+1):=rfl;omega
   obtain⟨k,rfl⟩: ∃ c,k=c+1:=⟨k-1,by omega⟩;rw[FM,if_pos ct] at hm;refine E.ac ⟨⟨k,j+2,_,hm,by omega,by omega,by omega,by omega,by omega,by simp only[show j+2-1=j+1 from rfl];omega,rfl,rfl⟩,?_⟩;simp only[go_sem];omega
  ·rw[bl (by omega) (by omega)];have MB:I8 B=(((j+1:Nat):Int),z):=by
    rw[hm];cases k with
    |zero=>rfl
    |succ k=>rw[FM,if_neg (by omega)]
   exact E.bg rfl ⟨by rw[MB],rfl⟩
def ahV (B:Int):Int:=if ui B then mG B else -1
def qd (y:Int):Prop:=1970≤y∧y≤2199
instance (B:Int):Decidable (qd B):=by unfold qd;infer_instance
def Jd (y:Int):Int:=(19*(y%19)+y / 100-y / 100 / 4-(y / 100-(y / 100+8) / 25+1) / 3+15)%30
def NI (y:Int):Int:=(32+2*(y / 100%4)+2*(y%100 / 4)-Jd y-y%100%4)%7
def uj (y:Int):Int:=Jd y+NI y-7*((y%19+11*Jd y+22*NI y) / 451)+114
theorem aD2 {y:Int}:0≤y%19∧y%19≤18:=by omega
theorem aD3 {y:Int}(bt:1970≤y∧y≤2199):19≤y / 100∧y / 100≤21:=by omega
theorem aD4 {y:Int}:0≤y%100∧y%100≤99:=by omega
theorem aD5 {J:Int}(AY:19≤J∧J≤21):1≤(J+8) / 25∧(J+8) / 25≤1:=by omega
theorem aD6 {J q:Int}(AY:19≤J∧J≤21)(NJ:1≤q∧q≤1):6≤(J-q+1) / 3∧(J-q+1) / 3≤7:=by omega
theorem aD7 {J:Int}(AY:19≤J∧J≤21):4≤J / 4∧J / 4≤5:=by omega
theorem aD8 {x:Int}:0≤x%30∧x%30≤29:=by omega
theorem aD9 {x:Int}:0≤x%4∧x%4≤3:=by omega
theorem aEa {z:Int}(ey:0≤z∧z≤99):0≤z / 4∧z / 4≤24:=by omega
theorem aEb {x:Int}:0≤x%4∧x%4≤3:=by omega
theorem aEc {x:Int}:0≤x%7∧x%7≤6:=by omega
theorem aEd {g fJ le:Int}(NK:0≤g∧g≤18)(FO:0≤fJ∧fJ≤29)(FP:0≤le∧le≤6):0≤(g+11*fJ+22*le) / 451∧(g+11*fJ+22*le) / 451≤1:=by omega
theorem aEe {fJ le ex:Int}(FO:0≤fJ∧fJ≤29)(FP:0≤le∧le≤6)(NL:0≤ex∧ex≤1):3≤(fJ+le-7*ex+114) / 31∧(fJ+le-7*ex+114) / 31≤4:=by omega
theorem aEf {x:Int}:0≤x%31∧x%31≤30:=by omega
theorem aEg {y g J z q qS c4 fJ nV fc vw le ex a b:Int}(BS:1970≤y∧y≤2199)(NK:0≤g∧g≤18)(AY:19≤J∧J≤21)(ey:0≤z∧z≤99)(NJ:1≤q∧q≤1)(ahW:6≤qS∧qS≤7)(ahX:4≤c4∧c4≤5)(FO:0≤fJ∧fJ≤29)(ahY:0≤nV∧nV≤3)(ahZ:0≤fc∧fc≤24)(aia:0≤vw∧vw≤3)(FP:0≤le∧le≤6)(NL:0≤ex∧ex≤1)(aib:3≤a∧a≤4)(vH:0≤b∧b≤30):
 (IntKind.i64.wrap (J)=J∧IntKind.i64.wrap (J+8)=J+8∧IntKind.i64.wrap (q)=q∧IntKind.i64.wrap (J-q)=J-q∧IntKind.i64.wrap (J-q+1)=J-q+1∧IntKind.i64.wrap (qS)=qS∧IntKind.i64.wrap (19*g)=19*g∧IntKind.i64.wrap (19*g+J)=19*g+J∧IntKind.i64.wrap (c4)=c4∧IntKind.i64.wrap (19*g+J-c4)=19*g+J-c4∧IntKind.i64.wrap (19*g+J-c4-qS)=19*g+J-c4-qS∧IntKind.i64.wrap (19*g+J-c4-qS+15)=19*g+J-c4-qS+15∧IntKind.i64.wrap (2*nV)=2*nV∧IntKind.i64.wrap (32+2*nV)=32+2*nV∧IntKind.i64.wrap (fc)=fc∧IntKind.i64.wrap (2*fc)=2*fc∧IntKind.i64.wrap (32+2*nV+2*fc)=32+2*nV+2*fc∧IntKind.i64.wrap (32+2*nV+2*fc-fJ)=32+2*nV+2*fc-fJ∧IntKind.i64.wrap (32+2*nV+2*fc-fJ-vw)=32+2*nV+2*fc-fJ-vw∧IntKind.i64.wrap (11*fJ)=11*fJ∧IntKind.i64.wrap (g+11*fJ)=g+11*fJ∧IntKind.i64.wrap (22*le)=22*le∧IntKind.i64.wrap (g+11*fJ+22*le)=g+11*fJ+22*le∧IntKind.i64.wrap (ex)=ex∧IntKind.i64.wrap (fJ+le)=fJ+le∧IntKind.i64.wrap (7*ex)=7*ex∧IntKind.i64.wrap (fJ+le-7*ex)=fJ+le-7*ex∧IntKind.i64.wrap (fJ+le-7*ex+114)=fJ+le-7*ex+114∧IntKind.i64.wrap (a)=a∧IntKind.i64.wrap (b+1)=b+1)∧(0≤y∧0≤y∧0≤y∧0≤J+8∧0≤J-q+1∧0≤J∧0≤19*g+J-c4-qS+15∧0≤J∧0≤z∧0≤z∧0≤32+2*nV+2*fc-fJ-vw∧0≤g+11*fJ+22*le∧0≤fJ+le-7*ex+114∧0≤fJ+le-7*ex+114):=by
 refine⟨⟨bl (by omega) (by omega),bl (by omega) (by omega),bl (by omega) (by omega),bl (by omega) (by omega),bl (by omega) (by omega),bl (by omega) (by omega),bl (by omega) (by omega),bl (by omega) (by omega),bl (by omega) (by omega),bl (by omega) (by omega),bl (by omega) (by omega),bl (by omega) (by omega),bl (by omega) (by omega),bl (by omega) (by omega),bl (by omega) (by omega),bl (by omega) (by omega),bl (by omega) (by omega),bl (by omega) (by omega),bl (by omega) (by omega),bl (by omega) (by omega),bl (by omega) (by omega),bl (by omega) (by omega),bl (by omega) (by omega),bl (by omega) (by omega),bl (by omega) (by omega),bl (by omega) (by omega),bl (by omega) (by omega),bl (by omega) (by omega),bl (by omega) (by omega),bl (by omega) (by omega)⟩,by omega,by omega,by omega,by omega,by omega,by omega,by omega,by omega,by omega,by omega,by omega,by omega,by omega,by omega⟩
theorem aEh (y:Int)(bt:qd y):aO prog 370 [.int .i64 y] [] (fun v rs=>v= .bo [.int .i64 (nU y (uj y / 31) (uj y%31+1)).1,.bool (nU y (uj y / 31) (uj y%31+1)).2]∧rs= []):=by
 refine hJ func370 ags (by simp[Nh,T0]) ?_;unfold qd at bt;obtain⟨g,aw⟩: ∃ M:Int,M=y%19:=⟨_,rfl⟩;have NK:0≤g∧g≤18:=by rw[aw];exact aD2
 obtain⟨J,ad⟩: ∃ M:Int,M=y / 100:=⟨_,rfl⟩;have AY:19≤J∧J≤21:=by rw[ad];exact aD3 bt
 obtain⟨z,N⟩: ∃ M:Int,M=y%100:=⟨_,rfl⟩;have ey:0≤z∧z≤99:=by rw[N];exact aD4
 obtain⟨q,aV⟩: ∃ M:Int,M=(J+8) / 25:=⟨_,rfl⟩;have NJ:1≤q∧q≤1:=by rw[aV];exact aD5 AY
 obtain⟨qS,vk⟩: ∃ M:Int,M=(J-q+1) / 3:=⟨_,rfl⟩;have ahW:6≤qS∧qS≤7:=by rw[vk];exact aD6 AY NJ
 obtain⟨c4,T1⟩: ∃ M:Int,M=J / 4:=⟨_,rfl⟩;have ahX:4≤c4∧c4≤5:=by rw[T1];exact aD7 AY
 obtain⟨fJ,T2⟩: ∃ M:Int,M=(19*g+J-c4-qS+15)%30:=⟨_,rfl⟩;have FO:0≤fJ∧fJ≤29:=by rw[T2];exact aD8
 obtain⟨nV,EB⟩: ∃ M:Int,M=J%4:=⟨_,rfl⟩;have ahY:0≤nV∧nV≤3:=by rw[EB];exact aD9
 obtain⟨fc,L3⟩: ∃ M:Int,M=z / 4:=⟨_,rfl⟩;have ahZ:0≤fc∧fc≤24:=by rw[L3];exact aEa ey
 obtain⟨vw,JS⟩: ∃ M:Int,M=z%4:=⟨_,rfl⟩;have aia:0≤vw∧vw≤3:=by rw[JS];exact aEb
 obtain⟨le,eA⟩: ∃ M:Int,M=(32+2*nV+2*fc-fJ-vw)%7:=⟨_,rfl⟩;have FP:0≤le∧le≤6:=by rw[eA];exact aEc
 obtain⟨ex,MO⟩: ∃ M:Int,M=(g+11*fJ+22*le) / 451:=⟨_,rfl⟩;have NL:0≤ex∧ex≤1:=by rw[MO];exact aEd NK FO FP
 obtain⟨a,aC⟩: ∃ M:Int,M=(fJ+le-7*ex+114) / 31:=⟨_,rfl⟩;have aib:3≤a∧a≤4:=by rw[aC];exact aEe FO FP NL
 obtain⟨b,hb⟩: ∃ M:Int,M=(fJ+le-7*ex+114)%31:=⟨_,rfl⟩;have vH:0≤b∧b≤30:=by rw[hb];exact aEf
 obtain⟨⟨je,jG,jH,pI,nB,aEi,aEj,aEk,aEl,aEm,aEn,aEo,aEp,aEq,aEr,aEs,aEt,aEu,aEv,aEw,aEx,aEy,aEz,aEA,aEB,aEC,aED,aEE,aEF,aEG⟩,bb,n1,eo,T3,aEH,aEI,n6,n7,aEJ,aEK,aEL,aEM,aEN,aEO⟩:=aEg (y:=y) bt NK AY ey NJ ahW ahX FO ahY ahZ aia FP NL aib vH;have AZ: (y).tmod 19=g:=by rw[Int.tmod_eq_emod_of_nonneg bb,aw]
 have es: (y).tdiv 100=J:=by rw[Int.tdiv_eq_ediv_of_nonneg n1,ad]
 have ig: (y).tmod 100=z:=by rw[Int.tmod_eq_emod_of_nonneg eo,N]
 have f3: (J+8).tdiv 25=q:=by rw[Int.tdiv_eq_ediv_of_nonneg T3,aV]
 have f4: (J-q+1).tdiv 3=qS:=by rw[Int.tdiv_eq_ediv_of_nonneg aEH,vk]
 have f5: (J).tdiv 4=c4:=by rw[Int.tdiv_eq_ediv_of_nonneg aEI,T1]
 have f6: (19*g+J-c4-qS+15).tmod 30=fJ:=by rw[Int.tmod_eq_emod_of_nonneg n6,T2]
 have f7: (J).tmod 4=nV:=by rw[Int.tmod_eq_emod_of_nonneg n7,EB]
 have f8: (z).tdiv 4=fc:=by rw[Int.tdiv_eq_ediv_of_nonneg aEJ,L3]
 have f9: (z).tmod 4=vw:=by rw[Int.tmod_eq_emod_of_nonneg aEK,JS]
 have f10: (32+2*nV+2*fc-fJ-vw).tmod 7=le:=by rw[Int.tmod_eq_emod_of_nonneg aEL,eA]
 have f11: (g+11*fJ+22*le).tdiv 451=ex:=by rw[Int.tdiv_eq_ediv_of_nonneg aEM,MO]
 have f12: (fJ+le-7*ex+114).tdiv 31=a:=by rw[Int.tdiv_eq_ediv_of_nonneg aEN,aC]
 have f13: (fJ+le-7*ex+114).tmod 31=b:=by rw[Int.tmod_eq_emod_of_nonneg aEO,hb]
 have aic:Jd y=fJ:=by rw[Jd,←aw,←ad,←aV,←vk,←T1,←T2]
 have aEP:NI y=le:=by rw[NI,aic,←ad,←N,←EB,←L3,←JS,←eA]
 have aEQ:uj y=fJ+le-7*ex+114:=by rw[uj,aic,aEP,←aw,←MO]
 rw[aEQ,←aC,←hb];have d1:decide (y < 1970)=false:=decide_eq_false (fun h=>by have:=bt.1;exact absurd h (Int.not_lt.2 this));have ky:decide (2199 < y)=false:=decide_eq_false (fun h=>by have:=bt.2;exact absurd h (Int.not_lt.2 this));simp only[go_sem,Nh,T0,d1,ky]
 repeat (refine E.ac ?_;simp only[go_sem,d1,ky])
 refine⟨by decide,by decide,by decide,?_⟩;rw[AZ,es,ig,je]
 (refine E.ac ?_;simp only[go_sem,jG,jH,pI,nB,aEi,f3,f4])
 refine⟨by decide,by decide,?_⟩
 (refine E.ac ?_;simp only[go_sem,aEj,aEk,aEl,aEm,aEn,aEo,f5,f6])
 refine⟨by decide,by decide,?_⟩
 (refine E.ac ?_;simp only[go_sem,aEp,aEq,aEr,aEs,aEt,aEu,aEv,f7,f8,f9,f10])
 refine⟨by decide,by decide,by decide,by decide,?_⟩
 (refine E.ac ?_;simp only[go_sem,aEw,aEx,aEy,aEz,aEA,f11])
 refine⟨by decide,?_⟩
 (refine E.ac ?_;simp only[go_sem,aEB,aEC,aED,aEE])
 (refine E.ac ?_;simp only[go_sem,aEF,aEG,f12,f13])
 refine⟨by decide,by decide,?_⟩;refine bM (ahU y a (b+1)) rfl rfl ?_;simp only[go_sem]
 repeat (refine E.ac ?_;simp only[go_sem])
 exact E.bg rfl ⟨rfl,rfl⟩
def wW (y:Int):Int×Bool:=nU y (uj y / 31) (uj y%31+1)
def aid (y:Int):Bool:=(wW y).2&&ahV (wW y).1==6&&decide ((nU y 3 22).1≤(wW y).1)&&decide ((wW y).1≤(nU y 4 25).1)
theorem aES: (List.range 230).all (fun k=>aid (1970+k))=true:=by kernel_rfl
theorem aie {y:Int}(h0:1970≤y)(h1:y≤2199): (wW y).2=true∧ahV (wW y).1=6∧(nU y 3 22).1≤(wW y).1∧(wW y).1≤(nU y 4 25).1:=by
 have h:=List.all_eq_true.1 aES (y-1970).toNat (List.mem_range.2 (by omega));rw[show (1970:Int)+((y-1970).toNat:Nat)=y from by omega] at h;simpa[aid,and_assoc] using h
open Go.RowKit (Below)
structure cX where
 cB:Int
 rK:Int
 ah:Int
 A1:Int
 offset:Int
 Jf:Bool
def cX.cells (p:cX):List F:= [.int .i64 p.cB,.int .i64 p.rK,.int .i64 p.ah,.int .i64 p.A1,.int .i64 p.offset,.bool p.Jf]
instance:aJ cX:=⟨cX.cells,6,fun _=>rfl,fun _=>rfl,fun _=>rfl⟩
theorem T4 (p:cX):aJ.J p= [.int .i64 p.cB,.int .i64 p.rK,.int .i64 p.ah,.int .i64 p.A1,.int .i64 p.offset,.bool p.Jf]:=rfl
theorem aEX (B:Int)(b:Bool)(w:World)(h:js w 0 .i64 eM):Calls prog 257 #[.agg #[.int .i64 0,.int .i64 1,.int .i64 B,.int .i64 0,.int .i64 0,.bool b]] w fun e w'=>e= .returned (.bool (decide (1≤B∧B≤31)))∧(Below w.heap.size w w'∧w.drawn≤w'.drawn):=by
 have ad:=kW h (c:=0) rfl;have aI:0 < w.heap.size:=by obtain⟨_,_,h⟩:=h;exact (Array.getElem?_eq_some_iff.1 h).1
 clear h
 go_enter func257,ntmps257
 go_wp2
 ·rename_i ay
  go_ret
  exact⟨by simp[ay],⟨rfl,rfl,rfl,by simp,fun b hb=>heap_alloc_old w _ hb⟩,Nat.le_refl _⟩
 ·rename_i ay
  go_ret
  exact⟨by simp[show ¬(1≤B) from by omega],⟨rfl,rfl,rfl,by simp,fun b hb=>heap_alloc_old w _ hb⟩,Nat.le_refl _⟩
theorem aEY (B:Int)(b:Bool)(w:World)(h:js w 0 .i64 eM):Calls prog 257 #[.agg #[.int .i64 0,.int .i64 2,.int .i64 B,.int .i64 0,.int .i64 0,.bool b]] w fun e w'=>e= .returned (.bool (decide (1≤B∧B≤29)))∧(Below w.heap.size w w'∧w.drawn≤w'.drawn):=by
 have ad:=kW h (c:=1) rfl;have aI:0 < w.heap.size:=by obtain⟨_,_,h⟩:=h;exact (Array.getElem?_eq_some_iff.1 h).1
 clear h
 go_enter func257,ntmps257
 go_wp2
 ·rename_i ay
  go_ret
  exact⟨by simp[ay],⟨rfl,rfl,rfl,by simp,fun b hb=>heap_alloc_old w _ hb⟩,Nat.le_refl _⟩
 ·rename_i ay
  go_ret
  exact⟨by simp[show ¬(1≤B) from by omega],⟨rfl,rfl,rfl,by simp,fun b hb=>heap_alloc_old w _ hb⟩,Nat.le_refl _⟩
theorem aEZ (B:Int)(b:Bool)(w:World)(h:js w 0 .i64 eM):Calls prog 257 #[.agg #[.int .i64 0,.int .i64 3,.int .i64 B,.int .i64 0,.int .i64 0,.bool b]] w fun e w'=>e= .returned (.bool (decide (1≤B∧B≤31)))∧(Below w.heap.size w w'∧w.drawn≤w'.drawn):=by
 have ad:=kW h (c:=2) rfl;have aI:0 < w.heap.size:=by obtain⟨_,_,h⟩:=h;exact (Array.getElem?_eq_some_iff.1 h).1
 clear h
 go_enter func257,ntmps257
 go_wp2
 ·rename_i ay
  go_ret
  exact⟨by simp[ay],⟨rfl,rfl,rfl,by simp,fun b hb=>heap_alloc_old w _ hb⟩,Nat.le_refl _⟩
 ·rename_i ay
  go_ret
  exact⟨by simp[show ¬(1≤B) from by omega],⟨rfl,rfl,rfl,by simp,fun b hb=>heap_alloc_old w _ hb⟩,Nat.le_refl _⟩
theorem aE0 (B:Int)(b:Bool)(w:World)(h:js w 0 .i64 eM):Calls prog 257 #[.agg #[.int .i64 0,.int .i64 4,.int .i64 B,.int .i64 0,.int .i64 0,.bool b]] w fun e w'=>e= .returned (.bool (decide (1≤B∧B≤30)))∧(Below w.heap.size w w'∧w.drawn≤w'.drawn):=by
 have ad:=kW h (c:=3) rfl;have aI:0 < w.heap.size:=by obtain⟨_,_,h⟩:=h;exact (Array.getElem?_eq_some_iff.1 h).1
 clear h
 go_enter func257,ntmps257
 go_wp2
 ·rename_i ay
  go_ret
  exact⟨by simp[ay],⟨rfl,rfl,rfl,by simp,fun b hb=>heap_alloc_old w _ hb⟩,Nat.le_refl _⟩
 ·rename_i ay
  go_ret
  exact⟨by simp[show ¬(1≤B) from by omega],⟨rfl,rfl,rfl,by simp,fun b hb=>heap_alloc_old w _ hb⟩,Nat.le_refl _⟩
theorem aE1 (B:Int)(b:Bool)(w:World)(h:js w 0 .i64 eM):Calls prog 257 #[.agg #[.int .i64 0,.int .i64 5,.int .i64 B,.int .i64 0,.int .i64 0,.bool b]] w fun e w'=>e= .returned (.bool (decide (1≤B∧B≤31)))∧(Below w.heap.size w w'∧w.drawn≤w'.drawn):=by
 have ad:=kW h (c:=4) rfl;have aI:0 < w.heap.size:=by obtain⟨_,_,h⟩:=h;exact (Array.getElem?_eq_some_iff.1 h).1
 clear h
 go_enter func257,ntmps257
 go_wp2
 ·rename_i ay
  go_ret
  exact⟨by simp[ay],⟨rfl,rfl,rfl,by simp,fun b hb=>heap_alloc_old w _ hb⟩,Nat.le_refl _⟩
 ·rename_i ay
  go_ret
  exact⟨by simp[show ¬(1≤B) from by omega],⟨rfl,rfl,rfl,by simp,fun b hb=>heap_alloc_old w _ hb⟩,Nat.le_refl _⟩
theorem aE2 (B:Int)(b:Bool)(w:World)(h:js w 0 .i64 eM):Calls prog 257 #[.agg #[.int .i64 0,.int .i64 6,.int .i64 B,.int .i64 0,.int .i64 0,.bool b]] w fun e w'=>e= .returned (.bool (decide (1≤B∧B≤30)))∧(Below w.heap.size w w'∧w.drawn≤w'.drawn):=by
 have ad:=kW h (c:=5) rfl;have aI:0 < w.heap.size:=by obtain⟨_,_,h⟩:=h;exact (Array.getElem?_eq_some_iff.1 h).1
 clear h
 go_enter func257,ntmps257
 go_wp2
 ·rename_i ay
  go_ret
  exact⟨by simp[ay],⟨rfl,rfl,rfl,by simp,fun b hb=>heap_alloc_old w _ hb⟩,Nat.le_refl _⟩
 ·rename_i ay
  go_ret
  exact⟨by simp[show ¬(1≤B) from by omega],⟨rfl,rfl,rfl,by simp,fun b hb=>heap_alloc_old w _ hb⟩,Nat.le_refl _⟩
theorem aE3 (B:Int)(b:Bool)(w:World)(h:js w 0 .i64 eM):Calls prog 257 #[.agg #[.int .i64 0,.int .i64 7,.int .i64 B,.int .i64 0,.int .i64 0,.bool b]] w fun e w'=>e= .returned (.bool (decide (1≤B∧B≤31)))∧(Below w.heap.size w w'∧w.drawn≤w'.drawn):=by
 have ad:=kW h (c:=6) rfl;have aI:0 < w.heap.size:=by obtain⟨_,_,h⟩:=h;exact (Array.getElem?_eq_some_iff.1 h).1
 clear h
 go_enter func257,ntmps257
 go_wp2
 ·rename_i ay
  go_ret
  exact⟨by simp[ay],⟨rfl,rfl,rfl,by simp,fun b hb=>heap_alloc_old w _ hb⟩,Nat.le_refl _⟩
 ·rename_i ay
  go_ret
  exact⟨by simp[show ¬(1≤B) from by omega],⟨rfl,rfl,rfl,by simp,fun b hb=>heap_alloc_old w _ hb⟩,Nat.le_refl _⟩
theorem aE4 (B:Int)(b:Bool)(w:World)(h:js w 0 .i64 eM):Calls prog 257 #[.agg #[.int .i64 0,.int .i64 8,.int .i64 B,.int .i64 0,.int .i64 0,.bool b]] w fun e w'=>e= .returned (.bool (decide (1≤B∧B≤31)))∧(Below w.heap.size w w'∧w.drawn≤w'.drawn):=by
 have ad:=kW h (c:=7) rfl;have aI:0 < w.heap.size:=by obtain⟨_,_,h⟩:=h;exact (Array.getElem?_eq_some_iff.1 h).1
 clear h
 go_enter func257,ntmps257
 go_wp2
 ·rename_i ay
  go_ret
  exact⟨by simp[ay],⟨rfl,rfl,rfl,by simp,fun b hb=>heap_alloc_old w _ hb⟩,Nat.le_refl _⟩
 ·rename_i ay
  go_ret
  exact⟨by simp[show ¬(1≤B) from by omega],⟨rfl,rfl,rfl,by simp,fun b hb=>heap_alloc_old w _ hb⟩,Nat.le_refl _⟩
theorem aE5 (B:Int)(b:Bool)(w:World)(h:js w 0 .i64 eM):Calls prog 257 #[.agg #[.int .i64 0,.int .i64 9,.int .i64 B,.int .i64 0,.int .i64 0,.bool b]] w fun e w'=>e= .returned (.bool (decide (1≤B∧B≤30)))∧(Below w.heap.size w w'∧w.drawn≤w'.drawn):=by
 have ad:=kW h (c:=8) rfl;have aI:0 < w.heap.size:=by obtain⟨_,_,h⟩:=h;exact (Array.getElem?_eq_some_iff.1 h).1
 clear h
 go_enter func257,ntmps257
 go_wp2
 ·rename_i ay
  go_ret
  exact⟨by simp[ay],⟨rfl,rfl,rfl,by simp,fun b hb=>heap_alloc_old w _ hb⟩,Nat.le_refl _⟩
 ·rename_i ay
  go_ret
  exact⟨by simp[show ¬(1≤B) from by omega],⟨rfl,rfl,rfl,by simp,fun b hb=>heap_alloc_old w _ hb⟩,Nat.le_refl _⟩
theorem aE6 (B:Int)(b:Bool)(w:World)(h:js w 0 .i64 eM):Calls prog 257 #[.agg #[.int .i64 0,.int .i64 10,.int .i64 B,.int .i64 0,.int .i64 0,.bool b]] w fun e w'=>e= .returned (.bool (decide (1≤B∧B≤31)))∧(Below w.heap.size w w'∧w.drawn≤w'.drawn):=by
 have ad:=kW h (c:=9) rfl;have aI:0 < w.heap.size:=by obtain⟨_,_,h⟩:=h;exact (Array.getElem?_eq_some_iff.1 h).1
 clear h
 go_enter func257,ntmps257
 go_wp2
 ·rename_i ay
  go_ret
  exact⟨by simp[ay],⟨rfl,rfl,rfl,by simp,fun b hb=>heap_alloc_old w _ hb⟩,Nat.le_refl _⟩
 ·rename_i ay
  go_ret
  exact⟨by simp[show ¬(1≤B) from by omega],⟨rfl,rfl,rfl,by simp,fun b hb=>heap_alloc_old w _ hb⟩,Nat.le_refl _⟩
theorem aE7 (B:Int)(b:Bool)(w:World)(h:js w 0 .i64 eM):Calls prog 257 #[.agg #[.int .i64 0,.int .i64 11,.int .i64 B,.int .i64 0,.int .i64 0,.bool b]] w fun e w'=>e= .returned (.bool (decide (1≤B∧B≤30)))∧(Below w.heap.size w w'∧w.drawn≤w'.drawn):=by
 have ad:=kW h (c:=10) rfl;have aI:0 < w.heap.size:=by obtain⟨_,_,h⟩:=h;exact (Array.getElem?_eq_some_iff.1 h).1
 clear h
 go_enter func257,ntmps257
 go_wp2
 ·rename_i ay
  go_ret
  exact⟨by simp[ay],⟨rfl,rfl,rfl,by simp,fun b hb=>heap_alloc_old w _ hb⟩,Nat.le_refl _⟩
 ·rename_i ay
  go_ret
  exact⟨by simp[show ¬(1≤B) from by omega],⟨rfl,rfl,rfl,by simp,fun b hb=>heap_alloc_old w _ hb⟩,Nat.le_refl _⟩
theorem aE8 (B:Int)(b:Bool)(w:World)(h:js w 0 .i64 eM):Calls prog 257 #[.agg #[.int .i64 0,.int .i64 12,.int .i64 B,.int .i64 0,.int .i64 0,.bool b]] w fun e w'=>e= .returned (.bool (decide (1≤B∧B≤31)))∧(Below w.heap.size w w'∧w.drawn≤w'.drawn):=by
 have ad:=kW h (c:=11) rfl;have aI:0 < w.heap.size:=by obtain⟨_,_,h⟩:=h;exact (Array.getElem?_eq_some_iff.1 h).1
 clear h
 go_enter func257,ntmps257
 go_wp2
 ·rename_i ay
  go_ret
  exact⟨by simp[ay],⟨rfl,rfl,rfl,by simp,fun b hb=>heap_alloc_old w _ hb⟩,Nat.le_refl _⟩
 ·rename_i ay
  go_ret
  exact⟨by simp[show ¬(1≤B) from by omega],⟨rfl,rfl,rfl,by simp,fun b hb=>heap_alloc_old w _ hb⟩,Nat.le_refl _⟩
def pq (m:Int):Int:=if m=2 then 29 else eM.getD (m-1).toNat 0
def AW (h:cX):Bool:=
 if h.cB=0 then decide (1≤h.rK∧h.rK≤12∧h.A1=0∧h.offset=0∧1≤h.ah∧h.ah≤pq h.rK)
 else if h.cB=1 then decide (-100≤h.offset∧h.offset≤100∧h.rK=0∧h.ah=0∧h.A1=0)
 else if h.cB=2 then decide (1≤h.rK∧h.rK≤12∧(h.ah= -1∨1≤h.ah∧h.ah≤5)∧0≤h.A1∧h.A1≤6∧ -7≤h.offset∧h.offset≤7)
 else false
theorem aEW (m B:Int)(b:Bool)(h1:1≤m)(G:m≤12):aO prog 257 [.agg [.int .i64 0,.int .i64 m,.int .i64 B,.int .i64 0,.int .i64 0,.bool b]] [] (fun v rs=>v= .bool (decide (1≤B∧B≤pq m))∧rs= []):=by
 refine aO.D2 ?_;rintro C dA N aA ⟨_,_,ht⟩ dv;simp only[aE,Rep] at dv;obtain⟨v1,r1,rfl,⟨vs,rfl,an⟩,rfl⟩:=dv;obtain⟨a0,q0,g0,rfl,cH,q1,g1,rfl,ff,eQ,bR,rfl,a3,eF,dq,rfl,a4,iR,gP,rfl,a5,pW,uN,rfl,rfl⟩:=an;have kU:vs= #[.int .i64 0,.int .i64 m,.int .i64 B,.int .i64 0,.int .i64 0,.bool b]:=by
  cases vs;simp_all
 subst kU;have key: ∀ {M:Int},pq m=M→(Calls prog 257 #[.agg #[.int .i64 0,.int .i64 m,.int .i64 B,.int .i64 0,.int .i64 0,.bool b]] C.w fun e w'=>e= .returned (.bool (decide (1≤B∧B≤M)))∧(Below C.w.heap.size C.w w'∧C.w.drawn≤w'.drawn))→
  Calls prog 257 #[.agg #[.int .i64 0,.int .i64 m,.int .i64 B,.int .i64 0,.int .i64 0,.bool b]] C.w fun e w'=> ∃ aZ v,e= .returned aZ∧(Below C.w.heap.size C.w w'∧C.w.drawn≤w'.drawn)∧(∀ aB:bD,jB C aB→Rep aB v aZ)∧v= .bool (decide (1≤B∧B≤pq m))∧ []=([]:List Z):=by
  intro M ba h;refine h.mono ?_;rintro e w' ⟨rfl,hb⟩;exact⟨_,.bool (decide (1≤B∧B≤M)),rfl,hb,fun aB _=>by rw[Rep],by rw[ba],rfl⟩
 obtain rfl|rfl|rfl|rfl|rfl|rfl|rfl|rfl|rfl|rfl|rfl|rfl:m=1∨m=2∨m=3∨m=4∨m=5∨m=6∨m=7∨m=8∨m=9∨m=10∨m=11∨m=12:=by omega
 ·exact key (by simp[pq,eM]) (aEX B b C.w ht)
 ·exact key (by simp[pq,eM]) (aEY B b C.w ht)
 ·exact key (by simp[pq,eM]) (aEZ B b C.w ht)
 ·exact key (by simp[pq,eM]) (aE0 B b C.w ht)
 ·exact key (by simp[pq,eM]) (aE1 B b C.w ht)
 ·exact key (by simp[pq,eM]) (aE2 B b C.w ht)
 ·exact key (by simp[pq,eM]) (aE3 B b C.w ht)
 ·exact key (by simp[pq,eM]) (aE4 B b C.w ht)
 ·exact key (by simp[pq,eM]) (aE5 B b C.w ht)
 ·exact key (by simp[pq,eM]) (aE6 B b C.w ht)
 ·exact key (by simp[pq,eM]) (aE7 B b C.w ht)
 ·exact key (by simp[pq,eM]) (aE8 B b C.w ht)
theorem aih (k m B ic V:Int)(b:Bool):AW ⟨k,m,B,ic,V,b⟩=true↔(k=0∧1≤m∧m≤12∧ic=0∧V=0∧1≤B∧B≤pq m)∨(k=1∧ -100≤V∧V≤100∧m=0∧B=0∧ic=0)∨
 (k=2∧1≤m∧m≤12∧(B= -1∨1≤B∧B≤5)∧0≤ic∧ic≤6∧ -7≤V∧V≤7):=by
 unfold AW;simp only;split
 ·subst_vars;simp
 ·split
  ·subst_vars;simp
  ·split
   ·subst_vars;simp
   ·simp_all
theorem aET (h:cX):aO prog 257 [.agg (aJ.J h)] [] (fun v rs=>v= .bool (AW h)∧rs= []):=by
 obtain⟨k,m,B,ic,V,b⟩:=h;rw[T4]
 by_cases h0:k=0∧1≤m∧m≤12∧ic=0∧V=0
 ·obtain⟨rfl,h1,G,rfl,rfl⟩:=h0;refine (aEW m B b h1 G).mono ?_;rintro _ _ ⟨rfl,rfl⟩;simp[AW,h1,G]
 ·refine cu func257 afG (by simp[Nc,T5]) ?_;simp only[go_sem,Nc,T5]
  repeat' ((first|refine gv ?_ ?_|refine gw ?_ ?_|refine cf ?_ ?_|refine dj ?_ ?_)<;>intro aw<;>(have ak:=aw;try simp only[bC] at ak)<;>(first|omega| (simp only[go_sem,aw,];clear aw)))
  all_goals first
   | (exfalso;simp only[bC] at *;omega)
   | (refine E.bg rfl ⟨congrArg F.bool ?_,rfl⟩;rw[Bool.eq_iff_iff,aih];simp only[bC,Bool.false_eq_true,false_iff,true_iff,iff_true,iff_false,and_true,true_and] at *;omega)
def oD (l:List cX):Bool:=l.all AW
def ng (l:List cX):Int:=if 1024 < l.length then 3 else if oD l=true then 0 else 1
end Go.Proofs.YtpincjkjoeopkaaGreatDoor.Pm
