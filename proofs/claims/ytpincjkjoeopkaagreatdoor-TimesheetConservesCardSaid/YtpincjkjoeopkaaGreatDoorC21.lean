/- Time evaluation. -/
import Derived.Test.YtpincjkjoeopkaaGreatDoorC18
set_option linter.all false
namespace Go.Proofs.YtpincjkjoeopkaaGreatDoor
open Go Go.Abs Go.Proofs.Tryz
def auM:Go.Shelf.Ren:=QU
theorem auN:SlLaysZI.n7 prog auM:=YV
theorem auO (aW:TypeId)(ents:List (F×F))(Y:List Int)(O:ents.map (·.1)=Y.map (F.int .i64 ·))(ss:Y.Nodup)(ki:∀x∈Y,(Lit.int .i64 x).wf=true)(cK:Y.length<=1000000):
 aO prog 47 [.fn 204 [.bd 1 1 0 0]] [.be (.map false [.int .i64] ents),.ag aW 1 [[.bE 0]]]
  (λv rs=>v= .pure 1 (cJ .i64 (fq Y))/\rs=[.be (.map false [.int .i64] ents),.ag aW 1 [[.bE 0]]]):=
 YW rfl rfl O ss ki cK
end Go.Proofs.YtpincjkjoeopkaaGreatDoor
namespace Go.Proofs.YtpincjkjoeopkaaGreatDoor.Pm
open Go Go.Abs
def sM (y:Int):Int:=y / 4-y / 100+y / 400
def lE (y:Int):Int:=365*(y-1970)+sM (y-1)-477
def yI:Nat->Int->Int->Int
 |0,y,_=>y
 |k+1,y,B=>if lE (y+1)<=B then yI k (y+1) B else y
def eT (B:Int):Int:=yI 400 (1970+B / 366) B
def nm (y:Int):Nat->Int
 |0=>0
 |k+1=>nm y k+hZ y (k+1)
def mF (y m B:Int):Int:=lE y+nm y (m-1).toNat+B-1
def FM:Nat->Int->Int->Int->Int×Int
 |0,_,m,z=>(m,z)
 |k+1,y,m,z=>if hZ y m<=z then FM k y (m+1) (z-hZ y m) else (m,z)
theorem yJ {y m:Int}(d:1<=m)(G:m<=12):28<=hZ y m/\hZ y m<=31:=by
 obtain rfl|rfl|rfl|rfl|rfl|rfl|rfl|rfl|rfl|rfl|rfl|rfl:m=1\/m=2\/m=3\/m=4\/m=5\/m=6\/m=7\/m=8\/m=9\/m=10\/m=11\/m=12:=by omega
 all_goals simp[hZ,eM]
 split<;>omega
theorem aDT (y:Int):nm y 12=if zW y=true then 366 else 365:=by
 simp only[nm];simp only[hZ,eM];cases h:zW y<;>simp
theorem ahJ {y:Int}:zW y=true↔y%4=0/\(¬y%100=0\/y%400=0):=by
 simp only[zW,aKJ,aLP,aMH,aKN,aLX]
theorem aDU (y:Int):lE (y+1)=lE y+nm y 12:=by
 rw[aDT];simp only[lE,sM];split
 ·rename_i h;rw[ahJ] at h;omega
 ·rename_i h;rw[ahJ] at h;omega
theorem ND {y:Int}(h0:1970<=y)(d:y<=2300):365*(y-1970)<=lE y/\lE y<=365*(y-1970)+(y-1970):=by
 simp only[lE,sM];omega
theorem ahK:∀(k:Nat) (y B:Int),1970<=y->y+k≥2250->y<=2240->0<=B->B<=90000->lE y<=B->lE (yI k y B)<=B/\B<lE (yI k y B+1)/\1970<=yI k y B/\yI k y B<=2240
 |0,y,B,_,_,_,_,_,_=>by omega
 |k+1,y,B,d,G,au,bv,cx,dx=>by
  rw[yI];split
  ·rename_i h;have af:=ND (y:=y+1) (by omega) (by omega);exact ahK k (y+1) B (by omega) (by omega) (by omega) bv cx h
  ·rename_i h;exact⟨dx,by omega,by omega,by omega⟩
theorem ahL {B:Int}(h0:0<=B)(d:B<=90000):lE (eT B)<=B/\B<lE (eT B+1)/\1970<=eT B/\eT B<=2240:=by
 have af:=ND (y:=1970+B / 366) (by omega) (by omega);exact ahK 400 _ B (by omega) (by omega) (by omega) h0 d (by omega)
def I8 (B:Int):Int×Int:=FM 12 (eT B) 1 (B-lE (eT B))
open Go.Proofs.Tryz
theorem ahR (y:Int)(h0:0<=y)(d:y<=1000000):aO prog 312 [.int .i64 y] [] (λv rs=>v= .int .i64 (sM y)/\rs=[]):=by
 refine cu func312 afZ (by simp[Nf,TV]) ?_;simp only[go_sem,Nf,TV];simp only[aMn h0];rw[bl (x:=y / 4),bl (x:=y / 100),bl (x:=y / 400),bl (x:=y / 4-y / 100),bl];refine⟨by decide,by decide,by decide,?_⟩;exact aKG rfl ⟨by rw[sM],rfl⟩
theorem TW (y:Int)(h0:1<=y)(d:y<=100000):aO prog 254 [.int .i64 y] [] (λv rs=>v= .int .i64 (lE y)/\rs=[]):=by
 refine cu func254 afD (by simp[Nb,TX]) ?_;simp only[go_sem,Nb,TX];rw[bl (x:=y-1),bl (x:=y-1970),bl];refine bM (ahR (y-1) (by omega) (by omega)) rfl rfl ?_;have hl:0<=sM (y-1)/\sM (y-1)<=100000:=by simp only[sM];omega
 have af:lE y=365*(y-1970)+sM (y-1)-sM 1969:=rfl;rw[af];generalize sM (y-1)=a at hl ⊢;simp only[go_sem];rw[bl];refine bM (ahR 1969 (by omega) (by omega)) rfl rfl ?_;rw[show sM 1969=477 from rfl];simp only[go_sem];rw[bl];exact aKG rfl ⟨rfl,rfl⟩
theorem lQ (B:Int):aO prog 252 [.int .i64 B] [] (λv rs=>v= .bool (decide (0<=B/\B<=84005))/\rs=[]):=by
 refine cu func252 afB (by simp[IK,NF]) ?_;simp only[go_sem,IK,NF]
 repeat' ((first|refine gv ?_ ?_|refine gw ?_ ?_|refine cf ?_ ?_|refine dj ?_ ?_)<;>intro aw<;>(have ak:=aw;try simp only[bC] at ak)<;>(first|omega| (simp only[go_sem,aw,IK,NF];clear aw)))
 all_goals (refine aKG rfl ⟨aKI F.bool ?_,rfl⟩;rw[aL0];simp only[bC,aLK,aMI];omega)
def mG (B:Int):Int:=(B+3)%7
theorem ahS (x:Int): -7<x.tmod 7/\x.tmod 7<7/\(x.tmod 7+7)%7=x%7:=by
 rw[Int.tmod_eq_emod];split<;>omega
theorem NG (B:Int)(h0: -1000000<=B)(d:B<=1000000):aO prog 372 [.int .i64 B] [] (λv rs=>v= .int .i64 (mG B)/\rs=[]):=by
 refine cu func372 agu (by simp[Ni,TY]) ?_;obtain⟨a,b,J⟩:=ahS (B+3);simp only[go_sem,Ni,TY];rw[bl (x:=B+3),bl,aMC (a:=(B+3).tmod 7+7) (by omega),J];exact⟨by decide,by decide,aKG rfl ⟨rfl,rfl⟩⟩
theorem aD0 (B:Int)(h0:0<=B)(d:B<=90000):aO prog 253 [.int .i64 B] [] (λv rs=>v= .int .i64 (eT B)/\rs=[]):=by
 refine cu func253 afC (by simp[Fx,Ja]) ?_;simp only[go_sem,Fx,Ja];refine⟨by decide,?_⟩;rw[aMn h0,bl (x:=B / 366),bl];refine dN (λD r=> ∃(k:Nat) (y:Int),eT B=yI k y B/\1970<=y/\y+k≥2250/\y<=2240/\lE y<=B/\D=[(0,.int .i64 B),(3,.int .i64 y)]/\r=[])
  (λD _=>match bs D 3 with| .int _ j=>(3000-j).toNat|_=>0) ?_ ?_
 ·have af:=ND (y:=1970+B / 366) (by omega) (by omega);exact i ⟨400,1970+B / 366,rfl,by omega,by omega,by omega,by omega,rfl,rfl⟩
 ·rintro D r ⟨k,y,bt,G,au,bv,cx,rfl,rfl⟩;simp only[go_sem,Fx,Ja];rw[bl];refine bM (TW (y+1) (by omega) (by omega)) rfl rfl ?_;simp only[go_sem];obtain⟨k,rfl⟩:∃j,k=j+1:=⟨k-1,by omega⟩;rw[yI] at bt;refine cf ?_ ?_<;>intro dI<;>simp only[bC] at dI<;>simp only[go_sem,Fx,Ja]
  ·rw[Rc dI] at bt;have af:=ND (y:=y+1) (by omega) (by omega);rw[bl];refine i ⟨⟨k,y+1,bt,by omega,by omega,by omega,dI,rfl,rfl⟩,?_⟩;simp only[go_sem];omega
  ·rw[S (by omega)] at bt;exact aKG rfl ⟨by rw[bt],rfl⟩
theorem NH (y:Int):∀k:Nat,k<=12->28*k<=nm y k/\nm y k<=31*k
 |0,_=>by simp[nm]
 |k+1,h=>by
  have ih:=NH y k (by omega);have hl:=yJ (y:=y) (m:=k+1) (by omega) (by omega);rw[nm];omega
theorem TZ {y:Int}(h0:1969<=y)(d:y<=2300): -1000<=lE y/\lE y<=200000:=by
 simp only[lE,sM];omega
theorem ahT (y m B:Int)(h0:1970<=y)(d:y<=2300)(G:1<=m)(au:m<=12)(bv: -1000<=B)(cx:B<=1000):aO prog 191 [.int .i64 y,.int .i64 m,.int .i64 B] [] (λv rs=>v= .int .i64 (mF y m B)/\rs=[]):=by
 refine cu func191 aeJ (by simp[Fs,Jb]) ?_;have pP:=TZ (y:=y) (by omega) d;simp only[go_sem,Fs,Jb];refine bM (TW y (by omega) (by omega)) rfl rfl ?_;simp only[go_sem];refine dN (λD r=> ∃(k:Nat),(k:Int)+1<=m/\D=[(0,.int .i64 y),(1,.int .i64 m),(2,.int .i64 B),(7,.int .i64 (lE y+nm y k)),(8,.int .i64 (k+1))]/\r=[])
  (λD _=>match bs D 8 with| .int _ j=>(m-j).toNat|_=>0) ?_ ?_
 ·exact i ⟨0,by omega,by simp[nm],rfl⟩
 ·rintro D r ⟨k,O,rfl,rfl⟩;have RH:=NH y k (by omega);simp only[go_sem,Fs,Jb];refine cf ?_ ?_<;>intro dI<;>simp only[bC] at dI<;>simp only[go_sem,Fs,Jb]
  ·have hl:=yJ (y:=y) (m:=k+1) (by omega) (by omega);refine bM (ES y (k+1) (by omega) (by omega) (by omega)) rfl rfl ?_;simp only[go_sem];rw[bl (x:=(k:Int)+1+1),bl];refine i ⟨⟨k+1,by omega,by rw[nm,Int.add_assoc];rfl,rfl⟩,?_⟩;simp only[go_sem];omega
  ·rw[bl (x:=lE y+nm y k+B),bl];exact aKG rfl ⟨by rw[mF,show (m-1).toNat=k from by omega],rfl⟩
def nU (y m B:Int):Int×Bool:=if 1970<=y/\y<=2199/\1<=m/\m<=12/\1<=B/\B<=hZ y m then (mF y m B,true) else (0,false)
theorem ahU (y m B:Int):aO prog 369 [.int .i64 y,.int .i64 m,.int .i64 B] [] (λv rs=>v= .bo [.int .i64 (nU y m B).1,.bool (nU y m B).2]/\rs=[]):=by
 refine cu func369 agr (by simp[FB,Jc]) ?_;have qR:¬(1970<=y/\y<=2199/\1<=m/\m<=12/\1<=B/\B<=hZ y m)->nU y m B=(0,false):=λh=>by rw[nU,S h]
 simp only[go_sem,FB,Jc]
 repeat' ((first|refine gv ?_ ?_|refine gw ?_ ?_|refine cf ?_ ?_|refine dj ?_ ?_)<;>intro aw<;>(have ak:=aw;try simp only[bC] at ak)<;>(first|omega| (simp only[go_sem,aw,FB,Jc];clear aw)))
 any_goals exact aKG rfl ⟨by rw[qR (by omega)],rfl⟩
 refine bM (ES y m (by omega) (by omega) (by omega)) rfl rfl ?_;simp only[go_sem];refine cf ?_ ?_<;>intro dI<;>simp only[bC] at dI<;>simp only[go_sem,FB,Jc]
 ·exact aKG rfl ⟨by rw[qR (by omega)],rfl⟩
 ·have hl:=yJ (y:=y) (m:=m) (by omega) (by omega);refine bM (ahT y m B (by omega) (by omega) (by omega) (by omega) (by omega) (by omega)) rfl rfl ?_;simp only[go_sem];exact aKG rfl ⟨by rw[nU,Rc (by omega)],rfl⟩
def ui (B:Int):Prop:=0<=B/\B<=84005
instance (B:Int):Decidable (ui B):=by unfold ui;infer_instance
theorem aD1 (B:Int):aO prog 190 [.int .i64 B] [] (λv rs=>v=(if ui B then .bo [.int .i64 (eT B),.int .i64 (I8 B).1,.int .i64 ((I8 B).2+1),.bool true] else .bo [.int .i64 0,.int .i64 0,.int .i64 0,.bool false])/\rs=[]):=by
 refine cu func190 aeI (by simp[CR,FN]) ?_;simp only[go_sem,CR,FN];refine bM (lQ B) rfl rfl ?_;simp only[go_sem];refine cf ?_ ?_<;>intro dI<;>simp only[bC] at dI<;>simp only[go_sem,CR,FN]
 ·exact aKG rfl ⟨by rw[S (show ¬ui B from dI)],rfl⟩
 rw[Rc (show ui B from dI)];obtain⟨a,b,J,e⟩:=ahL (B:=B) (by omega) (by omega);have pP:=TZ (y:=eT B) (by omega) (by omega);rw[aDU] at b;refine bM (aD0 B (by omega) (by omega)) rfl rfl ?_;simp only[go_sem];refine bM (TW (eT B) (by omega) (by omega)) rfl rfl ?_;simp only[go_sem];rw[bl];have sN:I8 B=FM 12 (eT B) 1 (B-lE (eT B)):=rfl;generalize eT B=y at *;refine dN (λD r=> ∃(k m:Nat) (z:Int),I8 B=FM k y m z/\1<=m/\m<=12/\12<=m+k/\0<=z/\z<=400/\z<nm y 12-nm y (m-1)/\D=[(6,.int .i64 y),(7,.int .i64 z),(8,.int .i64 m)]/\r=[])
  (λD _=>match bs D 8 with| .int _ j=>(13-j).toNat|_=>0) ?_ ?_
 ·have aKl:=NH y 12 (by omega);exact i ⟨12,1,_,sN,by omega,by omega,by omega,by omega,by omega,by show _<nm y 12-0;omega,rfl,rfl⟩
 ·rintro D r ⟨k,m,z,hm,d,G,au,bv,cx,dx,rfl,rfl⟩;have hl:=yJ (y:=y) (m:=m) (by omega) (by omega);obtain⟨j,rfl⟩:∃j,m=j+1:=⟨m-1,by omega⟩;simp only[aP5] at dx;have ao:nm y (j+1)=nm y j+hZ y (((j+1:Nat):Int)):=rfl;simp only[go_sem,CR,FN];refine bM (ES y ((j+1:Nat):Int) (by omega) (by omega) (by omega)) rfl rfl ?_;simp only[go_sem];refine cf ?_ ?_<;>intro ct<;>simp only[bC] at ct<;>simp only[go_sem,CR,FN]
  ·refine bM (ES y ((j+1:Nat):Int) (by omega) (by omega) (by omega)) rfl rfl ?_;simp only[go_sem];rw[bl,bl];have hj:j+1<12:=by
    rcases aNa (j+1) 12 with h|h
    ·exact h
    ·exfalso;have oo:j=11:=by omega
     subst oo;have aKm:nm y 12=nm y (11+1):=rfl;omega
   obtain⟨k,rfl⟩:∃c,k=c+1:=⟨k-1,by omega⟩;rw[FM,Rc ct] at hm;refine i ⟨⟨k,j+2,_,hm,by omega,by omega,by omega,by omega,by omega,by simp only[show j+2-1=j+1 from rfl];omega,rfl,rfl⟩,?_⟩;simp only[go_sem];omega
  ·rw[bl];have MB:I8 B=(((j+1:Nat):Int),z):=by
    rw[hm];cases k with
    |zero=>rfl
    |succ k=>rw[FM,S (by omega)]
   exact aKG rfl ⟨by rw[MB],rfl⟩
def ahV (B:Int):Int:=if ui B then mG B else -1
def qd (y:Int):Prop:=1970<=y/\y<=2199
instance (B:Int):Decidable (qd B):=by unfold qd;infer_instance
def Jd (y:Int):Int:=(19*(y%19)+y / 100-y / 100 / 4-(y / 100-(y / 100+8) / 25+1) / 3+15)%30
def NI (y:Int):Int:=(32+2*(y / 100%4)+2*(y%100 / 4)-Jd y-y%100%4)%7
def uj (y:Int):Int:=Jd y+NI y-7*((y%19+11*Jd y+22*NI y) / 451)+114
theorem aD2 {y:Int}:0<=y%19/\y%19<=18:=by omega
theorem aD3 {y:Int}(bt:1970<=y/\y<=2199):19<=y / 100/\y / 100<=21:=by omega
theorem aD4 {y:Int}:0<=y%100/\y%100<=99:=by omega
theorem aD5 {J:Int}(AY:19<=J/\J<=21):1<=(J+8) / 25/\(J+8) / 25<=1:=by omega
theorem aD6 {J q:Int}(AY:19<=J/\J<=21)(NJ:1<=q/\q<=1):6<=(J-q+1) / 3/\(J-q+1) / 3<=7:=by omega
theorem aD7 {J:Int}(AY:19<=J/\J<=21):4<=J / 4/\J / 4<=5:=by omega
theorem aD8 {x:Int}:0<=x%30/\x%30<=29:=by omega
theorem aD9 {x:Int}:0<=x%4/\x%4<=3:=by omega
theorem aEa {z:Int}(ey:0<=z/\z<=99):0<=z / 4/\z / 4<=24:=by omega
theorem aEb {x:Int}:0<=x%4/\x%4<=3:=by omega
theorem aEc {x:Int}:0<=x%7/\x%7<=6:=by omega
theorem aEd {g fJ le:Int}(NK:0<=g/\g<=18)(FO:0<=fJ/\fJ<=29)(FP:0<=le/\le<=6):0<=(g+11*fJ+22*le) / 451/\(g+11*fJ+22*le) / 451<=1:=by omega
theorem aEe {fJ le ex:Int}(FO:0<=fJ/\fJ<=29)(FP:0<=le/\le<=6)(NL:0<=ex/\ex<=1):3<=(fJ+le-7*ex+114) / 31/\(fJ+le-7*ex+114) / 31<=4:=by omega
theorem aEf {x:Int}:0<=x%31/\x%31<=30:=by omega
theorem aEg {y g J z q qS c4 fJ nV fc vw le ex a b:Int}(BS:1970<=y/\y<=2199)(NK:0<=g/\g<=18)(AY:19<=J/\J<=21)(ey:0<=z/\z<=99)(NJ:1<=q/\q<=1)(ahW:6<=qS/\qS<=7)(ahX:4<=c4/\c4<=5)(FO:0<=fJ/\fJ<=29)(ahY:0<=nV/\nV<=3)(ahZ:0<=fc/\fc<=24)(aia:0<=vw/\vw<=3)(FP:0<=le/\le<=6)(NL:0<=ex/\ex<=1)(aib:3<=a/\a<=4)(vH:0<=b/\b<=30):
 (IntKind.i64.wrap (J)=J/\IntKind.i64.wrap (J+8)=J+8/\IntKind.i64.wrap (q)=q/\IntKind.i64.wrap (J-q)=J-q/\IntKind.i64.wrap (J-q+1)=J-q+1/\IntKind.i64.wrap (qS)=qS/\IntKind.i64.wrap (19*g)=19*g/\IntKind.i64.wrap (19*g+J)=19*g+J/\IntKind.i64.wrap (c4)=c4/\IntKind.i64.wrap (19*g+J-c4)=19*g+J-c4/\IntKind.i64.wrap (19*g+J-c4-qS)=19*g+J-c4-qS/\IntKind.i64.wrap (19*g+J-c4-qS+15)=19*g+J-c4-qS+15/\IntKind.i64.wrap (2*nV)=2*nV/\IntKind.i64.wrap (32+2*nV)=32+2*nV/\IntKind.i64.wrap (fc)=fc/\IntKind.i64.wrap (2*fc)=2*fc/\IntKind.i64.wrap (32+2*nV+2*fc)=32+2*nV+2*fc/\IntKind.i64.wrap (32+2*nV+2*fc-fJ)=32+2*nV+2*fc-fJ/\IntKind.i64.wrap (32+2*nV+2*fc-fJ-vw)=32+2*nV+2*fc-fJ-vw/\IntKind.i64.wrap (11*fJ)=11*fJ/\IntKind.i64.wrap (g+11*fJ)=g+11*fJ/\IntKind.i64.wrap (22*le)=22*le/\IntKind.i64.wrap (g+11*fJ+22*le)=g+11*fJ+22*le/\IntKind.i64.wrap (ex)=ex/\IntKind.i64.wrap (fJ+le)=fJ+le/\IntKind.i64.wrap (7*ex)=7*ex/\IntKind.i64.wrap (fJ+le-7*ex)=fJ+le-7*ex/\IntKind.i64.wrap (fJ+le-7*ex+114)=fJ+le-7*ex+114/\IntKind.i64.wrap (a)=a/\IntKind.i64.wrap (b+1)=b+1)/\(0<=y/\0<=y/\0<=y/\0<=J+8/\0<=J-q+1/\0<=J/\0<=19*g+J-c4-qS+15/\0<=J/\0<=z/\0<=z/\0<=32+2*nV+2*fc-fJ-vw/\0<=g+11*fJ+22*le/\0<=fJ+le-7*ex+114/\0<=fJ+le-7*ex+114):=by
 refine⟨⟨bl,bl,bl,bl,bl,bl,bl,bl,bl,bl,bl,bl,bl,bl,bl,bl,bl,bl,bl,bl,bl,bl,bl,bl,bl,bl,bl,bl,bl,bl⟩,by omega,by omega,by omega,by omega,by omega,by omega,by omega,by omega,by omega,by omega,by omega,by omega,by omega,by omega⟩
theorem aEh (y:Int)(bt:qd y):aO prog 370 [.int .i64 y] [] (λv rs=>v= .bo [.int .i64 (nU y (uj y / 31) (uj y%31+1)).1,.bool (nU y (uj y / 31) (uj y%31+1)).2]/\rs=[]):=by
 refine hJ func370 ags (by simp[Nh,T0]) ?_;unfold qd at bt;obtain⟨g,aw⟩:∃M:Int,M=y%19:=⟨_,rfl⟩;have NK:0<=g/\g<=18:=by rw[aw];exact aD2
 obtain⟨J,ad⟩:∃M:Int,M=y / 100:=⟨_,rfl⟩;have AY:19<=J/\J<=21:=by rw[ad];exact aD3 bt
 obtain⟨z,N⟩:∃M:Int,M=y%100:=⟨_,rfl⟩;have ey:0<=z/\z<=99:=by rw[N];exact aD4
 obtain⟨q,aV⟩:∃M:Int,M=(J+8) / 25:=⟨_,rfl⟩;have NJ:1<=q/\q<=1:=by rw[aV];exact aD5 AY
 obtain⟨qS,vk⟩:∃M:Int,M=(J-q+1) / 3:=⟨_,rfl⟩;have ahW:6<=qS/\qS<=7:=by rw[vk];exact aD6 AY NJ
 obtain⟨c4,T1⟩:∃M:Int,M=J / 4:=⟨_,rfl⟩;have ahX:4<=c4/\c4<=5:=by rw[T1];exact aD7 AY
 obtain⟨fJ,T2⟩:∃M:Int,M=(19*g+J-c4-qS+15)%30:=⟨_,rfl⟩;have FO:0<=fJ/\fJ<=29:=by rw[T2];exact aD8
 obtain⟨nV,EB⟩:∃M:Int,M=J%4:=⟨_,rfl⟩;have ahY:0<=nV/\nV<=3:=by rw[EB];exact aD9
 obtain⟨fc,L3⟩:∃M:Int,M=z / 4:=⟨_,rfl⟩;have ahZ:0<=fc/\fc<=24:=by rw[L3];exact aEa ey
 obtain⟨vw,JS⟩:∃M:Int,M=z%4:=⟨_,rfl⟩;have aia:0<=vw/\vw<=3:=by rw[JS];exact aEb
 obtain⟨le,eA⟩:∃M:Int,M=(32+2*nV+2*fc-fJ-vw)%7:=⟨_,rfl⟩;have FP:0<=le/\le<=6:=by rw[eA];exact aEc
 obtain⟨ex,MO⟩:∃M:Int,M=(g+11*fJ+22*le) / 451:=⟨_,rfl⟩;have NL:0<=ex/\ex<=1:=by rw[MO];exact aEd NK FO FP
 obtain⟨a,aC⟩:∃M:Int,M=(fJ+le-7*ex+114) / 31:=⟨_,rfl⟩;have aib:3<=a/\a<=4:=by rw[aC];exact aEe FO FP NL
 obtain⟨b,af⟩:∃M:Int,M=(fJ+le-7*ex+114)%31:=⟨_,rfl⟩;have vH:0<=b/\b<=30:=by rw[af];exact aEf
 obtain⟨⟨je,jG,jH,pI,nB,aEi,aEj,aEk,aEl,aEm,aEn,aEo,aEp,aEq,aEr,aEs,aEt,aEu,aEv,aEw,aEx,aEy,aEz,aEA,aEB,aEC,aED,aEE,aEF,aEG⟩,bb,aMq,eo,T3,aEH,aEI,n6,n7,aEJ,aEK,aEL,aEM,aEN,aEO⟩:=aEg (y:=y) bt NK AY ey NJ ahW ahX FO ahY ahZ aia FP NL aib vH;have AZ: (y).tmod 19=g:=by rw[aMC bb,aw]
 have es: (y).tdiv 100=J:=by rw[aMn aMq,ad]
 have ig: (y).tmod 100=z:=by rw[aMC eo,N]
 have f3: (J+8).tdiv 25=q:=by rw[aMn T3,aV]
 have f4: (J-q+1).tdiv 3=qS:=by rw[aMn aEH,vk]
 have f5: (J).tdiv 4=c4:=by rw[aMn aEI,T1]
 have f6: (19*g+J-c4-qS+15).tmod 30=fJ:=by rw[aMC n6,T2]
 have f7: (J).tmod 4=nV:=by rw[aMC n7,EB]
 have f8: (z).tdiv 4=fc:=by rw[aMn aEJ,L3]
 have f9: (z).tmod 4=vw:=by rw[aMC aEK,JS]
 have f10: (32+2*nV+2*fc-fJ-vw).tmod 7=le:=by rw[aMC aEL,eA]
 have f11: (g+11*fJ+22*le).tdiv 451=ex:=by rw[aMn aEM,MO]
 have f12: (fJ+le-7*ex+114).tdiv 31=a:=by rw[aMn aEN,aC]
 have f13: (fJ+le-7*ex+114).tmod 31=b:=by rw[aMC aEO,af]
 have aic:Jd y=fJ:=by rw[Jd,<-aw,<-ad,<-aV,<-vk,<-T1,<-T2]
 have aEP:NI y=le:=by rw[NI,aic,<-ad,<-N,<-EB,<-L3,<-JS,<-eA]
 have aEQ:uj y=fJ+le-7*ex+114:=by rw[uj,aic,aEP,<-aw,<-MO]
 rw[aEQ,<-aC,<-af];have aLA:decide (y<1970)=false:=aLh (λh=>by have:=bt.1;exact absurd h (Int.not_lt.2 this));have ky:decide (2199<y)=false:=aLh (λh=>by have:=bt.2;exact absurd h (Int.not_lt.2 this));simp only[go_sem,Nh,T0,aLA,ky]
 repeat (refine i ?_;simp only[go_sem,aLA,ky])
 refine⟨by decide,by decide,by decide,?_⟩;rw[AZ,es,ig,je]
 (refine i ?_;simp only[go_sem,jG,jH,pI,nB,aEi,f3,f4])
 refine⟨by decide,by decide,?_⟩
 (refine i ?_;simp only[go_sem,aEj,aEk,aEl,aEm,aEn,aEo,f5,f6])
 refine⟨by decide,by decide,?_⟩
 (refine i ?_;simp only[go_sem,aEp,aEq,aEr,aEs,aEt,aEu,aEv,f7,f8,f9,f10])
 refine⟨by decide,by decide,by decide,by decide,?_⟩
 (refine i ?_;simp only[go_sem,aEw,aEx,aEy,aEz,aEA,f11])
 refine⟨by decide,?_⟩
 (refine i ?_;simp only[go_sem,aEB,aEC,aED,aEE])
 (refine i ?_;simp only[go_sem,aEF,aEG,f12,f13])
 refine⟨by decide,by decide,?_⟩;refine bM (ahU y a (b+1)) rfl rfl ?_;simp only[go_sem]
 repeat (refine i ?_;simp only[go_sem])
 exact aKG rfl ⟨rfl,rfl⟩
def wW (y:Int):Int×Bool:=nU y (uj y / 31) (uj y%31+1)
def aid (y:Int):Bool:=(wW y).2&&ahV (wW y).1==6&&decide ((nU y 3 22).1<=(wW y).1)&&decide ((wW y).1<=(nU y 4 25).1)
theorem aES: (List.range 230).all (λk=>aid (1970+k))=true:=by kernel_rfl
theorem aie {y:Int}(h0:1970<=y)(d:y<=2199): (wW y).2=true/\ahV (wW y).1=6/\(nU y 3 22).1<=(wW y).1/\(wW y).1<=(nU y 4 25).1:=by
 have h:=aLW.1 aES (y-1970).toNat (aMj.2 (by omega));rw[show (1970:Int)+((y-1970).toNat:Nat)=y from by omega] at h;simpa[aid,aKR] using h
open Go.RowKit (Below)
structure cX where
 cB:Int
 rK:Int
 ah:Int
 A1:Int
 offset:Int
 Jf:Bool
def cX.cells (p:cX):List F:=[.int .i64 p.cB,.int .i64 p.rK,.int .i64 p.ah,.int .i64 p.A1,.int .i64 p.offset,.bool p.Jf]
instance:aJ cX:=⟨cX.cells,6,λ_=>rfl,λ_=>rfl,λ_=>rfl⟩
theorem T4 (p:cX):aJ.J p=[.int .i64 p.cB,.int .i64 p.rK,.int .i64 p.ah,.int .i64 p.A1,.int .i64 p.offset,.bool p.Jf]:=rfl
theorem aEX (B:Int)(b:Bool)(w:World)(h:js w 0 .i64 eM):Calls prog 257 #[.agg #[.int .i64 0,.int .i64 1,.int .i64 B,.int .i64 0,.int .i64 0,.bool b]] w λe w'=>e= .returned (.bool (decide (1<=B/\B<=31)))/\(Below w.heap.size w w'/\w.drawn<=w'.drawn):=by
 have ad:=kW h (c:=0) rfl;have aI:0<w.heap.size:=by obtain⟨_,_,h⟩:=h;exact (aLp.1 h).1
 clear h
 go_enter func257,ntmps257
 go_wp2
 ·rename_i ay
  go_ret
  exact⟨by simp[ay],⟨rfl,rfl,rfl,by simp,λb af=>heap_alloc_old w _ af⟩,aKM _⟩
 ·rename_i ay
  go_ret
  exact⟨by simp[show ¬(1<=B) from by omega],⟨rfl,rfl,rfl,by simp,λb af=>heap_alloc_old w _ af⟩,aKM _⟩
theorem aEY (B:Int)(b:Bool)(w:World)(h:js w 0 .i64 eM):Calls prog 257 #[.agg #[.int .i64 0,.int .i64 2,.int .i64 B,.int .i64 0,.int .i64 0,.bool b]] w λe w'=>e= .returned (.bool (decide (1<=B/\B<=29)))/\(Below w.heap.size w w'/\w.drawn<=w'.drawn):=by
 have ad:=kW h (c:=1) rfl;have aI:0<w.heap.size:=by obtain⟨_,_,h⟩:=h;exact (aLp.1 h).1
 clear h
 go_enter func257,ntmps257
 go_wp2
 ·rename_i ay
  go_ret
  exact⟨by simp[ay],⟨rfl,rfl,rfl,by simp,λb af=>heap_alloc_old w _ af⟩,aKM _⟩
 ·rename_i ay
  go_ret
  exact⟨by simp[show ¬(1<=B) from by omega],⟨rfl,rfl,rfl,by simp,λb af=>heap_alloc_old w _ af⟩,aKM _⟩
theorem aEZ (B:Int)(b:Bool)(w:World)(h:js w 0 .i64 eM):Calls prog 257 #[.agg #[.int .i64 0,.int .i64 3,.int .i64 B,.int .i64 0,.int .i64 0,.bool b]] w λe w'=>e= .returned (.bool (decide (1<=B/\B<=31)))/\(Below w.heap.size w w'/\w.drawn<=w'.drawn):=by
 have ad:=kW h (c:=2) rfl;have aI:0<w.heap.size:=by obtain⟨_,_,h⟩:=h;exact (aLp.1 h).1
 clear h
 go_enter func257,ntmps257
 go_wp2
 ·rename_i ay
  go_ret
  exact⟨by simp[ay],⟨rfl,rfl,rfl,by simp,λb af=>heap_alloc_old w _ af⟩,aKM _⟩
 ·rename_i ay
  go_ret
  exact⟨by simp[show ¬(1<=B) from by omega],⟨rfl,rfl,rfl,by simp,λb af=>heap_alloc_old w _ af⟩,aKM _⟩
theorem aE0 (B:Int)(b:Bool)(w:World)(h:js w 0 .i64 eM):Calls prog 257 #[.agg #[.int .i64 0,.int .i64 4,.int .i64 B,.int .i64 0,.int .i64 0,.bool b]] w λe w'=>e= .returned (.bool (decide (1<=B/\B<=30)))/\(Below w.heap.size w w'/\w.drawn<=w'.drawn):=by
 have ad:=kW h (c:=3) rfl;have aI:0<w.heap.size:=by obtain⟨_,_,h⟩:=h;exact (aLp.1 h).1
 clear h
 go_enter func257,ntmps257
 go_wp2
 ·rename_i ay
  go_ret
  exact⟨by simp[ay],⟨rfl,rfl,rfl,by simp,λb af=>heap_alloc_old w _ af⟩,aKM _⟩
 ·rename_i ay
  go_ret
  exact⟨by simp[show ¬(1<=B) from by omega],⟨rfl,rfl,rfl,by simp,λb af=>heap_alloc_old w _ af⟩,aKM _⟩
theorem aE1 (B:Int)(b:Bool)(w:World)(h:js w 0 .i64 eM):Calls prog 257 #[.agg #[.int .i64 0,.int .i64 5,.int .i64 B,.int .i64 0,.int .i64 0,.bool b]] w λe w'=>e= .returned (.bool (decide (1<=B/\B<=31)))/\(Below w.heap.size w w'/\w.drawn<=w'.drawn):=by
 have ad:=kW h (c:=4) rfl;have aI:0<w.heap.size:=by obtain⟨_,_,h⟩:=h;exact (aLp.1 h).1
 clear h
 go_enter func257,ntmps257
 go_wp2
 ·rename_i ay
  go_ret
  exact⟨by simp[ay],⟨rfl,rfl,rfl,by simp,λb af=>heap_alloc_old w _ af⟩,aKM _⟩
 ·rename_i ay
  go_ret
  exact⟨by simp[show ¬(1<=B) from by omega],⟨rfl,rfl,rfl,by simp,λb af=>heap_alloc_old w _ af⟩,aKM _⟩
theorem aE2 (B:Int)(b:Bool)(w:World)(h:js w 0 .i64 eM):Calls prog 257 #[.agg #[.int .i64 0,.int .i64 6,.int .i64 B,.int .i64 0,.int .i64 0,.bool b]] w λe w'=>e= .returned (.bool (decide (1<=B/\B<=30)))/\(Below w.heap.size w w'/\w.drawn<=w'.drawn):=by
 have ad:=kW h (c:=5) rfl;have aI:0<w.heap.size:=by obtain⟨_,_,h⟩:=h;exact (aLp.1 h).1
 clear h
 go_enter func257,ntmps257
 go_wp2
 ·rename_i ay
  go_ret
  exact⟨by simp[ay],⟨rfl,rfl,rfl,by simp,λb af=>heap_alloc_old w _ af⟩,aKM _⟩
 ·rename_i ay
  go_ret
  exact⟨by simp[show ¬(1<=B) from by omega],⟨rfl,rfl,rfl,by simp,λb af=>heap_alloc_old w _ af⟩,aKM _⟩
theorem aE3 (B:Int)(b:Bool)(w:World)(h:js w 0 .i64 eM):Calls prog 257 #[.agg #[.int .i64 0,.int .i64 7,.int .i64 B,.int .i64 0,.int .i64 0,.bool b]] w λe w'=>e= .returned (.bool (decide (1<=B/\B<=31)))/\(Below w.heap.size w w'/\w.drawn<=w'.drawn):=by
 have ad:=kW h (c:=6) rfl;have aI:0<w.heap.size:=by obtain⟨_,_,h⟩:=h;exact (aLp.1 h).1
 clear h
 go_enter func257,ntmps257
 go_wp2
 ·rename_i ay
  go_ret
  exact⟨by simp[ay],⟨rfl,rfl,rfl,by simp,λb af=>heap_alloc_old w _ af⟩,aKM _⟩
 ·rename_i ay
  go_ret
  exact⟨by simp[show ¬(1<=B) from by omega],⟨rfl,rfl,rfl,by simp,λb af=>heap_alloc_old w _ af⟩,aKM _⟩
theorem aE4 (B:Int)(b:Bool)(w:World)(h:js w 0 .i64 eM):Calls prog 257 #[.agg #[.int .i64 0,.int .i64 8,.int .i64 B,.int .i64 0,.int .i64 0,.bool b]] w λe w'=>e= .returned (.bool (decide (1<=B/\B<=31)))/\(Below w.heap.size w w'/\w.drawn<=w'.drawn):=by
 have ad:=kW h (c:=7) rfl;have aI:0<w.heap.size:=by obtain⟨_,_,h⟩:=h;exact (aLp.1 h).1
 clear h
 go_enter func257,ntmps257
 go_wp2
 ·rename_i ay
  go_ret
  exact⟨by simp[ay],⟨rfl,rfl,rfl,by simp,λb af=>heap_alloc_old w _ af⟩,aKM _⟩
 ·rename_i ay
  go_ret
  exact⟨by simp[show ¬(1<=B) from by omega],⟨rfl,rfl,rfl,by simp,λb af=>heap_alloc_old w _ af⟩,aKM _⟩
theorem aE5 (B:Int)(b:Bool)(w:World)(h:js w 0 .i64 eM):Calls prog 257 #[.agg #[.int .i64 0,.int .i64 9,.int .i64 B,.int .i64 0,.int .i64 0,.bool b]] w λe w'=>e= .returned (.bool (decide (1<=B/\B<=30)))/\(Below w.heap.size w w'/\w.drawn<=w'.drawn):=by
 have ad:=kW h (c:=8) rfl;have aI:0<w.heap.size:=by obtain⟨_,_,h⟩:=h;exact (aLp.1 h).1
 clear h
 go_enter func257,ntmps257
 go_wp2
 ·rename_i ay
  go_ret
  exact⟨by simp[ay],⟨rfl,rfl,rfl,by simp,λb af=>heap_alloc_old w _ af⟩,aKM _⟩
 ·rename_i ay
  go_ret
  exact⟨by simp[show ¬(1<=B) from by omega],⟨rfl,rfl,rfl,by simp,λb af=>heap_alloc_old w _ af⟩,aKM _⟩
theorem aE6 (B:Int)(b:Bool)(w:World)(h:js w 0 .i64 eM):Calls prog 257 #[.agg #[.int .i64 0,.int .i64 10,.int .i64 B,.int .i64 0,.int .i64 0,.bool b]] w λe w'=>e= .returned (.bool (decide (1<=B/\B<=31)))/\(Below w.heap.size w w'/\w.drawn<=w'.drawn):=by
 have ad:=kW h (c:=9) rfl;have aI:0<w.heap.size:=by obtain⟨_,_,h⟩:=h;exact (aLp.1 h).1
 clear h
 go_enter func257,ntmps257
 go_wp2
 ·rename_i ay
  go_ret
  exact⟨by simp[ay],⟨rfl,rfl,rfl,by simp,λb af=>heap_alloc_old w _ af⟩,aKM _⟩
 ·rename_i ay
  go_ret
  exact⟨by simp[show ¬(1<=B) from by omega],⟨rfl,rfl,rfl,by simp,λb af=>heap_alloc_old w _ af⟩,aKM _⟩
theorem aE7 (B:Int)(b:Bool)(w:World)(h:js w 0 .i64 eM):Calls prog 257 #[.agg #[.int .i64 0,.int .i64 11,.int .i64 B,.int .i64 0,.int .i64 0,.bool b]] w λe w'=>e= .returned (.bool (decide (1<=B/\B<=30)))/\(Below w.heap.size w w'/\w.drawn<=w'.drawn):=by
 have ad:=kW h (c:=10) rfl;have aI:0<w.heap.size:=by obtain⟨_,_,h⟩:=h;exact (aLp.1 h).1
 clear h
 go_enter func257,ntmps257
 go_wp2
 ·rename_i ay
  go_ret
  exact⟨by simp[ay],⟨rfl,rfl,rfl,by simp,λb af=>heap_alloc_old w _ af⟩,aKM _⟩
 ·rename_i ay
  go_ret
  exact⟨by simp[show ¬(1<=B) from by omega],⟨rfl,rfl,rfl,by simp,λb af=>heap_alloc_old w _ af⟩,aKM _⟩
theorem aE8 (B:Int)(b:Bool)(w:World)(h:js w 0 .i64 eM):Calls prog 257 #[.agg #[.int .i64 0,.int .i64 12,.int .i64 B,.int .i64 0,.int .i64 0,.bool b]] w λe w'=>e= .returned (.bool (decide (1<=B/\B<=31)))/\(Below w.heap.size w w'/\w.drawn<=w'.drawn):=by
 have ad:=kW h (c:=11) rfl;have aI:0<w.heap.size:=by obtain⟨_,_,h⟩:=h;exact (aLp.1 h).1
 clear h
 go_enter func257,ntmps257
 go_wp2
 ·rename_i ay
  go_ret
  exact⟨by simp[ay],⟨rfl,rfl,rfl,by simp,λb af=>heap_alloc_old w _ af⟩,aKM _⟩
 ·rename_i ay
  go_ret
  exact⟨by simp[show ¬(1<=B) from by omega],⟨rfl,rfl,rfl,by simp,λb af=>heap_alloc_old w _ af⟩,aKM _⟩
def pq (m:Int):Int:=if m=2 then 29 else eM.getD (m-1).toNat 0
def AW (h:cX):Bool:=
 if h.cB=0 then decide (1<=h.rK/\h.rK<=12/\h.A1=0/\h.offset=0/\1<=h.ah/\h.ah<=pq h.rK)
 else if h.cB=1 then decide (-100<=h.offset/\h.offset<=100/\h.rK=0/\h.ah=0/\h.A1=0)
 else if h.cB=2 then decide (1<=h.rK/\h.rK<=12/\(h.ah= -1\/1<=h.ah/\h.ah<=5)/\0<=h.A1/\h.A1<=6/\ -7<=h.offset/\h.offset<=7)
 else false
theorem aEW (m B:Int)(b:Bool)(d:1<=m)(G:m<=12):aO prog 257 [.agg [.int .i64 0,.int .i64 m,.int .i64 B,.int .i64 0,.int .i64 0,.bool b]] [] (λv rs=>v= .bool (decide (1<=B/\B<=pq m))/\rs=[]):=by
 refine aO.D2 ?_;rintro C dA N aA ⟨_,_,ht⟩ dv;simp only[aE,Rep] at dv;obtain⟨aMp,aKO,rfl,⟨vs,rfl,an⟩,rfl⟩:=dv;obtain⟨a0,q0,g0,rfl,cH,aKY,aKH,rfl,ff,eQ,bR,rfl,a3,eF,dq,rfl,a4,iR,gP,rfl,a5,pW,uN,rfl,rfl⟩:=an;have kU:vs= #[.int .i64 0,.int .i64 m,.int .i64 B,.int .i64 0,.int .i64 0,.bool b]:=by
  cases vs;simp_all
 subst kU;have key:∀{M:Int},pq m=M->(Calls prog 257 #[.agg #[.int .i64 0,.int .i64 m,.int .i64 B,.int .i64 0,.int .i64 0,.bool b]] C.w λe w'=>e= .returned (.bool (decide (1<=B/\B<=M)))/\(Below C.w.heap.size C.w w'/\C.w.drawn<=w'.drawn))->
  Calls prog 257 #[.agg #[.int .i64 0,.int .i64 m,.int .i64 B,.int .i64 0,.int .i64 0,.bool b]] C.w λe w'=> ∃aZ v,e= .returned aZ/\(Below C.w.heap.size C.w w'/\C.w.drawn<=w'.drawn)/\(∀aB:bD,jB C aB->Rep aB v aZ)/\v= .bool (decide (1<=B/\B<=pq m))/\ []=([]:List Z):=by
  intro M ba h;refine h.mono ?_;rintro e w' ⟨rfl,af⟩;exact⟨_,.bool (decide (1<=B/\B<=M)),rfl,af,λaB _=>by rw[Rep],by rw[ba],rfl⟩
 obtain rfl|rfl|rfl|rfl|rfl|rfl|rfl|rfl|rfl|rfl|rfl|rfl:m=1\/m=2\/m=3\/m=4\/m=5\/m=6\/m=7\/m=8\/m=9\/m=10\/m=11\/m=12:=by omega
 ·exact key (by simp[pq,eM]) (aEX B b C.w ht)
 ·exact key (by simp[pq,eM]) (aEY B b C.w ht)
 ·exact key (by simp[pq,eM]) (aEZ B b C.w ht)
 ·exact key (by simp[pq,eM]) (aE0 B b C.w ht)
 ·exact key (by simp[pq,eM]) (aE1 B b C.w ht)
 ·exact key (by simp[pq,eM]) (aE2 B b C.w ht)
 ·exact key (by simp[pq,eM]) (aE3 B b C.w ht)
 ·exact key (by simp[pq,eM]) (aE4 B b C.w ht)
 ·exact key (by simp[pq,eM]) (aE5 B b C.w ht)
 ·exact key (by simp[pq,eM]) (aE6 B b C.w ht)
 ·exact key (by simp[pq,eM]) (aE7 B b C.w ht)
 ·exact key (by simp[pq,eM]) (aE8 B b C.w ht)
theorem aih (k m B ic V:Int)(b:Bool):AW ⟨k,m,B,ic,V,b⟩=true↔(k=0/\1<=m/\m<=12/\ic=0/\V=0/\1<=B/\B<=pq m)\/(k=1/\ -100<=V/\V<=100/\m=0/\B=0/\ic=0)\/
 (k=2/\1<=m/\m<=12/\(B= -1\/1<=B/\B<=5)/\0<=ic/\ic<=6/\ -7<=V/\V<=7):=by
 unfold AW;simp only;split
 ·subst_vars;simp
 ·split
  ·subst_vars;simp
  ·split
   ·subst_vars;simp
   ·simp_all
theorem aET (h:cX):aO prog 257 [.agg (aJ.J h)] [] (λv rs=>v= .bool (AW h)/\rs=[]):=by
 obtain⟨k,m,B,ic,V,b⟩:=h;rw[T4]
 by_cases h0:k=0/\1<=m/\m<=12/\ic=0/\V=0
 ·obtain⟨rfl,d,G,rfl,rfl⟩:=h0;refine (aEW m B b d G).mono ?_;rintro _ _ ⟨rfl,rfl⟩;simp[AW,d,G]
 ·refine cu func257 afG (by simp[Nc,T5]) ?_;simp only[go_sem,Nc,T5]
  repeat' ((first|refine gv ?_ ?_|refine gw ?_ ?_|refine cf ?_ ?_|refine dj ?_ ?_)<;>intro aw<;>(have ak:=aw;try simp only[bC] at ak)<;>(first|omega| (simp only[go_sem,aw,];clear aw)))
  all_goals first
   | (exfalso;simp only[bC] at *;omega)
   | (refine aKG rfl ⟨aKI F.bool ?_,rfl⟩;rw[aL0,aih];simp only[bC,aLK,aMI,aN1,aOv,aOw,aMi,aMh] at *;omega)
def oD (l:List cX):Bool:=l.all AW
def ng (l:List cX):Int:=if 1024<l.length then 3 else if oD l=true then 0 else 1
theorem ahQ (l:List cX)(hl:l.length<=9223372036854775806):aO prog 198 [.pure 6 (ai l)] [] (λv rs=>v= .int .i64 (ng l)/\rs=[]):=by
 refine cu func198 aeQ (by simp[yD,A0]) ?_;simp only[go_sem,yD,A0];refine cf ?_ ?_<;>intro dI<;>simp only[bC] at dI<;>simp only[go_sem,yD,A0]
 ·exact aKG rfl ⟨by rw[ng,Rc (by omega)],rfl⟩
 have pM:ng l=if oD l=true then 0 else 1:=by rw[ng,S (by omega)]
 refine dN (λD r=> ∃(c:Nat),c<=l.length/\oD l=oD (l.drop c)/\D=[(8,.pure 6 (ai l)),(9,.int .i64 l.length),(10,.int .i64 c)]/\r=[])
  (λD _=>match bs D 10 with| .int _ j=>(l.length-j).toNat|_=>0) ?_ ?_
 ·exact i ⟨0,by omega,by simp,rfl,rfl⟩
 ·rintro D r ⟨c,av,af,rfl,rfl⟩;simp only[go_sem,yD,A0];refine cf ?_ ?_<;>intro ct<;>simp only[bC] at ct<;>simp only[go_sem,yD,A0]
  ·have aI:c<l.length:=by omega
   refine⟨by omega,by omega,?_⟩
   try simp only[aKX]
   rw[cT aI];rw[aL4 aI,oD,oD,aMN] at af;generalize l[c]=p at af ⊢;have aP:=dB (c:=c) (by omega);simp only[go_sem,yD,A0,T4];refine bM (aET p) rfl rfl ?_;simp only[go_sem];refine cf ?_ ?_<;>intro pd<;>simp only[bC] at pd<;>simp only[go_sem,yD,A0,aP]
   ·exact aKG rfl ⟨by rw[pM,S (by rw[oD,af,pd];simp)],rfl⟩
   ·(refine E.bB [] ?_;simp only[go_sem])
    refine i ⟨⟨c+1,by omega,?_,rfl,rfl⟩,?_⟩
    ·rw[oD,af,pd,aLw,oD]
    ·simp only[go_sem];omega
  ·have yF:c=l.length:=by omega
   rw[yF,aLF] at af;exact aKG rfl ⟨by rw[pM,af];rfl,rfl⟩
theorem Je {y m B:Int}(bt:qd y)(d:1<=m)(G:m<=12)(au:0<=B)(bv:B<=100): -2000<=mF y m B/\mF y m B<=201000:=by
 have a:=TZ (y:=y) (by have:=bt.1;omega) (by have:=bt.2;omega);have b:=NH y (m-1).toNat (by omega);unfold mF;omega
theorem NM (B:Int):0<=mG B/\mG B<=6:=by unfold mG;omega
def C4 (y m w:Int):Int:=(w-mG (mF y m 1)+7)%7
def wX (y m w n:Int):Int:=if n= -1 then C4 y m w+(hZ y m-1-C4 y m w) / 7*7 else C4 y m w+7*(n-1)
theorem aEU (y m w n:Int)(bt:qd y)(d:1<=m)(G:m<=12)(au:0<=w)(bv:w<=6)(cx:n= -1\/1<=n/\n<=5):aO prog 371 [.int .i64 y,.int .i64 m,.int .i64 w,.int .i64 n] []
 (λv rs=>v=(if wX y m w n<hZ y m then .bo [.int .i64 (mF y m 1+wX y m w n),.bool true] else .bo [.int .i64 0,.bool false])/\rs=[]):=by
 refine cu func371 agt (by simp[CS,FQ]) ?_;obtain⟨lu,tU⟩:=bt;have hF:=Je (y:=y) ⟨lu,tU⟩ d G (B:=1) (by omega) (by omega);have hL:=yJ (y:=y) d G;have hW:=NM (mF y m 1);simp only[go_sem,CS,FQ];refine bM (ahT y m 1 (by omega) (by omega) (by omega) (by omega) (by omega) (by omega)) rfl rfl ?_;simp only[go_sem];refine bM (ES y m (by omega) (by omega) (by omega)) rfl rfl ?_;simp only[go_sem];refine bM (NG (mF y m 1) (by omega) (by omega)) rfl rfl ?_;unfold wX C4;generalize mG (mF y m 1)=W at hW ⊢;generalize mF y m 1=bm at hF ⊢;generalize hZ y m=aY at hL ⊢;simp only[go_sem];rw[bl (x:=w-W),bl (x:=w-W+7),aMC (a:=w-W+7) (by omega)];have av:0<=(w-W+7)%7/\(w-W+7)%7<=6:=by omega
 generalize (w-W+7)%7=hI at av ⊢;refine⟨by decide,?_⟩;refine cf ?_ ?_<;>intro dI<;>simp only[bC] at dI<;>simp only[go_sem,CS,FQ]
 ·rw[Rc dI];rw[bl (x:=aY-1),bl (x:=aY-1-hI),aMn (by omega),bl (x:=(aY-1-hI) / 7),bl (x:=(aY-1-hI) / 7*7),bl (x:=hI+(aY-1-hI) / 7*7)];refine⟨by decide,?_⟩;refine cf ?_ ?_<;>intro ct<;>simp only[bC] at ct<;>simp only[go_sem,CS,FQ]
  ·exact aKG rfl ⟨by rw[S (by omega)],rfl⟩
  ·exact aKG rfl ⟨by rw[Rc (by omega),bl],rfl⟩
 ·rw[S dI];rw[bl (x:=n-1),bl (x:=7*(n-1)),bl (x:=hI+7*(n-1))];refine cf ?_ ?_<;>intro ct<;>simp only[bC] at ct<;>simp only[go_sem,CS,FQ]
  ·exact aKG rfl ⟨by rw[S (by omega)],rfl⟩
  ·exact aKG rfl ⟨by rw[Rc (by omega),bl],rfl⟩
def yL (y:Int):Int:=mF y (uj y / 31) (uj y%31+1)
theorem aif {y:Int}(bt:qd y):nU y (uj y / 31) (uj y%31+1)=(yL y,true):=by
 have h:=(aie (y:=y) bt.1 bt.2).1;unfold wW nU at h;unfold nU yL;split
 ·rfl
 ·rename_i aH;rw[S aH] at h;cases h
def uk (h:cX)(y:Int):Option Int:=
 if h.cB=0 then (if h.ah<=hZ y h.rK then some (mF y h.rK h.ah) else none)
 else if h.cB=1 then some (yL y+h.offset)
 else if wX y h.rK h.A1 h.ah<hZ y h.rK then some (mF y h.rK 1+wX y h.rK h.A1 h.ah+h.offset) else none
def yM (b:Bool)(B:Int):Int:=if b=true/\5<=mG B then B+(7-mG B) else B
def NN (h:cX)(y:Int):Option Int:=(uk h y).map (yM h.Jf)
def vu (h:cX)(y:Int):Option Int:=(NN h y).filter λB=>decide (ui B)
def yK:Option Int->F
 |some B=> .bo [.int .i64 B,.bool true]
 |none=> .bo [.int .i64 0,.bool false]
theorem FR (B:Int):yM false B=B:=by simp[yM]
theorem FT {B:Int}(h:5<=mG B):yM true B=B+(7-mG B):=by simp[yM,h]
theorem FU {B:Int}(h:mG B<5):yM true B=B:=by rw[yM,S (by omega)]
theorem yN {h:cX}{y aD X:Int}(cU:uk h y=some aD)(eZ:yM h.Jf aD=X)(bp:ui X):yK (vu h y)= .bo [.int .i64 X,.bool true]:=by
 rw[vu,NN,cU,aML,eZ,Option.filter_some,Rc (by simpa using bp),yK]
theorem yO {h:cX}{y aD X:Int}(cU:uk h y=some aD)(eZ:yM h.Jf aD=X)(bp:¬ui X):yK (vu h y)= .bo [.int .i64 0,.bool false]:=by
 rw[vu,NN,cU,aML,eZ,Option.filter_some,S (by simpa using bp),yK]
theorem aig {h:cX}{y:Int}(cU:uk h y=none):yK (vu h y)= .bo [.int .i64 0,.bool false]:=by
 rw[vu,NN,cU,aNG,Option.filter_none,yK]
theorem aEV {y:Int}(bt:qd y):mF y 3 22<=yL y/\yL y<=mF y 4 25:=by
 have h:=aie (y:=y) bt.1 bt.2;rw[wW,aif bt] at h;obtain⟨_,_,a,b⟩:=h;have sm:=yJ (y:=y) (m:=3) (by omega) (by omega);have ZF:=yJ (y:=y) (m:=4) (by omega) (by omega);rw[nU,Rc ⟨bt.1,bt.2,by omega,by omega,by omega,by omega⟩] at a;rw[nU,Rc ⟨bt.1,bt.2,by omega,by omega,by omega,by omega⟩] at b;exact⟨a,b⟩
theorem aDX (h:cX)(y:Int)(N:AW h=true)(bt:qd y):aO prog 368 [.agg (aJ.J h),.int .i64 y] [] (λv rs=>v=yK (vu h y)/\rs=[]):=by
 obtain⟨k,m,B,ic,V,b⟩:=h;rw[aih] at N;rw[T4];refine cu func368 agq (by simp[lD,lV]) ?_;obtain⟨lu,tU⟩:=bt;rcases N with ⟨rfl,d,G,rfl,rfl,au,bv⟩|⟨rfl,d,G,rfl,rfl,rfl⟩|⟨rfl,d,G,au,bv,cx,dx,oN⟩
 ·simp only[go_sem,lD,lV];have hl:=yJ (y:=y) d G;have fC:=ahU y m B
  by_cases ay:B<=hZ y m
  ·rw[nU,Rc ⟨lu,tU,d,G,au,ay⟩] at fC;refine bM fC rfl rfl ?_;have cU:uk ⟨0,m,B,0,0,b⟩ y=some (mF y m B+0):=by rw[uk,Rc rfl,Rc ay,aN8]
   have hF:=Je (y:=y) ⟨lu,tU⟩ d G (B:=B) (by omega) (by omega);generalize mF y m B=aD at cU hF ⊢;simp only[go_sem,lD,lV];rw[bl (x:=aD+0)];refine bM (NG (aD+0) (by omega) (by omega)) rfl rfl ?_;have wx:=NM (aD+0);cases b
   ·simp only[go_sem];refine bM (lQ (aD+0)) rfl rfl ?_;simp only[go_sem];refine cf ?_ ?_<;>intro aw<;>simp only[bC] at aw<;>simp only[go_sem,lD,lV]
    ·exact aKG rfl ⟨(yO cU (FR _) aw).symm,rfl⟩
    ·exact aKG rfl ⟨(yN cU (FR _) aw).symm,rfl⟩
   ·simp only[go_sem];refine cf ?_ ?_<;>intro nW<;>simp only[bC] at nW<;>simp only[go_sem,lD,lV]
    ·rw[bl (x:=7-mG (aD+0)),bl (x:=aD+0+(7-mG (aD+0)))];refine bM (lQ (aD+0+(7-mG (aD+0)))) rfl rfl ?_;simp only[go_sem];refine cf ?_ ?_<;>intro aw<;>simp only[bC] at aw<;>simp only[go_sem,lD,lV]
     ·exact aKG rfl ⟨(yO cU (FT nW) aw).symm,rfl⟩
     ·exact aKG rfl ⟨(yN cU (FT nW) aw).symm,rfl⟩
    ·refine bM (lQ (aD+0)) rfl rfl ?_;simp only[go_sem];refine cf ?_ ?_<;>intro aw<;>simp only[bC] at aw<;>simp only[go_sem,lD,lV]
     ·exact aKG rfl ⟨(yO cU (FU nW) aw).symm,rfl⟩
     ·exact aKG rfl ⟨(yN cU (FU nW) aw).symm,rfl⟩
  ·rw[nU,S (λh=>ay h.2.2.2.2.2)] at fC;refine bM fC rfl rfl ?_;simp only[go_sem,lD,lV];exact aKG rfl ⟨(aig (by rw[uk,Rc rfl,S ay])).symm,rfl⟩
 ·simp only[go_sem,lD,lV];have dp:=aEh y ⟨lu,tU⟩;rw[aif ⟨lu,tU⟩] at dp;refine bM dp rfl rfl ?_;have cU:uk ⟨1,0,0,0,V,b⟩ y=some (yL y+V):=by rw[uk,S (by simp),Rc rfl]
  have hF: -2000<=yL y/\yL y<=201000:=by
   have a:=aEV (y:=y) ⟨lu,tU⟩;have b:=Je (y:=y) (m:=3) (B:=22) ⟨lu,tU⟩ (by omega) (by omega) (by omega) (by omega);have J:=Je (y:=y) (m:=4) (B:=25) ⟨lu,tU⟩ (by omega) (by omega) (by omega) (by omega);omega
  generalize yL y=aD at cU hF ⊢;simp only[go_sem,lD,lV];rw[bl (x:=aD+V)];refine bM (NG (aD+V) (by omega) (by omega)) rfl rfl ?_;have wx:=NM (aD+V);cases b
  ·simp only[go_sem];refine bM (lQ (aD+V)) rfl rfl ?_;simp only[go_sem];refine cf ?_ ?_<;>intro aw<;>simp only[bC] at aw<;>simp only[go_sem,lD,lV]
   ·exact aKG rfl ⟨(yO cU (FR _) aw).symm,rfl⟩
   ·exact aKG rfl ⟨(yN cU (FR _) aw).symm,rfl⟩
  ·simp only[go_sem];refine cf ?_ ?_<;>intro nW<;>simp only[bC] at nW<;>simp only[go_sem,lD,lV]
   ·rw[bl (x:=7-mG (aD+V)),bl (x:=aD+V+(7-mG (aD+V)))];refine bM (lQ (aD+V+(7-mG (aD+V)))) rfl rfl ?_;simp only[go_sem];refine cf ?_ ?_<;>intro aw<;>simp only[bC] at aw<;>simp only[go_sem,lD,lV]
    ·exact aKG rfl ⟨(yO cU (FT nW) aw).symm,rfl⟩
    ·exact aKG rfl ⟨(yN cU (FT nW) aw).symm,rfl⟩
   ·refine bM (lQ (aD+V)) rfl rfl ?_;simp only[go_sem];refine cf ?_ ?_<;>intro aw<;>simp only[bC] at aw<;>simp only[go_sem,lD,lV]
    ·exact aKG rfl ⟨(yO cU (FU nW) aw).symm,rfl⟩
    ·exact aKG rfl ⟨(yN cU (FU nW) aw).symm,rfl⟩
 ·simp only[go_sem,lD,lV];have fS:=aEU y m ic B ⟨lu,tU⟩ d G bv cx au;have hl:=yJ (y:=y) d G
  by_cases ay:wX y m ic B<hZ y m
  ·rw[Rc ay] at fS;refine bM fS rfl rfl ?_;have cU:uk ⟨2,m,B,ic,V,b⟩ y=some (mF y m 1+wX y m ic B+V):=by rw[uk,S (by simp),S (by simp),Rc ay]
   have hF:=Je (y:=y) ⟨lu,tU⟩ d G (B:=1) (by omega) (by omega);have eZ:0<=wX y m ic B:=by
    have:0<=C4 y m ic/\C4 y m ic<=6:=by unfold C4;omega
    unfold wX;split<;>omega
   obtain⟨aD,fC⟩:∃aD,aD=mF y m 1+wX y m ic B:=⟨_,rfl⟩;rw[<-fC] at cU ⊢
   replace hF: -2000<=aD/\aD<=201031:=by omega
   clear fC;simp only[go_sem,lD,lV];rw[bl (x:=aD+V)];refine bM (NG (aD+V) (by omega) (by omega)) rfl rfl ?_;have wx:=NM (aD+V);cases b
   ·simp only[go_sem];refine bM (lQ (aD+V)) rfl rfl ?_;simp only[go_sem];refine cf ?_ ?_<;>intro aw<;>simp only[bC] at aw<;>simp only[go_sem,lD,lV]
    ·exact aKG rfl ⟨(yO cU (FR _) aw).symm,rfl⟩
    ·exact aKG rfl ⟨(yN cU (FR _) aw).symm,rfl⟩
   ·simp only[go_sem];refine cf ?_ ?_<;>intro nW<;>simp only[bC] at nW<;>simp only[go_sem,lD,lV]
    ·rw[bl (x:=7-mG (aD+V)),bl (x:=aD+V+(7-mG (aD+V)))];refine bM (lQ (aD+V+(7-mG (aD+V)))) rfl rfl ?_;simp only[go_sem];refine cf ?_ ?_<;>intro aw<;>simp only[bC] at aw<;>simp only[go_sem,lD,lV]
     ·exact aKG rfl ⟨(yO cU (FT nW) aw).symm,rfl⟩
     ·exact aKG rfl ⟨(yN cU (FT nW) aw).symm,rfl⟩
    ·refine bM (lQ (aD+V)) rfl rfl ?_;simp only[go_sem];refine cf ?_ ?_<;>intro aw<;>simp only[bC] at aw<;>simp only[go_sem,lD,lV]
     ·exact aKG rfl ⟨(yO cU (FU nW) aw).symm,rfl⟩
     ·exact aKG rfl ⟨(yN cU (FU nW) aw).symm,rfl⟩
  ·rw[S ay] at fS;refine bM fS rfl rfl ?_;simp only[go_sem,lD,lV];exact aKG rfl ⟨(aig (by rw[uk,S (by simp),S (by simp),S ay])).symm,rfl⟩
theorem aER (ce:List Int)(x:Int):x∈fq ce↔x∈ce:=by unfold fq;exact List.mem_mergeSort
def TT (ce:List Int):List Int:=Lib.compact (fq ce)
def uh (l:List cX)(y:Int):List Int:=l.filterMap λh=>vu h y
def lU (l:List cX)(a:Int)(n:Nat):List Int:=(List.range n).flatMap λ(c:Nat)=>uh l (a+(c:Int))
theorem ahP (l:List cX)(a:Int)(n:Nat):lU l a (n+1)=lU l a n++uh l (a+n):=by
 unfold lU;rw[aPm,aMS];simp
theorem ahO (l:List cX)(y:Int): (uh l y).length<=l.length:=aPc _ _
theorem TS (l:List cX)(a:Int):∀n,(lU l a n).length<=n*l.length
 |0=>by simp[lU]
 |n+1=>by
  rw[ahP,aKK,aLM,Nat.one_mul];have:=TS l a n;have:=ahO l (a+n);omega
def AX (l:List cX)(a b:Int):List Int:=TT (lU l a (b+1-a).toNat)
theorem aDV {l:List cX}{y:Int}{c:Nat}(h:c<l.length):uh (l.take (c+1)) y=uh (l.take c) y++(vu l[c] y).toList:=by
 unfold uh;rw[aMP,aPk,aKS h];congr 1
theorem ahM {l:List cX}(h:oD l=true){c:Nat}(av:c<l.length):AW l[c]=true:=aLW.1 h _ (aLc av)
theorem TQ (h:cX):List.take 6 (aJ.J h)=aJ.J h:=rfl
theorem TR (h:cX): (aJ.J h).length=6:=rfl
theorem ahN (h:cX): (aJ.J h).all Abs.cV=true:=rfl
theorem aDW (l:List cX)(a b:Int)(hl:l.length<=1024)(an:oD l=true)(aC:1970<=a)(af:b<=2199):aO prog 366 [.pure 6 (ai l),.int .i64 a,.int .i64 b] [] (λv rs=>v= .pure 1 (cJ .i64 (AX l a b))/\rs=[]):=by
 refine hJ func366 agp (by simp[AJ,C3]) ?_;simp only[go_sem,AJ,C3]
 repeat (refine i ?_;simp only[go_sem])
 refine hv (λD r=> ∃n:Nat,(a+n<=b+1\/n=0)/\n<=230/\D=[(0,.pure 6 (ai l)),(2,.int .i64 b),(7,.own 0 (lU l a n).length 0 (lU l a n).length),(8,.int .i64 (a+n))]/\r=[.ag 3 1 (cJ .i64 (lU l a n))])
  (λD _=>match bs D 8 with| .int _ j=>(2300-j).toNat|_=>0) ?_ ?_
 ·(refine E.iv 7 3 1 rfl (E.eW [0,2,7,8] ?_);simp only[go_sem])
  exact i ⟨0,.inr rfl,by omega,by simp[lU],rfl⟩
 ·rintro D r ⟨n,aH,Ay,rfl,rfl⟩;have cK:=TS l a n;have ahD: (lU l a n).length<=235520:=by
   have:n*l.length<=230*1024:=aOG Ay hl;omega
  simp only[go_sem,AJ,C3]
  repeat (refine i ?_;simp only[go_sem])
  refine dj ?_ ?_<;>intro dI<;>simp only[bC] at dI<;>simp only[go_sem,AJ,C3]
  ·repeat (refine i ?_;simp only[go_sem])
   have aKk:n<230:=by omega
   refine hv (λD r=> ∃c:Nat,c<=l.length/\D=[(0,.pure 6 (ai l)),(2,.int .i64 b),(7,.own 0 (lU l a n++uh (l.take c) (a+n)).length 0 (lU l a n++uh (l.take c) (a+n)).length),(8,.int .i64 (a+n)),(19,.pure 6 (ai l)),(20,.int .i64 l.length),(21,.int .i64 c)]/\r=[.ag 3 1 (cJ .i64 (lU l a n++uh (l.take c) (a+n)))])
    (λD _=>match bs D 21 with| .int _ j=>(l.length-j).toNat|_=>0) ?_ ?_
   ·exact i ⟨0,by omega,by simp[uh],by simp[uh]⟩
   ·rintro D r ⟨c,av,rfl,rfl⟩;have Qz: (lU l a n++uh (l.take c) (a+n)).length<=236544:=by
     have:=ahO (l.take c) (a+n);rw[aLd] at this;rw[aKK];omega
    simp only[go_sem,AJ,C3]
    repeat (refine i ?_;simp only[go_sem])
    refine dj ?_ ?_<;>intro ct<;>simp only[bC] at ct<;>simp only[go_sem,AJ,C3]
    ·have aI:c<l.length:=by omega
     repeat (refine i ?_;simp only[go_sem])
     have N:=ahM an aI;have vv:=aDV (y:=a+n) aI;have aP:=dB (c:=c) (by omega);simp only[cT aI];generalize l[c]=hh at N vv ⊢;refine⟨by omega,by omega,by rw[TR];decide,rfl,rfl,?_⟩;simp only[go_sem,TQ];refine i ?_;simp only[go_sem,TQ,TR,ahN];refine bM (aDX hh (a+n) N ⟨by omega,by omega⟩) rfl (by cases vu hh (a+n)<;>rfl) ?_;rcases kx:vu hh (a+n) with _|B
     ·rw[yK];rw[kx] at vv;simp only[go_sem]
      (refine E.bB [some 0] ?_;simp only[go_sem])
      repeat (refine i ?_;simp only[go_sem])
      rw[Option.toList_none,aLY] at vv;exact⟨⟨c+1,by omega,by rw[vv,aP],by rw[vv]⟩,by rw[aP];omega⟩
     ·rw[yK];rw[kx,aNu] at vv;simp only[go_sem]
      (refine E.bB [some 0] ?_;simp only[go_sem])
      (refine i ?_;simp only[go_sem])
      (refine i ?_;simp only[go_sem])
      refine⟨by omega,?_⟩
      (refine E.bB [some 0] ?_;simp only[go_sem])
      repeat (refine i ?_;simp only[go_sem])
      refine⟨⟨c+1,by omega,?_,?_⟩,by rw[aP];omega⟩
      ·rw[vv,aP];simp[aM9]
      ·rw[vv,<-aKT];try rfl
    ·have kv:c=l.length:=by omega
     subst kv;rw[aLb,<-ahP] at *
     repeat (refine i ?_;simp only[go_sem])
     have aP:IntKind.i64.wrap (a+(n:Int)+1)=a+((n+1:Nat):Int):=by rw[bl];omega
     exact⟨⟨n+1,.inl (by omega),by omega,by rw[aP],rfl⟩,by rw[aP];omega⟩
  ·repeat (refine i ?_;simp only[go_sem])
   have G1:n=(b+1-a).toNat:=by omega
   have aDY:AX l a b=Lib.compact (fq (lU l a n)):=by rw[AX,TT,G1]
   rw[aDY];have fF:=zY (lU l a n);have rW:=auK (lU l a n) (by omega);have vk:=auL (fq (lU l a n)) (by omega);have gN:=QT (fq (lU l a n));rw[fF] at vk gN;generalize lU l a n=ce at *;generalize fq ce=ys at *;generalize Lib.compact ys=aq at *
   (refine fy [0] (rW) ?_;rintro _ _ ⟨rfl,rfl⟩;simp only[go_sem])
   repeat (refine i ?_;simp only[go_sem])
   (refine fy [0] (vk) ?_;rintro _ _ ⟨rfl,rfl⟩;simp only[go_sem])
   have lp:ce.length=(cJ .i64 (aq++List.replicate (ce.length-aq.length) 0)).length:=by rw[mV,aKK,aMz];omega
   have pV: ((cJ .i64 (aq++List.replicate (ce.length-aq.length) 0)).drop 0).take aq.length=cJ .i64 aq:=by rw[aNr,WF,aM6]
   have yy:dY (cJ .i64 (aq++List.replicate (ce.length-aq.length) 0))=true:=DZ;generalize cJ .i64 (aq++List.replicate (ce.length-aq.length) 0)=al at *;refine E.jN [] [0] rfl rfl (by simp only[go_sem]<;>rfl) ?_;have nL:bW [.ag 3 1 al] [] [0] (.own 0 ce.length 0 aq.length)= .pure 1 (cJ .i64 aq):=by
    rw[arS (by rfl) (by rfl) (by rfl) lp (by omega) yy,pV]
   simp only[aKP,aLC,nL]
   (refine i ?_;simp only[go_sem])
   exact i ⟨rfl,rfl⟩
def I9 (l:List cX)(y:Int):F:=
 if ng l=0 then (if qd y then .bo [.pure 1 (cJ .i64 (AX l y y)),.int .i64 0] else .bo [.bH,.int .i64 2]) else .bo [.bH,.int .i64 (ng l)]
theorem TU {l:List cX}(h:ng l=0):l.length<=1024/\oD l=true:=by
 unfold ng at h;split at h
 ·omega
 ·split at h
  ·exact⟨by omega,by assumption⟩
  ·omega
theorem aDZ (l:List cX)(hl:l.length<=9223372036854775806)(y:Int):aO prog 353 [.pure 6 (ai l),.int .i64 y] [] (λv rs=>v=I9 l y/\rs=[]):=by
 refine cu func353 agk (by simp[IN,NE]) ?_;simp only[go_sem,IN,NE];refine bM (ahQ l hl) rfl rfl ?_;simp only[go_sem];refine cf ?_ ?_<;>intro an<;>simp only[bC] at an<;>simp only[go_sem,IN,NE]
 ·exact aKG rfl ⟨by rw[I9,S an],rfl⟩
 rw[I9,Rc an];obtain⟨lp,xx⟩:=TU an
 repeat' ((first|refine gv ?_ ?_|refine gw ?_ ?_|refine cf ?_ ?_|refine dj ?_ ?_)<;>intro aw<;>(have ak:=aw;try simp only[bC] at ak)<;>(first|omega| (simp only[go_sem,aw,];clear aw)))
 ·exact aKG rfl ⟨by rw[S (by unfold qd;omega)],rfl⟩
 ·exact aKG rfl ⟨by rw[S (by unfold qd;omega)],rfl⟩
 ·refine bM (aDW l y y lp xx (by omega) (by omega)) rfl rfl ?_;simp only[go_sem];exact aKG rfl ⟨by rw[Rc ⟨by omega,by omega⟩],rfl⟩
theorem aFb (l:List cX)(a b:Int)(hl:l.length<=1024)(aC:1970<=a)(af:b<=2199): (AX l a b).length<=235520:=by
 unfold AX TT;have d:=QT (fq (lU l a (b+1-a).toNat));rw[zY] at d;have G:=TS l a (b+1-a).toNat;have au: (b+1-a).toNat*l.length<=230*1024:=aOG (by omega) hl;omega
def de (f:Int->F)(Y:List Int):List (F×F):=Y.map λk=>(.int .i64 k,f k)
def ek (k:Int)(Y:List Int):List Int:=if k∈Y then Y else Y++[k]
theorem Jg {f:Int->F}(hf:∀k,bJ (f k)=true):∀(l:List Int),kh (de f l)=true
 | []=>aKF rfl
 |k::l=>by
  have:=Jg hf l;simp only[kh,de,aLr,aKJ] at this ⊢;simp only[aKP,bU,aMZ,bJ,hf,aLw];exact this
theorem EW {f:Int->F}{k:Int}:∀{l:List Int},dm (.int .i64 k) (de f l)=if k∈l then some (f k) else none
 | []=>by simp[de,dm]
 |p::l=>by
  have ih:=EW (f:=f) (k:=k) (l:=l);unfold de at *;rw[aKP,dm];have:fB (.int .i64 k) (.int .i64 p)=(k==p):=by simp[fB,cp,ed]
  simp only[this]
  by_cases O:k=p
  ·subst O;simp
  ·simp only[aLu,O,aLi,ih,aKV,aMX]
theorem NO {f:Int->F}{k:Int}:∀{l:List Int},dy (.int .i64 k) (f k) (de f l)=de f (ek k l)
 | []=>by simp[de,dy,ek]
 |p::l=>by
  have ih:=NO (f:=f) (k:=k) (l:=l);unfold de ek at *;rw[aKP,dy];have:fB (.int .i64 k) (.int .i64 p)=(k==p):=by simp[fB,cp,ed]
  simp only[this]
  by_cases O:k=p
  ·subst O;simp
  ·simp only[aLu,O,aLi,ih,aKV,aMX];split<;>simp
def C5 (h:List cX)(y:Int):List Int:=if qd y then AX h y y else []
def nX (h:List cX)(y:Int):F:=if qd y then .pure 1 (cJ .i64 (AX h y y)) else .bH
def lf (h:List cX)(B:Int):Bool:=decide (ui B)&&(decide (B∈C5 h (eT B-1))||decide (B∈C5 h (eT B))||decide (B∈C5 h (eT B+1)))
theorem Jh (h:List cX)(y:Int):bJ (nX h y)=true:=by
 unfold nX;split<;>simp[bJ]
theorem aFc (h:List cX)(l:List Int):kh (de (nX h) l)=true:=Jg (Jh h) l
theorem aFd (h:List cX)(l:List Int):kh (de (λB=> .bool (lf h B)) l)=true:=Jg (λ_=>rfl) l
attribute [go_sem] aFc aFd EW
def mH (h:List cX)(ys ds:List Int):List Z:=[.be (.map false [.int .i64] (de (nX h) ys)),.be (.map false [.int .i64] (de (λB=> .bool (lf h B)) ds)),.ag 359 3 [[.pure 6 (ai h),.bE 0,.bE 1]]]
theorem aFe (h:List cX):aO prog 200 [.pure 6 (ai h)] [] (λv rs=>v= .bd 2 1 0 0/\rs=mH h [] []):=by
 refine cu func200 aeS (by simp[M9,T7]) ?_;simp only[go_sem,M9,T7];exact i ⟨rfl,rfl⟩
theorem aFf (l:List Int)(hl:l.length<=1000000)(x:Int):aO prog 352 [.pure 1 (cJ .i64 l),.int .i64 x] [] (λv rs=>(∃c:Int,v= .int .i64 c/\(0<=c↔x∈l))/\rs=[]):=by
 refine cu func352 agj (by simp[FA,Ji]) ?_;simp only[go_sem,FA,Ji];refine dN (λD r=> ∃(c:Nat),c<=l.length/\(∀j (h:j<l.length),j<c->x≠l[j])/\D=[(0,.pure 1 (cJ .i64 l)),(1,.int .i64 x),(7,.int .i64 l.length),(8,.int .i64 c)]/\r=[])
  (λD _=>match bs D 8 with| .int _ j=>(l.length-j).toNat|_=>0) ?_ ?_
 ·exact i ⟨0,by omega,λj _ h=>by omega,rfl,rfl⟩
 ·rintro D r ⟨c,av,kx,rfl,rfl⟩;have aP:=dB (c:=c) (by omega);simp only[go_sem,FA,Ji];refine cf ?_ ?_<;>intro ct<;>simp only[bC] at ct<;>simp only[go_sem,FA,Ji]
  ·have aI:c<l.length:=by omega
   refine⟨by omega,by omega,?_⟩
   try simp only[aKX]
   rw[tw aI,show l.getD c 0=l[c] by simp[aLn,aI]];simp only[go_sem]
   by_cases au:x=l[c]
   ·have bv: (x==l[c])=true:=by simpa using au
    simp only[go_sem,bv];exact aKG rfl ⟨⟨c,rfl,by simp[au]⟩,rfl⟩
   ·have bv: (x==l[c])=false:=by simpa using au
    simp only[go_sem,bv,aP];refine i ⟨⟨c+1,by omega,λj hj lL=> ?_,rfl,rfl⟩,?_⟩
    ·by_cases aFg:j=c
     ·subst aFg;exact au
     ·exact kx j hj (by omega)
    ·simp only[go_sem];omega
  ·obtain rfl:c=l.length:=by omega
   refine aKG rfl ⟨⟨-1,rfl,?_⟩,rfl⟩;refine⟨λh=>by omega,λh=> ?_⟩;obtain⟨j,hj,rfl⟩:=aL9 h;exact absurd rfl (kx j hj hj)
theorem aik (l:List Int)(hl:l.length<=1000000)(x:Int):aO prog 323 [.pure 1 (cJ .i64 l),.int .i64 x] [] (λv rs=>v= .bool (decide (x∈l))/\rs=[]):=by
 refine cu func323 agc (by simp[Ng,T8]) ?_;simp only[go_sem,Ng,T8];refine PP (aFf l hl x) rfl ?_;rintro _ ⟨c,rfl,av⟩;refine⟨rfl,?_⟩;simp only[go_sem];exact aKG rfl ⟨by simp only[ge_iff_le,av],rfl⟩
theorem aFh (h:List cX)(an:ng h=0)(ys ds:List Int)(y:Int):aO prog 324 [.bd 2 1 0 0,.int .i64 y] (mH h ys ds) (λv rs=>v=nX h y/\rs=mH h (ek y ys) ds):=by
 have cK:=(TU an).1;have aFi:I9 h y= .bo [nX h y,.int .i64 (if qd y then 0 else 2)]:=by
  unfold I9 nX;rw[Rc an];split<;>rfl
 have gN:=Jh h y;have ak:dy (.int .i64 y) (nX h y) (de (nX h) ys)=de (nX h) (ek y ys):=NO;refine cu func324 agd (by simp[IM,NP]) ?_
 by_cases hm:y∈ys
 ·have aC:ek y ys=ys:=by unfold ek;rw[Rc hm]
  rw[aC];simp only[go_sem,IM,NP,mH,hm];exact i ⟨rfl,rfl⟩
 ·simp only[go_sem,IM,NP,mH,hm];have uQ:=aDZ h (by omega) y;rw[aFi] at uQ;refine bM uQ rfl (by simp[bJ,bU,gN]) ?_;simp only[go_sem,gN,ak];exact i ⟨rfl,rfl⟩
theorem aFj (f:Nat->Nat)(h:List cX)(y:Int):dS f (nX h y)=nX h y:=uD _ _ (Jh h y)
attribute [go_sem] aFj Jh
theorem aFk (h:List cX)(an:ng h=0)(y B:Int):aO prog 323 [nX h y,.int .i64 B] [] (λv rs=>v= .bool (decide (B∈C5 h y))/\rs=[]):=by
 unfold nX C5
 by_cases bt:qd y
 ·rw[Rc bt,Rc bt];have:=aFb h y y (TU an).1 bt.1 bt.2;exact aik _ (by omega) B
 ·rw[S bt,S bt];exact (aik [] (by simp) B).le (by simp[hK,le,cJ])
def pr (h:List cX)(a B:Int)(k:Nat):Bool:=(List.range k).any λ(j:Nat)=>decide (B∈C5 h (a+j))
theorem NQ (h:List cX)(a B:Int)(k:Nat):pr h a B (k+1)=(pr h a B k||decide (B∈C5 h (a+k))):=by
 unfold pr;rw[aPm,List.any_append];simp
theorem aFl {h:List cX}{a B:Int}{k m:Nat}(O:k<=m)(aC:pr h a B k=true):pr h a B m=true:=by
 unfold pr at *;rw[aNp] at *;obtain⟨j,hj,G⟩:=aC;rw[aMj] at hj;exact⟨j,by rw[aMj];omega,G⟩
theorem aFm {h:List cX}{B:Int}(ay:ui B):lf h B=pr h (eT B-1) B 3:=by
 unfold lf;simp only[ay,aNx,aLw];rw[show (3:Nat)=0+1+1+1 from rfl,NQ,NQ,NQ];have iI:pr h (eT B-1) B 0=false:=rfl;rw[iI,aNd];rw[show eT B-1+((0:Nat):Int)=eT B-1 by omega,show eT B-1+((0+1:Nat):Int)=eT B by omega,show eT B-1+((0+1+1:Nat):Int)=eT B+1 by omega]
theorem ail (h:List cX)(an:ng h=0)(ys ds:List Int)(B:Int):aO prog 260 [.bd 2 1 0 0,.int .i64 B] (mH h ys ds) (λv rs=>v= .bool (lf h B)/\ ∃ys' ds',rs=mH h ys' ds'):=by
 have ak:dy (.int .i64 B) (.bool (lf h B)) (de (λB=> .bool (lf h B)) ds)=de (λB=> .bool (lf h B)) (ek B ds):=NO (f:=λB=> .bool (lf h B));refine cu func260 afI (by simp[AI,C6]) ?_
 by_cases hm:B∈ds
 ·simp only[go_sem,AI,C6,mH,hm];exact i ⟨rfl,ys,ds,rfl⟩
 simp only[go_sem,AI,C6,mH,hm];refine bM (aD1 B) rfl (by split<;>rfl) ?_
 by_cases ay:ui B
 rotate_left
 ·have ba:lf h B=false:=by unfold lf;simp[ay]
  rw[S ay];rw[ba] at ak ⊢;simp only[go_sem,ak];exact i ⟨rfl,ys,ek B ds,rfl⟩
 rw[Rc ay];have vv:=ahL ay.1 (by have:=ay.2;omega);have aKn:1970<=eT B/\eT B<=2240:=⟨vv.2.2.1,vv.2.2.2⟩;have dn:IntKind.i64.wrap (eT B-1)=eT B-1:=bl;have gI:IntKind.i64.wrap (eT B+1)=eT B+1:=bl;simp only[go_sem,dn];refine dN (λD r=> ∃(k:Nat) (ys':List Int),k<=3/\D=[(0,.bd 2 1 0 0),(1,.int .i64 B),(7,.bool (pr h (eT B-1) B k)),(8,.int .i64 (eT B)),(12,.int .i64 (eT B-1+k))]/\r=mH h ys' ds)
  (λD _=>match bs D 12 with| .int _ j=>(eT B+2-j).toNat|_=>0) ?_ ?_
 ·exact i ⟨0,ys,by omega,by simp[pr],rfl⟩
 ·rintro D r ⟨k,ys',O,rfl,rfl⟩;have nH:IntKind.i64.wrap (eT B-1+k+1)=eT B-1+(k+1:Nat):=by rw[bl];omega
  by_cases aw:k<3/\pr h (eT B-1) B k=false
  ·obtain⟨wD,aC⟩:=aw;have eA:eT B-1+(k:Int)<=eT B+1:=by omega
   have ao:=NQ h (eT B-1) B k;rw[aC,aNd] at ao;simp only[go_sem,AI,C6,mH,gI,eA,aC]
   (refine fy [0,1,2] (aFh h an ys' ds (eT B-1+k)) ?_;rintro _ _ ⟨rfl,rfl⟩;simp only[go_sem])
   refine bM (aFk h an _ B) (by simp[bU,Jh,bJ]) rfl ?_;simp only[go_sem,nH,mH];refine i ⟨⟨k+1,ek (eT B-1+k) ys',by omega,by rw[ao],rfl⟩,?_⟩;simp only[go_sem];omega
  ·have mX:pr h (eT B-1) B k=lf h B:=by
    rw[aFm ay]
    by_cases wD:k=3
    ·rw[wD]
    ·have aC:pr h (eT B-1) B k=true:=by
      cases aj:pr h (eT B-1) B k
      ·exact absurd ⟨by omega,aj⟩ aw
      ·rfl
     rw[aC,aFl O aC]
   have Md: (decide (eT B-1+(k:Int)<=eT B+1)&& !(pr h (eT B-1) B k))=false:=by
    by_cases wD:k=3
    ·subst wD;simp;omega
    ·have aC:pr h (eT B-1) B k=true:=by
      cases aj:pr h (eT B-1) B k
      ·exact absurd ⟨by omega,aj⟩ aw
      ·rfl
     rw[aC];simp
   rw[mX] at Md ⊢
   by_cases eA:eT B-1+(k:Int)<=eT B+1
   ·have hh:lf h B=true:=by simpa[eA] using Md
    rw[hh] at ak ⊢;simp only[go_sem,AI,C6,mH,gI,eA,ak];exact i ⟨rfl,ys',ek B ds,rfl⟩
   ·simp only[go_sem,AI,C6,mH,gI,eA,ak];exact i ⟨rfl,ys',ek B ds,rfl⟩
structure dP where
 name:ByteArray
 ir:ByteArray
 jU:Int
 R:Int
 ab:Int
 ic:Int
 eN:Int
def dP.cells (p:dP):List F:=[.str p.name,.str p.ir,.int .i64 p.jU,.int .i64 p.R,.int .i64 p.ab,.int .i64 p.ic,.int .i64 p.eN]
instance:aJ dP:=⟨dP.cells,7,λ_=>rfl,λ_=>rfl,λ_=>rfl⟩
theorem A4 (p:dP):aJ.J p=[.str p.name,.str p.ir,.int .i64 p.jU,.int .i64 p.R,.int .i64 p.ab,.int .i64 p.ic,.int .i64 p.eN]:=rfl
theorem aFK:aJ.U dP=7:=rfl
attribute [go_sem] aFK
def Jj (n c:Int):Bool:=n.toNat.testBit c.toNat
theorem aio {n:Int}{c:Nat}(h0:0<=n)(d:n<9223372036854775808)(av:c<=63):ep .i64 (Kx .i64 n c) 1=if Jj n c then 1 else 0:=by
 obtain⟨m,rfl⟩:∃m:Nat,n=m:=⟨n.toNat,by omega⟩;have hm:m / 2^c<=m:=Nat.div_le_self _ _;rw[WQ (by omega),show (1:Int)=((1:Nat):Int) from rfl,arf (by omega) (by omega)];unfold Jj;rw[aKX,aKX,Nat.testBit,Nat.shiftRight_eq_div_pow,Nat.and_comm];have G:1&&& m / 2^c=0\/1&&& m / 2^c=1:=by
  rw[Nat.and_comm,Nat.and_one_is_mod];omega
 rcases G with G|G<;>rw[G]<;>rfl
def NW (w:dP)(time A5:Int)(ta:Bool):Bool:=
 (if w.ab<=w.R then decide (w.R<=time)||decide (time<w.ab) else decide (w.R<=time)&&decide (time<w.ab))&&Jj w.ic A5&&(if w.eN=1 then ta else if w.eN=2 then !ta else true)
theorem aFI (w:dP)(FD:0<=w.ic)(dn:w.ic<=127)(time A5:Int)(ta:Bool)(h0:0<=A5)(d:A5<=6):
 aO prog 202 [.agg (aJ.J w),.agg [.int .i64 time,.int .i64 A5,.bool ta]] [] (λv rs=>v= .bool (NW w time A5 ta)/\rs=[]):=by
 have af:=aio (n:=w.ic) (c:=A5.toNat) FD (by omega) (by omega);rw[Int.toNat_of_nonneg h0] at af;refine cu func202 aeT (by simp[IG,N4]) ?_;simp only[go_sem,IG,N4,A4];cases yx:Jj w.ic A5<;>rw[yx] at af<;>simp only[aLK,aLi,aK5] at af
 all_goals (repeat' ((first|refine gv ?_ ?_|refine gw ?_ ?_|refine cf ?_ ?_|refine dj ?_ ?_)<;>intro aw<;>(have ak:=aw;try simp only[bC] at ak)<;>(first|omega| (simp only[go_sem,aw,IG,N4,af,h0];clear aw))))
 all_goals (try (refine aKG rfl ⟨aKI F.bool ?_,rfl⟩))
 all_goals (try simp only[bC] at *)
 all_goals (unfold NW;simp only[yx, *,aK5,aLi,Bool.and_false,Bool.false_and,aLw,aK0,aNx,aQf,Bool.or_true,Bool.true_or])
 all_goals (first|done| (split<;>simp<;>omega)| (simp<;>omega))
def jV (I:ByteArray)(c:Nat):Nat:=(I.data.getD c 0).toNat
def C9 (J:Nat):Bool:=(decide (97<=J)&&decide (J<=122))||(decide (48<=J)&&decide (J<=57))||decide (J=95)
def xc (I:ByteArray)(n:Nat):Bool:=(List.range n).all λc=>C9 (jV I c)
def rO (I:ByteArray):Bool:=decide (1<=I.size)&&decide (I.size<=24)&&decide (97<=jV I 0)&&decide (jV I 0<=122)&&xc I I.size
theorem aFX (I:ByteArray)(n:Nat):xc I (n+1)=(xc I n&&C9 (jV I n)):=by
 unfold xc;rw[aPm,aP4];simp
theorem aFY {I:ByteArray}{c n:Nat}(av:c<n)(h:C9 (jV I c)=false):xc I n=false:=by
 unfold xc;rw[List.all_eq_false];exact⟨c,aMj.2 av,by simp[h]⟩
theorem CZ (I:ByteArray):aO prog 258 [.str I] [] (λv rs=>v= .bool (rO I)/\rs=[]):=by
 refine cu func258 afH (by simp[AH,Da]) ?_;have af: ((I.data.getD 0 0).toNat:Int)=(jV I 0:Int):=rfl;unfold rO;simp only[go_sem,AH,Da]
 by_cases d: (I.size:Int)<1
 ·simp only[go_sem,d];exact aKG rfl ⟨by rw[show decide (1<=I.size)=false from aK7];rfl,rfl⟩
 have ii: (0:Int)<I.size:=by omega
 by_cases G: (I.size:Int)>24
 ·simp only[go_sem,d,G];exact aKG rfl ⟨by rw[show decide (I.size<=24)=false by simp;omega];simp,rfl⟩
 simp only[go_sem,d,G,ii,aPn,af]
 by_cases au: (jV I 0:Int)<97
 ·simp only[go_sem,au,ii,aPn,af];exact aKG rfl ⟨by rw[show decide (97<=jV I 0)=false by simp;omega];simp,rfl⟩
 simp only[go_sem,au,ii,aPn,af]
 by_cases bv: (jV I 0:Int)>122
 ·simp only[go_sem,bv];exact aKG rfl ⟨by rw[show decide (jV I 0<=122)=false by simp;omega];simp,rfl⟩
 simp only[go_sem,bv];have aj: (decide (1<=I.size)&&decide (I.size<=24)&&decide (97<=jV I 0)&&decide (jV I 0<=122)&&xc I I.size)=xc I I.size:=by
  rw[show decide (1<=I.size)=true by simp;omega,show decide (I.size<=24)=true by simp;omega,show decide (97<=jV I 0)=true by simp;omega,show decide (jV I 0<=122)=true by simp;omega];simp
 rw[aj];refine dN (λD r=> ∃(c:Nat),c<=I.size/\xc I c=true/\D=[(0,.str I),(24,.int .i64 I.size),(25,.int .i64 c)]/\r=[])
  (λD _=>match bs D 25 with| .int _ j=>(I.size-j).toNat|_=>0) ?_ ?_
 ·exact i ⟨0,by omega,rfl,rfl,rfl⟩
 ·rintro D r ⟨c,av,hall,rfl,rfl⟩;have aP:=dB (c:=c) (by omega);simp only[go_sem,AH,Da];refine cf ?_ ?_<;>intro ct<;>simp only[bC] at ct<;>simp only[go_sem,AH,Da]
  ·have aI:c<I.size:=by omega
   have N3: ((I.data.getD c 0).toNat:Int)=(jV I c:Int):=rfl;have OX: (0:Int)<=c:=by omega
   have gm: (c:Int)<I.size:=by omega
   have ao:=aFX I c;rw[hall,aLw] at ao;simp only[go_sem,OX,gm,aKX,N3];have aFZ:C9 (jV I c)=false->xc I I.size=false:=aFY aI
   by_cases aMq:C9 (jV I c)=true
   ·rw[aMq] at ao;unfold C9 at aMq;have eo:¬(((jV I c:Int)<97\/(jV I c:Int)>122)/\((jV I c:Int)<48\/(jV I c:Int)>57)/\(jV I c:Int)≠95):=by
     simp only[aLP,aKJ,aKN] at aMq;omega
    repeat' ((first|refine gv ?_ ?_|refine gw ?_ ?_|refine cf ?_ ?_|refine dj ?_ ?_)<;>intro aw<;>(have ak:=aw;try simp only[bC] at ak)<;>(first|omega| (simp only[go_sem,aw,AH,Da,aP];clear aw)))
    all_goals (try simp only[bC] at *)
    all_goals first
     | (exfalso;omega)
     | (refine i ⟨⟨c+1,by omega,ao,rfl,rfl⟩,?_⟩;simp only[go_sem];omega)
   ·have T3:=aFZ (by simpa using aMq);rw[T3];unfold C9 at aMq;have eo: ((jV I c:Int)<97\/(jV I c:Int)>122)/\((jV I c:Int)<48\/(jV I c:Int)>57)/\(jV I c:Int)≠95:=by
     simp only[aLP,aKJ,aKN] at aMq;omega
    repeat' ((first|refine gv ?_ ?_|refine gw ?_ ?_|refine cf ?_ ?_|refine dj ?_ ?_)<;>intro aw<;>(have ak:=aw;try simp only[bC] at ak)<;>(first|omega| (simp only[go_sem,aw,AH,Da,aP];clear aw)))
    all_goals (try simp only[bC] at *)
    all_goals first
     | (exfalso;omega)
     |exact aKG rfl ⟨rfl,rfl⟩
  ·obtain rfl:c=I.size:=by omega
   exact aKG rfl ⟨by rw[hall],rfl⟩
def ez (a b:ByteArray):Bool:=a.toList==b.toList
def lW (w:dP):Bool:=ez w.ir ⟨#[]⟩
def A6 (w:dP):Bool:=rO w.name&&(lW w||rO w.ir)&&decide (0<=w.jU/\w.jU<=1000/\0<=w.R/\w.R<1440/\0<=w.ab/\w.ab<=1440/\0<=w.ic/\w.ic<=127/\0<=w.eN/\w.eN<=2)
set_option maxHeartbeats 2000000 in
theorem aFT (w:dP):aO prog 199 [.agg (aJ.J w)] [] (λv rs=>v= .bool (A6 w)/\rs=[]):=by
 refine cu func199 aeR (by simp[pX,qX]) ?_;unfold A6;simp only[go_sem,pX,qX,A4];refine bM (CZ w.name) rfl rfl ?_
 by_cases d:rO w.name=true
 rotate_left
 ·have ii:rO w.name=false:=by simpa using d
  rw[ii];simp only[go_sem,pX,qX];exact aKG rfl ⟨by simp,rfl⟩
 rw[d];simp only[go_sem,pX,qX];have dp: (w.ir.toList==({data:= #[]}:ByteArray).toList)=lW w:=rfl;rw[dp]
 by_cases fS: (lW w||rO w.ir)=true
 rotate_left
 ·have G:lW w=false:=by
   cases h:lW w
   ·rfl
   ·rw[h] at fS;simp at fS
  have au:rO w.ir=false:=by
   cases h:rO w.ir
   ·rfl
   ·rw[h] at fS;simp at fS
  rw[G,au];simp only[go_sem,pX,qX];refine bM (CZ w.ir) rfl rfl ?_;rw[au];simp only[go_sem,pX,qX];exact aKG rfl ⟨rfl,rfl⟩
 rw[fS,aLw]
 by_cases aA:0<=w.jU/\w.jU<=1000/\0<=w.R/\w.R<1440/\0<=w.ab/\w.ab<=1440/\0<=w.ic/\w.ic<=127/\0<=w.eN/\w.eN<=2
 ·rw[aLf aA];obtain⟨bO,cd,fk,hB,jE,jF,Nk,IP,aF0,aiM⟩:=aA;have rh:w.jU≥0:=bO;have N5:w.R≥0:=fk;have N6:w.ab≥0:=jE;have aiN:w.ic≥0:=Nk;have aiO:w.eN≥0:=aF0;cases G:lW w
  ·rw[G,aNd] at fS;simp only[go_sem,pX,qX];refine bM (CZ w.ir) rfl rfl ?_;rw[fS];simp only[go_sem,pX,qX,rh,cd,N5,hB,N6,jF,aiN,IP,aiO,aiM];exact aKG rfl ⟨rfl,rfl⟩
  ·simp only[go_sem,pX,qX,rh,cd,N5,hB,N6,jF,aiN,IP,aiO,aiM];exact aKG rfl ⟨rfl,rfl⟩
 ·rw[aLh aA];cases G:lW w
  ·rw[G,aNd] at fS;simp only[go_sem,pX,qX];refine bM (CZ w.ir) rfl rfl ?_;rw[fS];simp only[go_sem,pX,qX]
   repeat' ((first|refine gv ?_ ?_|refine gw ?_ ?_|refine cf ?_ ?_|refine dj ?_ ?_)<;>intro aw<;>(have ak:=aw;try simp only[bC] at ak)<;>(first|omega| (simp only[go_sem,aw,pX,qX];clear aw)))
   all_goals (try simp only[bC] at *)
   all_goals first
    | (exfalso;omega)
    |exact aKG rfl ⟨rfl,rfl⟩
    |exact aKG rfl ⟨aKI F.bool (aK7),rfl⟩
  ·simp only[go_sem,pX,qX]
   repeat' ((first|refine gv ?_ ?_|refine gw ?_ ?_|refine cf ?_ ?_|refine dj ?_ ?_)<;>intro aw<;>(have ak:=aw;try simp only[bC] at ak)<;>(first|omega| (simp only[go_sem,aw,pX,qX];clear aw)))
   all_goals (try simp only[bC] at *)
   all_goals first
    | (exfalso;omega)
    |exact aKG rfl ⟨rfl,rfl⟩
    |exact aKG rfl ⟨aKI F.bool (aK7),rfl⟩
structure cF where
 ah:Int
 R:Int
 ab:Int
 ep:ByteArray
def cF.cells (p:cF):List F:=[.int .i64 p.ah,.int .i64 p.R,.int .i64 p.ab,.str p.ep]
instance:aJ cF:=⟨cF.cells,4,λ_=>rfl,λ_=>rfl,λ_=>rfl⟩
theorem Ah (p:cF):aJ.J p=[.int .i64 p.ah,.int .i64 p.R,.int .i64 p.ab,.str p.ep]:=rfl
theorem Tq:aJ.U cF=4:=rfl
attribute [go_sem] Tq
def oE (p:cF):Prop:=0<=p.ah/\p.ah<=84005/\0<=p.R/\p.R<p.ab/\p.ab<=120968640
instance (p:cF):Decidable (oE p):=inferInstanceAs (Decidable (_/\_))
def nn (l:List cF):Int:=(l.map λp=>p.ab-p.R).sum
def vi (l:List cF):Int:=if 4096<l.length then 3 else if ∀p∈l,oE p then (if 100000<nn l then 3 else 0) else 1
theorem aiP {l:List cF}{c:Nat}(h:c<l.length):nn (l.take (c+1))=nn (l.take c)+(l[c].ab-l[c].R):=by
 unfold nn;rw[aLz h,aLU,aNO];simp
theorem Ug {l:List cF}:∀{c:Nat},c<=l.length->(∀j (h:j<l.length),j<c->oE l[j])->0<=nn (l.take c)/\nn (l.take c)<=120968640*c
 |0,_,_=>by simp[nn]
 |c+1,av,h=>by
  have ih:=Ug (l:=l) (c:=c) (by omega) λj hj lL=>h j hj (by omega);have:=h c (by omega) (by omega);unfold oE at this;rw[aiP (by omega)];omega
theorem aFP (l:List cF)(hl:l.length<=1000000):aO prog 114 [.pure 4 (ai l)] [] (λv rs=>v= .int .i64 (vi l)/\rs=[]):=by
 refine cu func114 adF (by simp[yC,A7]) ?_;unfold vi;simp only[go_sem,yC,A7]
 by_cases d: (l.length:Int)>4096
 ·simp only[go_sem,d];exact aKG rfl ⟨by rw[Rc (by omega)],rfl⟩
 simp only[go_sem,d];rw[S (by omega)];refine dN (λD r=> ∃(c:Nat),c<=l.length/\(∀j (h:j<l.length),j<c->oE l[j])/\D=[(3,.int .i64 (nn (l.take c))),(9,.pure 4 (ai l)),(10,.int .i64 l.length),(11,.int .i64 c)]/\r=[])
  (λD _=>match bs D 11 with| .int _ j=>(l.length-j).toNat|_=>0) ?_ ?_
 ·exact i ⟨0,by omega,λj _ h=>by omega,by simp[nn],rfl⟩
 ·rintro D r ⟨c,av,hall,rfl,rfl⟩;have aP:=dB (c:=c) (by omega);have RH:=Ug av hall;simp only[go_sem,yC,A7];refine cf ?_ ?_<;>intro ct<;>simp only[bC] at ct<;>simp only[go_sem,yC,A7]
  ·have aI:c<l.length:=by omega
   refine⟨by omega,by omega,?_⟩
   try simp only[aKX]
   rw[cT aI];have cn:=aiP aI;have qR:¬oE l[c]-> ¬ ∀p∈l,oE p:=λd G=>d (G _ (aLc aI));have dV:oE l[c]-> ∀j (h:j<l.length),j<c+1->oE l[j]:=λd j hj lL=>by
    by_cases e:j=c
    ·subst e;exact d
    ·exact hall j hj (by omega)
   generalize l[c]=p at cn qR dV ⊢;simp only[go_sem,yC,A7,Ah]
   by_cases ak:oE p
   ·have hT:=ak;unfold oE at hT;obtain⟨bO,cd,fk,hB,jE⟩:=hT;have rh:¬p.ah<0:=by omega
    have aF1:¬p.ah>84005:=by omega
    have N5:¬p.R<0:=by omega
    have aF2:¬p.ab<=p.R:=by omega
    have N6:¬p.ab>120968640:=by omega
    have jG:IntKind.i64.wrap (p.ab-p.R)=p.ab-p.R:=bl;have jH:IntKind.i64.wrap (nn (l.take c)+(p.ab-p.R))=nn (l.take (c+1)):=by rw[bl,cn]
    simp only[go_sem,yC,A7,rh,aF1,N5,aF2,N6,jG,jH,aP]
    (refine E.bB [] ?_;simp only[go_sem])
    refine i ⟨⟨c+1,by omega,dV ak,rfl,rfl⟩,?_⟩;simp only[go_sem];omega
   ·rw[S (qR ak)];unfold oE at ak
    repeat' ((first|refine gv ?_ ?_|refine gw ?_ ?_|refine cf ?_ ?_|refine dj ?_ ?_)<;>intro aw<;>(have ak:=aw;try simp only[bC] at ak)<;>(first|omega| (simp only[go_sem,aw,yC,A7];clear aw)))
    all_goals (try simp only[bC] at *)
    all_goals first
     | (exfalso;omega)
     |exact aKG rfl ⟨rfl,rfl⟩
  ·obtain rfl:c=l.length:=by omega
   rw[aLb] at RH ⊢;rw[Rc (λp ak=>by obtain⟨j,hj,rfl⟩:=aL9 ak;exact hall j hj hj)]
   by_cases au:nn l>100000
   ·simp only[go_sem,au];exact aKG rfl ⟨rfl,rfl⟩
   ·simp only[go_sem,au];exact aKG rfl ⟨rfl,rfl⟩
end Go.Proofs.YtpincjkjoeopkaaGreatDoor.Pm
