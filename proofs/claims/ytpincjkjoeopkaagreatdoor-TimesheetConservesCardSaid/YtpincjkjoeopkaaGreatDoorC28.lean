/- Events and bands. -/
import Derived.Test.YtpincjkjoeopkaaGreatDoorC27
set_option linter.all false
namespace Go.Proofs.YtpincjkjoeopkaaGreatDoor.Ib
open Go Go.Abs
def HS (l:List kr)(v:Int):Nat:=l.countP λb=>decide (b.after<=v)
def bu (l:List kr):List (Int×Int)->Nat
 | []=>0
 |p::aD=>HS l p.2+bu l aD
theorem aPL (l:List kr)(v:Int):HS l v<=HS l (v+1):=List.countP_mono_left λb _ h=>by
 rw[aKN] at h ⊢;omega
theorem aTC (l:List kr)(v:Int):HS l v<=l.length:=List.countP_le_length
theorem aQG:∀{l:List kr} (k:Nat) {v:Int},HS l (v+1)=HS l v->(iF k l (v+1)).1=(iF k l v).1
 | [],k,v,_=>rfl
 |b::l,k,v,h=>by
  have d:=aPL l v;have e:∀u,HS (b::l) u=HS l u+if b.after<=u then 1 else 0:=λu=>by
   unfold HS;rw[List.countP_cons];simp only[aKN]
  rw[e,e] at h
  by_cases c1:b.after<=v
  ·rw[Rc c1,Rc (by omega)] at h;rw[iF,iF,S (by omega),S (by omega)];exact aQG (k+1) (by omega)
  ·rw[S c1] at h
   by_cases c2:b.after<=v+1
   ·rw[Rc c2] at h;omega
   ·rw[iF,iF,Rc (by omega),Rc (by omega)]
theorem aTD (p:Int×Int)(aD:List (Int×Int))(k:Int):ev (p::aD) k=if (k==p.1)=true then p.2 else ev aD k:=by
 unfold ev Abs.iw;rw[aM0]
 by_cases h: (k==p.1)=true
 ·rw[h];rfl
 ·rw[Bool.not_eq_true] at h;rw[h];rfl
theorem aPM {l:List kr}{k:Int}:∀{aD:List (Int×Int)},bu l aD+HS l (ev aD k+1)<=bu l (jb k (ev aD k+1) aD)+HS l (ev aD k)
 | []=>by
  have:ev [] k=0:=rfl;rw[this];simp only[jb,bu];omega
 |p::aD=>by
  have ih:=aPM (l:=l) (k:=k) (aD:=aD);rw[aTD,jb]
  by_cases h: (k==p.1)=true
  ·rw[Rc h,Rc h,bu,bu];simp only;omega
  ·rw[S h,S h,bu,bu];omega
theorem aQH {l:List kr}{k:Int}{aD:List (Int×Int)}:bu l aD<=bu l (jb k (ev aD k+1) aD):=by
 have:=aPM (l:=l) (k:=k) (aD:=aD);have:=aPL l (ev aD k);omega
def aOT (aF:ib)(ah t:Int)(k:Nat)(I:TF):Prop:= ∃(ls jw:List (Int×Int)) (aJ7:List cF) (p:cF),I.aa=aJ7++[p]/\p.ah=ah/\p.ab=t/\ez p.ep (qc aF ls jw ah).1=true/\
 I.aD=jb ah (ev ls ah+1) ls/\I.W=(if (qc aF ls jw ah).2 then jb (jh ah) (ev jw (jh ah)+1) jw else jw)/\I.aa.length<=k+bu aF.eN ls+bu aF.gL jw
theorem aR5 {aF:ib}{aD W:List (Int×Int)}{ah:Int}:bu aF.gL W<=bu aF.gL (if (qc aF aD W ah).2 then jb (jh ah) (ev W (jh ah)+1) W else W):=by
 split
 ·exact aQH
 ·exact aKM _
theorem aTE {aF:ib}{ah t:Int}{k:Nat}{I:TF}(h:aOT aF ah t k I):I.aa.length<=k+bu aF.eN I.aD+bu aF.gL I.W:=by
 obtain⟨ls,jw,aJ7,p,_,_,_,_,fC,hW,hl⟩:=h;have d:=aQH (l:=aF.eN) (k:=ah) (aD:=ls);have G:=aR5 (aF:=aF) (aD:=ls) (W:=jw) (ah:=ah);rw[fC,hW];omega
theorem aQF (aJ7:List cF)(p q:cF):fI (aJ7++[p]) q=if uf p q then aJ7++[{p with ab:=q.ab}] else aJ7++[p]++[q]:=by
 unfold fI;simp only[List.getLast?_append,List.getLast?_singleton,Option.some_or,List.dropLast_concat]
theorem aTF {aF:ib}{ah t:Int}{k:Nat}{I:TF}(h:I.aa.length<=k+bu aF.eN I.aD+bu aF.gL I.W):aOT aF ah (t+1) (k+1) (C2 aF I (ah,t)):=by
 have hl:=aDG I.aa ⟨ah,t,t+1,(qc aF I.aD I.W ah).1⟩;have key:∃(aJ7:List cF) (p:cF),fI I.aa ⟨ah,t,t+1,(qc aF I.aD I.W ah).1⟩=aJ7++[p]/\p.ah=ah/\p.ab=t+1/\ez p.ep (qc aF I.aD I.W ah).1=true:=by
  unfold fI;split
  ·rename_i p ak;split
   ·rename_i aw;simp only[uf,aKJ,aKN] at aw;exact⟨_,_,rfl,aw.1,rfl,aw.2.1⟩
   ·exact⟨_,_,rfl,rfl,rfl,FI _⟩
  ·exact⟨[],_,rfl,rfl,rfl,FI _⟩
 obtain⟨aJ7,p,d,G,au,bv⟩:=key;refine⟨I.aD,I.W,aJ7,p,d,G,au,bv,rfl,rfl,?_⟩;show (fI I.aa ⟨ah,t,t+1,(qc aF I.aD I.W ah).1⟩).length<=_;omega
theorem aTG {aF:ib}{ah t:Int}{k:Nat}{I:TF}(h:aOT aF ah t k I):aOT aF ah (t+1) k (C2 aF I (ah,t)):=by
 obtain⟨ls,jw,aJ7,p,aV,aJZ,aTH,UL,fC,hW,hl⟩:=h;have GA:=aQH (l:=aF.eN) (k:=ah) (aD:=ls);have axN:=aR5 (aF:=aF) (aD:=ls) (W:=jw) (ah:=ah);have OR:=aPM (l:=aF.eN) (k:=ah) (aD:=ls);have aRQ:=aPM (l:=aF.gL) (k:=jh ah) (aD:=jw);have aUf:=aPL aF.eN (ev ls ah);have aUg:=aPL aF.gL (ev jw (jh ah));have Y0:I.aa.length=aJ7.length+1:=by rw[aV];simp
 have BR: (qc aF I.aD I.W ah).1=(qc aF ls jw ah).1\/bu aF.eN ls+bu aF.gL jw+1<=bu aF.eN I.aD+bu aF.gL I.W:=by
  by_cases c1:HS aF.eN (ev ls ah+1)=HS aF.eN (ev ls ah)
  rotate_left
  ·refine .inr ?_;rw[fC,hW];omega
  have es:=aQG (l:=aF.eN) 0 c1;have bO:ev I.aD ah=ev ls ah+1:=by rw[fC,FF,Rc rfl]
  by_cases c2:0<=(iF 0 aF.eN (ev ls ah)).1
  ·refine .inl ?_;unfold qc;rw[bO,es,Rc c2,Rc c2]
  ·have af: (qc aF ls jw ah).2=true:=by unfold qc;rw[S c2]
   rw[af,Rc rfl] at hW
   by_cases c3:HS aF.gL (ev jw (jh ah)+1)=HS aF.gL (ev jw (jh ah))
   ·refine .inl ?_;have ig:=aQG (l:=aF.gL) 0 c3;have cd:ev I.W (jh ah)=ev jw (jh ah)+1:=by rw[hW,FF,Rc rfl]
    unfold qc;rw[bO,es,S c2,S c2,cd,ig]
   ·refine .inr ?_;rw[fC,hW];omega
 have kk: (C2 aF I (ah,t)).aa=fI I.aa ⟨ah,t,t+1,(qc aF I.aD I.W ah).1⟩:=rfl;rw[aV,aQF] at kk;rw[<-fC,<-hW] at *
 by_cases aw:uf p ⟨ah,t,t+1,(qc aF I.aD I.W ah).1⟩=true
 ·rw[Rc aw] at kk;simp only[uf,aKJ,aKN] at aw;refine⟨I.aD,I.W,aJ7,_,kk,aJZ,rfl,aw.2.1,rfl,rfl,?_⟩;rw[kk,aKK,aL6];omega
 ·rw[S aw] at kk;refine⟨I.aD,I.W,aJ7++[p],_,kk,rfl,rfl,FI _,rfl,rfl,?_⟩;rw[kk,aKK,aKK,aL6,aL6];rcases BR with h|h
  ·exact (aw (by simp only[uf,aKJ,aKN];rw[h];exact⟨aJZ,UL,aTH⟩)).elim
  ·omega
theorem aR6 {aF:ib}{ah R:Int}{k:Nat}{I:TF}(h:I.aa.length<=k+bu aF.eN I.aD+bu aF.gL I.W):∀n:Nat,aOT aF ah (R+(n+1:Nat)) (k+1) ((mE ah R (n+1)).foldl (C2 aF) I)
 |0=>by
  have:=aTF (ah:=ah) (t:=R) h;simpa[mE] using this
 |n+1=>by
  rw[TG,aMc,aMb,aOE];have:=aTG (aR6 (ah:=ah) (R:=R) h n);rw[show R+((n+1+1:Nat):Int)=R+((n+1:Nat):Int)+1 by omega];exact this
theorem aTI (aF:ib):∀(Rd:List ga),(run aF (kE Rd)).aa.length<=Rd.length+bu aF.eN (run aF (kE Rd)).aD+bu aF.gL (run aF (kE Rd)).W:=by
 intro Rd
 induction Rd using aDI with
 |h0=>simp[kE,run]
 |d Rd I ih=>
  have e:kE (Rd++[I])=kE Rd++FH I:=by unfold kE;rw[aMS];simp
  rw[e,aDy,aKK,aL6];unfold FH;generalize run aF (kE Rd)=bw at ih;generalize (I.ab-I.R).toNat=n;cases n with
  |zero=>
   simp only[mE,List.range_zero,aLC,aOE];omega
  |succ n=>exact aTE (aR6 ih n)
theorem aQI {l:List kr}:∀{aD:List (Int×Int)},bu l aD<=l.length*aD.length
 | []=>by simp[bu]
 |p::aD=>by
  have:=aQI (l:=l) (aD:=aD);have:=aTC l p.2;rw[bu,aK8,Nat.mul_succ];omega
theorem aR7 {k v:Int}:∀{aD:List (Int×Int)},(jb k v aD).map (·.1)=if k∈aD.map (·.1) then aD.map (·.1) else aD.map (·.1)++[k]
 | []=>by simp[jb]
 |p::aD=>by
  have ih:=aR7 (k:=k) (v:=v) (aD:=aD);rw[jb]
  by_cases h: (k==p.1)=true
  ·have cR:k=p.1:=by simpa using h
   rw[Rc h,Rc (by simp[cR])];simp[cR]
  ·have cR:¬k=p.1:=by simpa using h
   rw[S h,aKP,ih,aKP]
   by_cases G:k∈aD.map (·.1)
   ·rw[Rc G,Rc (aK1 _ G)]
   ·rw[S G,S (λx=>(aKV.1 x).elim cR G)];rfl
theorem aGX {k v:Int}{aD:List (Int×Int)}{X:List Int}(d: (aD.map (·.1)).Nodup)(G:∀x∈aD.map (·.1),x∈X)(O:k∈X): ((jb k v aD).map (·.1)).Nodup/\ ∀x∈(jb k v aD).map (·.1),x∈X:=by
 rw[aR7];split
 ·exact⟨d,G⟩
 ·rename_i h;refine⟨?_,λx aj=> ?_⟩
  ·rw[aNP];exact⟨d,by simp,λa aC b af=>by rw[aK2] at af;subst af;exact λe=>h (e▸aC)⟩
  ·rcases aK3.1 aj with aj|aj
   ·exact G x aj
   ·rw[aK2] at aj;subst aj;exact O
theorem aTJ (aF:ib){X:List Int}:∀(lk:List (Int×Int)),(∀m∈lk,m.1∈X)->(((run aF lk).aD.map (·.1)).Nodup/\ ∀x∈(run aF lk).aD.map (·.1),x∈X)/\(((run aF lk).W.map (·.1)).Nodup/\ ∀x∈(run aF lk).W.map (·.1),x∈X.map jh):=by
 intro lk
 induction lk using aDI with
 |h0=>intro _;simp[run]
 |d lk m ih=>
  intro h;obtain⟨a,b⟩:=ih λx aj=>h x (aMa _ aj);have hm:=h m (by simp);rw[aDH];unfold C2;refine⟨aGX a.1 a.2 hm,?_⟩;simp only;split
  ·exact aGX b.1 b.2 (aKZ.2 ⟨_,hm,rfl⟩)
  ·exact b
theorem aSN {aF:ib}(dc:Tt aF){Rd:List ga}{X:List Int}(h:∀I∈Rd,I.ah∈X): (run aF (kE Rd)).aa.length<=Rd.length+32*X.length:=by
 have h0:=aTI aF Rd;have hm:∀m∈kE Rd,m.1∈X:=by
  intro m hm;unfold kE at hm;obtain⟨I,ao,hm⟩:=aM1.1 hm;unfold FH mE at hm;obtain⟨j,_,rfl⟩:=aKZ.1 hm;exact h I ao
 obtain⟨⟨cH,ff⟩,aKU,eJ⟩:=aTJ aF (kE Rd) hm;have mN:=cH.length_le_of_subset ff;have nv:=aKU.length_le_of_subset eJ;rw[aLe] at mN;rw[aLe,aLe] at nv;have aK6:=aQI (l:=aF.eN) (aD:=(run aF (kE Rd)).aD);have iT:=aQI (l:=aF.gL) (aD:=(run aF (kE Rd)).W);have aKY:=aOG dc.B mN;have eQ:=aOG dc.w nv;omega
def aL3 (B:Int):List cF->Int
 | []=>0
 |p::aa=>(if p.ah=B then p.ab-p.R else 0)+aL3 B aa
theorem aPI (B:Int):∀(a b:List cF),aL3 B (a++b)=aL3 B a+aL3 B b
 | [],b=>by simp[aL3]
 |x::a,b=>by simp only[aLx,aL3,aPI B a b];omega
def aMD (B:Int):List (Int×Int)->Int
 | []=>0
 |m::lk=>(if m.1=B then 1 else 0)+aMD B lk
theorem aPJ (B:Int):∀(a b:List (Int×Int)),aMD B (a++b)=aMD B a+aMD B b
 | [],b=>by simp[aMD]
 |x::a,b=>by simp only[aLx,aMD,aPJ B a b];omega
def aNA (X:List Int)(ft av:Int)(aa:List cF):Prop:= ∀p∈aa,p.ah∈X/\ft<=p.R/\p.R<p.ab/\p.ab<=av
theorem aPx {aa:List cF}{ah t:Int}{b:ByteArray}{X:List Int}{ft av B:Int}(h:aNA X ft av aa)(ay:ah∈X)(h0:ft<=t)(d:t<av):
 aNA X ft av (fI aa ⟨ah,t,t+1,b⟩)/\aL3 B (fI aa ⟨ah,t,t+1,b⟩)=aL3 B aa+if ah=B then 1 else 0:=by
 have aH:aNA X ft av [⟨ah,t,t+1,b⟩]:=λp ak=>by
  rw[aK2] at ak;subst ak;exact⟨ay,h0,by simp only;omega,by simp only;omega⟩
 have aC:∀{a J:List cF},aNA X ft av a->aNA X ft av J->aNA X ft av (a++J):=λd G p ak=>(aK3.1 ak).elim (d p) (G p);have bF:aL3 B [⟨ah,t,t+1,b⟩]=if ah=B then 1 else 0:=by simp only[aL3];split<;>omega
 rcases aNM aa with rfl|⟨aJ7,p,rfl⟩
 ·refine⟨aH,?_⟩;show aL3 B [_]=_;rw[bF];simp[aL3]
 ·rw[aNN] at h ⊢;rw[aQF];have aV:aNA X ft av aJ7:=λx aj=>h x (aMa _ aj);have ak:=h p (by simp);split
  ·rename_i aw;simp only[uf,aKJ,aKN] at aw;refine⟨aC aV λx aj=> ?_,?_⟩
   ·rw[aK2] at aj;subst aj;exact⟨ak.1,ak.2.1,by simp only;omega,by simp only;omega⟩
   ·rw[aPI,aPI];simp only[aL3];rw[<-aw.1];split<;>omega
  ·exact⟨aC h aH,by rw[aPI,bF]⟩
theorem aSO (aF:ib){X:List Int}{ft av B:Int}:∀(lk:List (Int×Int)),(∀m∈lk,m.1∈X/\ft<=m.2/\m.2<av)->aNA X ft av (run aF lk).aa/\aL3 B (run aF lk).aa=aMD B lk:=by
 intro lk
 induction lk using aDI with
 |h0=>intro _;exact⟨λp ak=>by simp[run] at ak,rfl⟩
 |d lk m ih=>
  intro h;obtain⟨a,b⟩:=ih λx aj=>h x (aMa _ aj);have hm:=h m (by simp);rw[aDH];have:=aPx (b:=(qc aF (run aF lk).aD (run aF lk).W m.1).1) (B:=B) a hm.1 hm.2.1 hm.2.2;refine⟨this.1,?_⟩;rw[aPJ];have e:=this.2;rw[b] at e;show aL3 B (fI _ _)=_;rw[e];simp only[aMD];omega
def aMr:List cF->Int
 | []=>0
 |p::aa=>(p.ab-p.R)+aMr aa
theorem aPK:∀(a b:List cF),aMr (a++b)=aMr a+aMr b
 | [],b=>by simp[aMr]
 |x::a,b=>by simp only[aLx,aMr,aPK a b];omega
theorem aTB {aa:List cF}{ah t:Int}{b:ByteArray}:aMr (fI aa ⟨ah,t,t+1,b⟩)=aMr aa+1:=by
 rcases aNM aa with rfl|⟨aJ7,p,rfl⟩
 ·show aMr [_]=_;simp only[aMr];omega
 ·rw[aNN,aQF];split
  ·rename_i aw;simp only[uf,aKJ,aKN] at aw;rw[aPK,aPK];simp only[aMr];omega
  ·rw[aPK];simp only[aMr];omega
theorem aST (aF:ib)(lk:List (Int×Int)):aMr (run aF lk).aa=lk.length:=by
 induction lk using aDI with
 |h0=>rfl
 |d lk m ih=>
  rw[aDH,aKK,aL6];show aMr (fI _ _)=_;rw[aTB,ih];omega
def aL7 (B:Int):List ga->Int
 | []=>0
 |I::Rd=>(if I.ah=B then I.ab-I.R else 0)+aL7 B Rd
theorem aSR {B:Int}{a b:List ga}(h:a.Perm b):aL7 B a=aL7 B b:=by
 induction h with
 |nil=>rfl
 |cons x _ ih=>rw[aL7,aL7,ih]
 |swap x y l=>rw[aL7,aL7,aL7,aL7];omega
 |trans _ _ OX gm=>exact OX.trans gm
theorem aRq (B:Int):∀(a b:List ga),aL7 B (a++b)=aL7 B a+aL7 B b
 | [],b=>by simp[aL7]
 |x::a,b=>by simp only[aLx,aL7,aRq B a b];omega
theorem aR2 (B ah R:Int):∀n:Nat,aMD B (mE ah R n)=if ah=B then (n:Int) else 0
 |0=>by simp[mE,aMD]
 |n+1=>by
  rw[TG,aPJ,aR2 B ah R n];simp only[aMD];split<;>omega
theorem aRr (B:Int):∀{Rd:List ga},(∀I∈Rd,I.R<I.ab)->aMD B (kE Rd)=aL7 B Rd
 | [],_=>rfl
 |I::Rd,h=>by
  have ao:=h I aLa;have ih:=aRr B (Rd:=Rd) λx aj=>h x (aK1 _ aj);show aMD B (FH I++kE Rd)=_;rw[aPJ,ih,aL7,FH,aR2];split<;>omega
theorem aSP {Rd:List ga}{X:List Int}{ft av:Int}(h:∀I∈Rd,I.ah∈X/\ft<=I.R/\I.ab<=av):∀m∈kE Rd,m.1∈X/\ft<=m.2/\m.2<av:=by
 intro m hm;unfold kE at hm;obtain⟨I,ao,hm⟩:=aM1.1 hm;unfold FH mE at hm;obtain⟨j,hj,rfl⟩:=aKZ.1 hm;rw[aMj] at hj;have:=h I ao;exact⟨this.1,by simp only;omega,by simp only;omega⟩
def aM4 (l:List jg):Int:=(l.map jg.min).sum
theorem aR3 {b:ByteArray}{m:Int}:∀{acc:List jg},aM4 (gr b m acc)=aM4 acc+m
 | []=>by simp[gr,aM4]
 |t::eg=>by
  have ih:=aR3 (b:=b) (m:=m) (acc:=eg);unfold aM4 at *;unfold gr;split
  ·simp only[aKP,aMf];omega
  ·simp only[aKP,aMf];omega
theorem aR4 {B:Int}:∀{aa:List cF} {acc:List jg},(∀p∈aa,iB p.R p.ab)->aM4 (aa.foldl (jx B) acc)=aM4 acc+aL3 B aa
 | [],acc,_=>by simp[aL3]
 |p::aa,acc,h=>by
  have ak:=h p aLa;rw[aMb,aR4 (λx aj=>h x (aK1 _ aj)),aL3];unfold jx
  by_cases ay:p.ah=B
  ·rw[Rc (show sL B p from ⟨ay,ak⟩),aR3,Rc ay];omega
  ·rw[S (λJ:sL B p=>ay J.1),S ay];omega
theorem aSW {B:Int}{aa:List cF}(hl:aa.length<=4096)(h:∀p∈aa,iB p.R p.ab):aM4 (pQ aa B)=aL3 B aa:=by
 unfold pQ;rw[aLZ hl,aR4 h];simp[aM4]
end Go.Proofs.YtpincjkjoeopkaaGreatDoor.Ib
namespace Go.Proofs.YtpincjkjoeopkaaGreatDoor
open Go Go.Abs
theorem aSL {bm:List Ib.Ev}{k:Ib.Ky}{t:Int}(h:Ib.wT bm k=some t):∃y∈bm,y.time=t:=by
 induction bm using Ib.vq with
 |h0=>simp[Ib.wT] at h
 |d l x ih=>
  rw[Ib.aCK] at h;split at h
  ·cases h;exact⟨x,by simp,rfl⟩
  ·obtain⟨y,bt,e⟩:=ih h;exact⟨y,aMa _ bt,e⟩
theorem aRf {bh:List Ib.Ev}{n:Int}:∀e∈Ib.kp bh n,e∈bh:=λe he=>by
 unfold Ib.kp Ib.nj at he;exact (Ib.Fl bh e).1 (Ib.aCQ (aNg.1 he).1)
theorem aQs (bh:List Ib.Ev)(n:Int): (kZ bh n).length<=bh.length/\ ∀I∈kZ bh n,∃e∈bh,e.time=I.time:=by
 unfold kZ Mv;split
 ·rename_i h;have ak:=(aOy h).1;generalize Classical.choose h=Rd at *;constructor
  ·rw[aLe,ak.length_eq];exact aLk (aPc _ _) (Ib.agy bh n)
  ·intro I ao;obtain⟨q,aV,rfl⟩:=aKZ.1 ao;obtain⟨e,he,G⟩:=aN2.1 (ak.mem_iff.1 aV);unfold Ib.kF at G;split at G
   ·cases G
   ·cases G;show ∃cO∈bh,cO.time=(Ib.wT (Ib.kp bh n) e.key).getD e.time;cases ad:Ib.wT (Ib.kp bh n) e.key with
    |none=>exact⟨e,aRf e he,rfl⟩
    |some t=>
     obtain⟨y,bt,bF⟩:=aSL ad;exact⟨y,aRf y bt,bF⟩
 ·simp
theorem aQt {aY:List Pr.Stamp}{t k:Int}(h:Pr.rP aY t k=true):t∈aY.map (·.time):=by
 unfold Pr.rP at h;rw[aNp] at h;obtain⟨I,ao,h⟩:=h;simp only[aKJ,aKN] at h;exact aKZ.2 ⟨I,ao,h.1⟩
theorem aPw {aY:List Pr.Stamp}{n:Int}(h:Pr.lb aY n=0):Pr.lx (Pr.nQ aY n)=0/\(Pr.nQ aY n).length<=aY.length/\(Pr.na (Pr.nQ aY n)).length<=aY.length/\ ∀p∈Pr.nQ aY n,p.R∈aY.map (·.time)/\p.ab∈aY.map (·.time):=by
 obtain⟨d,G,au,bv⟩:=Pr.aiT h;obtain⟨_,H1,aw,aH⟩:=Pr.aaI (aY:=aY) (n:=n) bv d G au;refine⟨H1,by omega,?_,λp ak=>⟨aQt (aw p ak).R,aQt (aw p ak).ab⟩⟩;have ao:fg (Pr.na (Pr.nQ aY n)) ⊆ aY.map (·.time):=λx aj=>by
  obtain⟨b,af,rfl⟩:=aKZ.1 aj;obtain⟨p,ak,af⟩:=aM1.1 af;exact aQt ((aw p ak).ey b af).1
 have:=(aQ2 (Pr.Ig (Pr.LU H1))).length_le_of_subset ao;simpa[fg] using this
theorem aRg {a b:Int}{p:Pr.dF}:∀{ds:List eX},((fI a b p ds).flatMap (·.aa)).Perm (ds.flatMap (·.aa)++[p])
 | []=>by simp[fI]
 |B::t=>by
  unfold fI;split
  ·simp only[aMR,aKT];exact List.Perm.append_left _ List.perm_append_comm
  ·simp only[aMR,aKT];exact List.Perm.append_left _ aRg
theorem aQu {M:cc}{ae:List cw}{e l:Int}{aa:List Pr.dF}:∀{c:Nat},c<=aa.length->((mY M ae e l (aa.take c)).flatMap (·.aa)).Perm (aa.take c)
 |0,_=>by simp[mY]
 |c+1,h=>by
  rw[RF (by omega),aLz (by omega)];exact aRg.trans ((aQu (by omega)).append_right _)
theorem aPx {a b:Int}{p:Pr.dF}{P:Int->Prop}(af:P b):∀{ds:List eX},(∀B∈ds,P B.ah)-> ∀B∈fI a b p ds,P B.ah
 | [],_,B,ay=>by
  rw[fI,aK2] at ay;subst ay;exact af
 |x::t,h,B,ay=>by
  unfold fI at ay;split at ay
  ·rcases aKV.1 ay with rfl|ay
   ·exact h x aLa
   ·exact h B (aK1 _ ay)
  ·rcases aKV.1 ay with rfl|ay
   ·exact h B aLa
   ·exact aPx af (λy bt=>h y (aK1 _ bt)) B ay
theorem aSM {M:cc}{ae:List cw}{e l:Int}{p:Pr.dF}(h:∀I∈ae,0<=I.ah/\I.ah<=84005):0<=L9 M ae e l p/\L9 M ae e l p<=84005:=by
 unfold L9;split
 ·rw[aLn];cases aw: (ae.map cw.ah)[(Ct M ae e l p).toNat]? with
  |none=>simp
  |some v=>
   obtain⟨I,ao,rfl⟩:=aKZ.1 (aMA aw);exact h I ao
 ·exact aSB M p.R
theorem aRh {M:cc}{ae:List cw}{e l:Int}{aa:List Pr.dF}(h:∀I∈ae,0<=I.ah/\I.ah<=84005):∀{c:Nat},c<=aa.length-> ∀B∈mY M ae e l (aa.take c),0<=B.ah/\B.ah<=84005
 |0,_,B,ay=>by simp[mY] at ay
 |c+1,av,B,ay=>by
  rw[RF (by omega)] at ay;exact aPx (P:=λx=>0<=x/\x<=84005) (aSM h) (aRh h (by omega)) B ay
theorem aRi {z:eD}{ae:List cw}:∀{ds:List eX},(∀B∈ds,AK z ae B=0)->(aM3 z ae ds).length<=2*((ds.flatMap (·.aa)).length+(Pr.na (ds.flatMap (·.aa))).length+16*ds.length)
 | [],_=>by simp[aM3]
 |B::t,h=>by
  have ih:=aRi (ds:=t) λx aj=>h x (aK1 _ aj);have aP: (AL z ae B).length<=_:=aSE (h B aLa);have bF:aM3 z ae (B::t)=(fg (AL z ae B)++aLR (AL z ae B))++aM3 z ae t:=rfl;have bK:Pr.na ((B::t).flatMap (·.aa))=Pr.na B.aa++Pr.na (t.flatMap (·.aa)):=by unfold Pr.na;rw[aMR,aMS]
  rw[bF,bK,aMR];simp only[aKK,fg,aLR,aLe,aK8];omega
structure aNU (z:eD) (ae:List cw) (ds:List eX) (bw:List wE×List Pr.bx):Prop where
 aMJ:aRj z ae ds 29453640 29470120 bw
 tk:bw.2.length<=720
 Ga:bw.1.length<=20
 eN:∀w∈bw.1,0<=w.ah/\w.ah<=84005
theorem aRk {z:eD}{ae:List cw}{bh:List Ib.Ev}{n:Int}(h:rE z ae bh n=0)(vT:bh.length<=20)(ht:∀e∈bh,29453760<=e.time/\e.time<=29470000)(ak:∀I∈ae,0<=I.ah/\I.ah<=84005):aNU z ae (tX z ae bh n) (nc z ae (tX z ae bh n)):=by
 obtain⟨an,Cv,mb,sF,LW⟩:=aaH h;have pM:Pr.lb (kZ bh n) z.fz=0/\AM z ae (tX z ae bh n)=0:=by
  unfold rE at h;split at h
  ·omega
  split at h
  ·omega
  split at h
  ·omega
  split at h
  ·omega
  rename_i d G au bv;exact⟨by omega,h⟩
 obtain⟨lo,vX⟩:=aQs bh n;obtain⟨aK6,iT,Ds,aJ6⟩:=aPw pM.1;have DO:=aPy pM.2;have aOd:tX z ae bh n=mY z.M ae z.er z.ex (Pr.nQ (kZ bh n) z.fz):=rfl;generalize Pr.nQ (kZ bh n) z.fz=P at *;have hC:=aQu (M:=z.M) (ae:=ae) (e:=z.er) (l:=z.ex) (aa:=P) (c:=P.length) (aKM _);have MA:=(H0 (M:=z.M) (ae:=ae) (e:=z.er) (l:=z.ex) (aa:=P) (c:=P.length) (aKM _)).1;have auH:=aRh (M:=z.M) (ae:=ae) (e:=z.er) (l:=z.ex) (aa:=P) ak (c:=P.length) (aKM _);rw[aLb] at hC MA auH;rw[<-aOd] at hC MA auH;generalize tX z ae bh n=ds at *;have hN:∀p∈P,29453760<=p.R/\p.R<p.ab/\p.ab<=29470000:=λp ak=>by
  obtain⟨a,b⟩:=aJ6 p ak;obtain⟨I,ao,bF⟩:=aKZ.1 a;obtain⟨aQv,xC,bK⟩:=aKZ.1 b;obtain⟨x,aj,es⟩:=vX I ao;obtain⟨y,bt,ig⟩:=vX aQv xC;have:=ht x aj;have:=ht y bt;have:=ZO (Pr.LU aK6) (by omega) p ak;omega
 have hW:∀B∈ds,Pr.dd 0 120968640 (AL z ae B)=true/\ ∀x∈AL z ae B,29453640<=x.R/\x.ab<=29470120:=λB ay=>by
  refine⟨(awC (DO B ay)).1,λx aj=> ?_⟩;have:=aSF (DO B ay) (ft:=29453760) (av:=29470000) (by omega) (λp ak=>hN p (hC.mem_iff.1 (aM1.2 ⟨B,ay,ak⟩))) x aj;omega
 have hX:=aRl hW (c:=ds.length) (aKM _);rw[aLb] at hX;have jI:=aRi DO;rw[hC.length_eq,(show (Pr.na (ds.flatMap (·.aa))).length=(Pr.na P).length from (hC.flatMap_right _).length_eq)] at jI;refine⟨hX,?_,?_,λw aP=> ?_⟩
 ·have:=(aQ2 hX.ok).length_le_of_subset (l₂:=aM3 z ae ds) λx aj=>by
   obtain⟨v,an,rfl⟩:=aKZ.1 aj;exact (hX.aNV v an).1
  simp only[fg,aLe] at this;omega
 ·have:=aaF (z:=z) (ae:=ae) (ds:=ds) (c:=ds.length) (aKM _);rw[aLb] at this;omega
 ·obtain⟨B,ay,e⟩:=hX.ah w aP;rw[e];exact auH B ay
open Go.Proofs.Tryz
theorem YC {l:List cw}{a b B:Int}:ai l++[[.int .i64 a,.int .i64 b,.int .i64 B]]=ai (l++[⟨a,b,B⟩]):=kT (x:=cw.mk a b B)
def QI:ByteArray:=⟨#[115,105,99,107]⟩
def QJ:ByteArray:=⟨#[108,101,97,118,101]⟩
def QK:ByteArray:=⟨#[111,116,49]⟩
def LC (a:eH):Prop:=(a.bk=1\/a.bk=2)/\20454<=a.ah/\a.ah<=20458/\(a.name=QI\/a.name=QJ\/a.name=QK)/\(a.min= -1\/a.min=480\/a.min=0\/a.min=60)
theorem aJC (l:List Int)(hl:mW l)(n:Int)(LD:0<=n)(aH:n<=1000)(az:Int)(h0:0<=az)(d:az<=l.length):aO prog 24 [.bd 0 1 0 0,.int .i64 n] [gp l az]
 (λv rs=> ∃(a:Int) (aq:List eH),v= .own 1 aq.length 0 aq.length/\rs=[gp l a,.ag 25 4 (ai aq)]/\0<=a/\a<=l.length/\aq.length<=n/\ ∀x∈aq,LC x):=by
 refine hJ func24 YD (by simp[a24,Hr]) ?_;simp only[go_sem,a24,Hr,gp];have Hs:IntKind.i64.wrap (n+1)=n+1:=bl
 (refine i ?_;simp only[go_sem])
 (refine i ?_;simp only[go_sem])
 rw[Hs]
 (refine lN (hi l hl (n+1) (by omega)) ?_;rintro _ az _ _ ⟨k,rfl,_,_⟩;simp only[go_sem])
 (refine i ?_;simp only[go_sem])
 refine hv (λD r=> ∃(a:Int) (aq:List eH) (j:Int),D=[(0,.bd 0 1 0 0),(5,.own 1 aq.length 0 aq.length),(6,.int .i64 j)]/\r=[dX 143 l a,.ag 25 4 (ai aq)]/\0<=a/\a<=l.length/\0<=j/\aq.length+j<=n/\ ∀x∈aq,LC x)
  (λD _=>match bs D 6 with| .int _ j=>j.toNat|_=>0) ?_ ?_
 ·(refine E.iv 5 25 4 rfl (E.eW [0,5,6] ?_);simp only[go_sem])
  exact i ⟨az,[],k,rfl,rfl,by omega,by omega,by omega,by simp;omega,by simp⟩
 rintro D r ⟨az,aq,j,rfl,rfl,_,_,_,jK,ts⟩;simp only[go_sem,a24,Hr]
 (refine i ?_;simp only[go_sem])
 refine dj ?_ ?_<;>intro aw<;>simp only[bC] at aw<;>simp only[go_sem,a24,Hr]
 ·(refine i ?_;simp only[go_sem])
  (refine xW (hi l hl 4 (by omega)) ?_;rintro _ az _ _ ⟨e,rfl,_,_⟩;simp only[go_sem])
  have he:e.tdiv 3=0\/e.tdiv 3=1:=by rw[aMn (by omega)];omega
  generalize e.tdiv 3=q at *;have atX:IntKind.i64.wrap q=q:=bl;have atY:IntKind.i64.wrap (1+q)=1+q:=bl;simp only[go_sem,atX,atY];refine⟨by omega,?_⟩
  (refine xW (hi l hl 5 (by omega)) ?_;rintro _ az _ _ ⟨B,rfl,_,_⟩;simp only[go_sem])
  have wx:IntKind.i64.wrap (20454+B)=20454+B:=bl;simp only[go_sem,wx]
  (refine xW (hi l hl 3 (by omega)) ?_;rintro _ az _ _ ⟨x,rfl,_,_⟩;simp only[go_sem])
  refine⟨by omega,by omega,?_⟩
  (refine G4 [-1,480,0,60] (aLs l hl _ (by simp) (by simp)) ?_;rintro _ az _ _ ⟨m,cg,rfl⟩;simp only[fR] at cg;simp only[go_sem])
  have hm:=cg;clear cg;rcases (show x=0\/x=1\/x=2 by omega) with rfl|rfl|rfl
  all_goals
   simp only[go_sem]
   try refine⟨by omega,?_⟩
  ·(refine E.bB [some 0,some 1] ?_;simp only[go_sem])
   (refine i ?_;simp only[go_sem])
   rw[bl];refine i ⟨⟨az,aq++[⟨1+q,20454+B,QI,m⟩],j-1,by simp,by rw[<-kT];rfl,by omega,by omega,by omega,by simp;omega,?_⟩,?_⟩
   ·intro y bt;rcases aK3.1 bt with bt|bt
    ·exact ts y bt
    ·rw[aK2] at bt;subst bt;refine⟨by simp only;omega,by simp only;omega,by simp only;omega,by simp,by simp only;omega⟩
   ·simp only[go_sem];omega
  ·(refine E.bB [some 0,some 1] ?_;simp only[go_sem])
   (refine i ?_;simp only[go_sem])
   rw[bl];refine i ⟨⟨az,aq++[⟨1+q,20454+B,QJ,m⟩],j-1,by simp,by rw[<-kT];rfl,by omega,by omega,by omega,by simp;omega,?_⟩,?_⟩
   ·intro y bt;rcases aK3.1 bt with bt|bt
    ·exact ts y bt
    ·rw[aK2] at bt;subst bt;refine⟨by simp only;omega,by simp only;omega,by simp only;omega,by simp,by simp only;omega⟩
   ·simp only[go_sem];omega
  ·(refine E.bB [some 0,some 1] ?_;simp only[go_sem])
   (refine i ?_;simp only[go_sem])
   rw[bl];refine i ⟨⟨az,aq++[⟨1+q,20454+B,QK,m⟩],j-1,by simp,by rw[<-kT];rfl,by omega,by omega,by omega,by simp;omega,?_⟩,?_⟩
   ·intro y bt;rcases aK3.1 bt with bt|bt
    ·exact ts y bt
    ·rw[aK2] at bt;subst bt;refine⟨by simp only;omega,by simp only;omega,by simp only;omega,by simp,by simp only;omega⟩
   ·simp only[go_sem];omega
 ·(refine i ?_;simp only[go_sem])
  (refine i ?_;simp only[go_sem])
  exact i ⟨az,aq,rfl,rfl,by omega,by omega,by omega,ts⟩
def wy (M:cc):Int->List cw->Int
 |e,[]=>e
 |_,I::l=>wy M (fW M I).ab l
theorem YE {M:cc}{I:cw}(ao:ew M I=0):∀{l:List cw} {e:Int},ou M e l=0->wy M e l<=(fW M I).R->ou M e (l++[I])=0/\wy M e (l++[I])=(fW M I).ab
 | [],e,_,h=>by
  rw[wy] at h;rw[aLV,ou,Rc ao,S (by omega),ou,wy,wy];exact⟨rfl,rfl⟩
 |x::l,e,h,G=>by
  rw[ou] at h;rw[wy] at G;rw[aLx,ou,wy]
  by_cases aj:ew M x=0
  ·rw[Rc aj] at h ⊢;split at h
   ·cases h
   ·rename_i au;rw[S au];exact YE ao h G
  ·rw[S aj] at h;exact absurd h aj
theorem atZ {t:Int}(h0:0<=t)(d:t<=120968639):uY ⟨0,[]⟩ t=t:=by
 unfold uY;rw[S (by omega)];simp only[ml,tA];rw[show max 0 (max t (-840)-0)=t by omega,Rc (by omega)]
theorem aua {I:cw}(h:yh I)(G:I.ah*1440+I.bw+I.cN<=120968640):ew ⟨0,[]⟩ I=0/\fW ⟨0,[]⟩ I=⟨I.ah*1440+I.bw,I.ah*1440+I.bw+I.cN⟩:=by
 have cR:=h;unfold yh at cR;have e:qB ⟨0,[]⟩ I=I.ah*1440+I.bw:=atZ (by omega) (by omega);have bF:ew ⟨0,[]⟩ I=0:=by
  unfold ew;rw[Rc (show fe ⟨0,[]⟩=0 from rfl),Rc h,e,S (by omega)]
 exact⟨bF,by unfold fW;rw[Rc bF,e]⟩
def LE (ae:List cw)(aW:Int):Prop:=ou ⟨0,[]⟩ 0 ae=0/\wy ⟨0,[]⟩ 0 ae<=aW
def Ht (ae:List cw)(B:Int):Prop:=LE ae ((20454+B)*1440+360)
theorem QL {ae:List cw}{aW:Int}{I:cw}(h:LE ae aW)(ao: (20454<=I.ah/\I.ah<=21000)/\(0<=I.bw/\I.bw<1440)/\1<=I.cN/\I.cN<=1440)(hN:aW<=I.ah*1440+I.bw)(e:Int)(he:I.ah*1440+I.bw+I.cN<=e):LE (ae++[I]) e:=by
 obtain⟨d,G⟩:=h;obtain⟨a,b⟩:=aua (I:=I) ⟨by omega,by omega,by omega⟩ (by omega);obtain⟨J,f⟩:=YE a d (by rw[b];simp only;omega);exact⟨J,by rw[f,b];simp only;omega⟩
theorem YF {ae:List cw}{B:Int}{I:cw}(h:Ht ae B)(ay:0<=B/\B<=500)(ao:I.ah=20454+B/\360<=I.bw/\I.bw<1440/\1<=I.cN/\I.cN<=1440)(e:Int)(he:I.ah*1440+I.bw+I.cN<=(20454+e)*1440+360):
 Ht (ae++[I]) e:=QL h (by omega) (by omega) _ he
theorem aub {ae:List cw}{B:Int}(h:Ht ae B)(hl:ae.length<=1024):jd ⟨0,[]⟩ ae=0:=by
 unfold jd;rw[S (by omega),Rc (show fe ⟨0,[]⟩=0 from rfl)];exact h.1
def Hu (ae:List cw)(B:Int):Prop:=(∀x,(ae.filter λI=>decide (I.ah=x)).length<=2)/\ ∀I∈ae,I.ah<20454+B
theorem QM {ae Rd:List cw}{B e:Int}(h:Hu ae B)(du:∀I∈Rd,I.ah=20454+B)(hl:Rd.length<=2)(he:B<e):Hu (ae++Rd) e:=by
 refine⟨λx=> ?_,λI ao=> ?_⟩
 ·rw[aOA,aKK];have d:=h.1 x
  by_cases aj:x=20454+B
  ·have:ae.filter (λI=>decide (I.ah=x))=[]:=aP9.2 λI ao=>by
    have:=h.2 I ao;simp;omega
   rw[this];have:=aNw (λI:cw=>decide (I.ah=x)) Rd;simp;omega
  ·have:Rd.filter (λI=>decide (I.ah=x))=[]:=aP9.2 λI ao=>by
    have:=du I ao;simp;omega
   rw[this];simpa using d
 ·rcases aK3.1 ao with ao|ao
  ·have:=h.2 I ao;omega
  ·have:=du I ao;omega
theorem auc {ae:List cw}{B e:Int}(h:Hu ae B)(he:B<=e):Hu ae e:=⟨h.1,λI ao=>by have:=h.2 I ao;omega⟩
def EL (I:cw):Prop:=20454<=I.ah/\I.ah<=20554/\1<=I.cN/\I.cN<=510
theorem aud (l:List Int)(hl:mW l)(n:Int)(LD:0<=n)(aH:n<=50)(az:Int)(h0:0<=az)(d:az<=l.length):aO prog 18 [.bd 0 1 0 0,.int .i64 n] [gp l az]
 (λv rs=> ∃(a:Int) (ae:List cw),v= .own 1 ae.length 0 ae.length/\rs=[gp l a,.ag 140 3 (ai ae)]/\0<=a/\a<=l.length/\ae.length<=2*n/\jd ⟨0,[]⟩ ae=0/\(∀x,(ae.filter λI=>decide (I.ah=x)).length<=2)/\ ∀I∈ae,EL I):=by
 refine hJ func18 YG (by simp[EM,Hv]) ?_;simp only[go_sem,EM,Hv,gp]
 (refine i ?_;simp only[go_sem])
 (refine i ?_;simp only[go_sem])
 refine i ?_
 try simp only[go_sem]
 refine hv (λD r=> ∃(a:Int) (ae:List cw) (B:Int),D=[(0,.bd 0 1 0 0),(1,.int .i64 n),(5,.own 1 ae.length 0 ae.length),(6,.int .i64 B)]/\r=[dX 143 l a,.ag 140 3 (ai ae)]/\0<=a/\a<=l.length/\0<=B/\B<=n+1/\ae.length<=2*B/\ae.length<=2*n/\Ht ae B/\Hu ae B/\ ∀I∈ae,EL I)
  (λD _=>match bs D 6 with| .int _ j=>(n+1-j).toNat|_=>0) ?_ ?_
 ·(refine E.iv 5 140 3 rfl (E.eW [0,1,5,6] ?_);simp only[go_sem])
  exact i ⟨az,[],0,rfl,rfl,by omega,by omega,by omega,by omega,by simp,by simp;omega,⟨rfl,by simp[wy]⟩,⟨by simp,by simp⟩,by simp⟩
 rintro D r ⟨az,ae,B,rfl,rfl,_,_,EN,LF,iK,Ci,EO,pM,kk⟩;simp only[go_sem,EM,Hv]
 (refine i ?_;simp only[go_sem])
 refine dj ?_ ?_<;>intro aw<;>simp only[bC] at aw<;>simp only[go_sem,EM,Hv]
 ·(refine i ?_;simp only[go_sem])
  (refine lN (hi l hl 5 (by omega)) ?_;rintro _ az _ _ ⟨J,rfl,_,_⟩;simp only[go_sem])
  have wx:IntKind.i64.wrap (20454+B)=20454+B:=bl;have LG:IntKind.i64.wrap (B+1)=B+1:=bl;have aue:IntKind.i64.wrap (B+1+1)=B+2:=by rw[bl];omega
  rcases (show J=0\/J=1\/J=2\/(3<=J/\J<5) by omega) with rfl|rfl|rfl|ad
  ·(refine i ?_;simp only[go_sem])
   (refine i ?_;simp only[go_sem])
   try rw[wx]
   (refine ja [480,360,450] (aLs l hl _ (by simp) (by simp)) ?_;rintro _ az _ _ ⟨I,cg,rfl⟩;simp only[fR] at cg;simp only[go_sem])
   have ao:I=480\/I=360\/I=450:=cg;clear cg
   (refine ja [480,510,300] (aLs l hl _ (by simp) (by simp)) ?_;rintro _ az _ _ ⟨m,cg,rfl⟩;simp only[fR] at cg;simp only[go_sem])
   have hm:m=480\/m=510\/m=300:=cg;clear cg;refine⟨by omega,?_⟩;rw[YC]
   (refine E.bB [some 0,some 1] ?_;simp only[go_sem])
   (refine i ?_;simp only[go_sem])
   rw[LG];refine i ⟨⟨az,_,B+1,by rw[aKK];rfl,rfl,by omega,by omega,by omega,by omega,?_,?_,YF EO (by omega) ?_ _ ?_,QM pM (by simp) (by simp) (by omega),?_⟩,?_⟩
   ·rw[aKK,aL6];omega
   ·rw[aKK,aL6];omega
   ·simp only[aMh];omega
   ·simp only;omega
   ·intro y bt;rcases aK3.1 bt with bt|bt
    ·exact kk y bt
    ·rw[aK2] at bt;subst bt;unfold EL;simp only;omega
   ·simp only[go_sem];omega
  ·(refine i ?_;simp only[go_sem])
   (refine i ?_;simp only[go_sem])
   (refine i ?_;simp only[go_sem])
   try rw[wx]
   refine⟨by omega,?_⟩;rw[YC]
   (refine E.bB [some 0,some 1] ?_;simp only[go_sem])
   (refine i ?_;simp only[go_sem])
   (refine i ?_;simp only[go_sem])
   rw[LG,aue];refine i ⟨⟨az,_,B+2,by rw[aKK];rfl,rfl,by omega,by omega,by omega,by omega,?_,?_,YF EO (by omega) ?_ _ ?_,QM pM (by simp) (by simp) (by omega),?_⟩,?_⟩
   ·rw[aKK,aL6];omega
   ·rw[aKK,aL6];omega
   ·simp only[aMh];omega
   ·simp only;omega
   ·intro y bt;rcases aK3.1 bt with bt|bt
    ·exact kk y bt
    ·rw[aK2] at bt;subst bt;unfold EL;simp only;omega
   ·simp only[go_sem];omega
  ·(refine i ?_;simp only[go_sem])
   (refine i ?_;simp only[go_sem])
   (refine i ?_;simp only[go_sem])
   (refine i ?_;simp only[go_sem])
   try rw[wx]
   (refine ja [240,60] (aLs l hl _ (by simp) (by simp)) ?_;rintro _ az _ _ ⟨m,cg,rfl⟩;simp only[fR] at cg;simp only[go_sem])
   have hm:m=240\/m=60:=cg;clear cg;refine⟨by omega,?_⟩;have aV:ai ae++[[.int .i64 (20454+B),.int .i64 360,.int .i64 240],[.int .i64 (20454+B),.int .i64 720,.int .i64 m]]=ai (ae++[⟨20454+B,360,240⟩]++[⟨20454+B,720,m⟩]):=by
    rw[<-kT,<-kT,aKT];rfl
   rw[aV]
   (refine E.bB [some 0,some 1] ?_;simp only[go_sem])
   (refine i ?_;simp only[go_sem])
   rw[LG];have d:LE (ae++[⟨20454+B,360,240⟩]) ((20454+B)*1440+600):=QL EO (by simp only;omega) (by simp only;omega) _ (by simp only;omega);have G:Ht (ae++[⟨20454+B,360,240⟩]++[⟨20454+B,720,m⟩]) (B+1):=QL d (by simp only;omega) (by simp only;omega) _ (by simp only;omega);have cK: (ae++[(⟨20454+B,360,240⟩:cw)]++[(⟨20454+B,720,m⟩:cw)]).length=ae.length+2:=by simp
   refine i ⟨⟨az,_,B+1,by rw[cK],rfl,by omega,by omega,by omega,by omega,by rw[cK];omega,by rw[cK];omega,G,by rw[aKT];exact QM pM (by simp) (by simp) (by omega),?_⟩,?_⟩
   ·intro y bt;rcases aK3.1 bt with bt|bt
    ·rcases aK3.1 bt with bt|bt
     ·exact kk y bt
     ·rw[aK2] at bt;subst bt;unfold EL;simp only;omega
    ·rw[aK2] at bt;subst bt;unfold EL;simp only;omega
   ·simp only[go_sem];omega
  ·have iI: (J==0)=false:=aLO.2 (by omega);have bF: (J==1)=false:=aLO.2 (by omega);have bK: (J==2)=false:=aLO.2 (by omega);refine i ?_;simp only[go_sem,iI,bF,bK];refine i ?_;simp only[go_sem,iI,bF,bK];refine i ?_;simp only[go_sem,iI,bF,bK];refine i ?_;simp only[go_sem,iI,bF,bK];refine i ?_;simp only[go_sem,iI,bF,bK];refine i ?_;simp only[go_sem,iI,bF,bK];rw[LG];obtain⟨d,G⟩:=EO;refine⟨⟨az,ae,B+1,rfl,rfl,by omega,by omega,by omega,by omega,by omega,by omega,⟨d,by omega⟩,auc pM (by omega),kk⟩,by omega⟩
 ·(refine i ?_;simp only[go_sem])
  (refine i ?_;simp only[go_sem])
  exact i ⟨az,ae,rfl,rfl,by omega,by omega,Ci,aub EO (by omega),pM.1,kk⟩
end Go.Proofs.YtpincjkjoeopkaaGreatDoor
