/- Presences and working time. -/
import Derived.Test.YtpincjkjoeopkaaGreatDoorC29
set_option linter.all false
namespace Go.Proofs.YtpincjkjoeopkaaGreatDoor.Pr
open Go Go.Abs
def HS (f:Int->Bool):Nat->Int
 |0=>0
 |n+1=>HS f n+(if f n then 1 else 0)
theorem aSm {f g:Int->Bool}(h:∀t,f t=true->g t=true):∀n,HS f n<=HS g n
 |0=>aMe _
 |n+1=>by
  have ih:=aSm h n;rw[HS,HS];cases hf:f n
  ·simp only[aLK,aLi];split<;>omega
  ·rw[h _ hf];simp only[aK5];omega
theorem aQU {f g:Int->Bool}(h:∀t,f t=g t)(n:Nat):HS f n=HS g n:=by rw[show f=g from funext h]
theorem aPO {f g:Int->Bool}(h:∀t,f t=true->g t=true->False):∀n,HS (λt=>f t||g t) n=HS f n+HS g n
 |0=>rfl
 |n+1=>by
  rw[HS,HS,HS,aPO h n];cases hf:f n<;>cases aw:g n
  ·simp
  ·simp;omega
  ·simp;omega
  ·exact (h _ hf aw).elim
theorem aQV {v:bx}(h0:0<=v.R)(d:v.R<=v.ab):∀n:Nat,HS (qi v) n=max (min v.ab n-v.R) 0
 |0=>by rw[HS];omega
 |n+1=>by
  rw[HS,aQV h0 d n]
  by_cases h:v.R<=n/\(n:Int)<v.ab
  ·rw[show qi v n=true from aLf h,Rc rfl];omega
  ·rw[show qi v n=false from aLh h,S (by simp)];omega
theorem aQW {f:Int->Bool}(h:∀t,f t=false):∀n,HS f n=0
 |0=>rfl
 |n+1=>by rw[HS,aQW h n,h];simp
theorem aQX:∀{l:List bx} {e aW:Int} {cs:Nat},dd e aW l=true->0<=e->aW<=cs->HS (fE l) cs=da l
 | [],_,_,cs,_,_,_=>aQW (λ_=>rfl) cs
 |v::l,e,aW,cs,h,he,hN=>by
  simp only[dd,hR,aKJ,aKN] at h;have ih:=aQX (cs:=cs) h.2 (by omega) hN;have bF:HS (fE (v::l)) cs=HS (λt=>qi v t||fE l t) cs:=aQU (λ_=>rfl) cs;rw[bF,aPO,ih,aQV (by omega) (by omega),da]
  ·omega
  ·intro t d G;simp only[qi,aKN] at d;rw[Uz h.2 (by omega)] at G;cases G
def Vf (aa:List dF):List bx:=aa.map λp=>⟨p.R,p.ab⟩
theorem aSn:∀{aa:List dF} {e:Int},io e aa=true->dd e 120968640 (Vf aa)=true
 | [],_,_=>rfl
 |p::aa,e,h=>by
  simp only[io,tL,hR,aKJ,aKN] at h;show (hR ⟨p.R,p.ab⟩ e 120968640&&dd p.ab 120968640 (Vf aa))=true;rw[aKJ];exact⟨aLf (by simp only;omega),aSn h.2⟩
theorem aSo:∀{l:List bx},aMs l=da l
 | []=>rfl
 |v::l=>by rw[aMs,da,aSo]
def aLo:List dF->Int
 | []=>0
 |p::aa=>aMv p+aLo aa
theorem aSp:∀{aa:List dF} {e:Int} {cs:Nat},io e aa=true->0<=e->120968640<=cs->HS (λt=>fE (Vf aa) t&& !fE (na aa) t) cs=aLo aa
 | [],_,cs,_,_,_=>aQW (λ_=>rfl) cs
 |p::aa,e,cs,h,he,fS=>by
  have cR:=h;simp only[io,aKJ] at h;have tG:tL 0 p=true:=by
   have:=h.1;simp only[tL,hR,aKJ,aKN] at this ⊢;exact⟨⟨by omega,this.1.2⟩,this.2⟩
  simp only[tL,hR,aKJ,aKN] at h;have ih:=aSp (cs:=cs) h.2 (by omega) fS;have cn:=aSn h.2;have hp:=Ig h.2;have aTR:∀t,(fE (Vf (p::aa)) t&& !fE (na (p::aa)) t)=((qi ⟨p.R,p.ab⟩ t&& !fE p.ey t)||(fE (Vf aa) t&& !fE (na aa) t)):=by
   intro t;show ((qi ⟨p.R,p.ab⟩ t||fE (Vf aa) t)&& !fE (p.ey++na aa) t)=_;rw[N9]
   by_cases ht:t<p.ab
   ·rw[Uz cn ht,Uz hp ht];simp
   ·have af:fE p.ey t=false:=by
     cases ad:fE p.ey t
     ·rfl
     ·obtain⟨b,af,d,G⟩:=Oa.1 ad;have:=xe h.1.2 b af;omega
    rw[show qi ⟨p.R,p.ab⟩ t=false from aLh (by simp only;omega),af];simp
  have Gq:HS (λt=>qi ⟨p.R,p.ab⟩ t&& !fE p.ey t) cs=aMv p:=by
   have d:HS (qi ⟨p.R,p.ab⟩) cs=HS (λt=>(qi ⟨p.R,p.ab⟩ t&& !fE p.ey t)||fE p.ey t) cs:=by
    refine aQU (λt=> ?_) cs;cases ad:fE p.ey t
    ·simp
    ·obtain⟨b,af,d,G⟩:=Oa.1 ad;have:=xe h.1.2 b af;rw[show qi ⟨p.R,p.ab⟩ t=true from aLf (by simp only;omega)];rfl
   rw[aPO (λt d G=>by rw[G] at d;simp at d),aQV (by simp only;omega) (by simp only;omega),aQX (cs:=cs) h.1.2 (by omega) (by omega)] at d;rw[aMv,Rc (aPP.2 tG),aSo];simp only at d;omega
  rw[aQU aTR,aPO,Gq,ih,aLo];intro t d G;simp only[qi,aKJ,aKN] at d G;rw[Uz cn (by omega)] at G;cases G.1
theorem aRb:∀{l:List bx},gz l->aMk l=da l
 | [],_=>rfl
 |v::l,h=>by
  have an:=h v (by simp);rw[aMk,da,show hR v 0 120968640=true from aLf an,Rc rfl,aRb (λx aj=>h x (by simp[aj]))]
theorem aTm {p:dF}:0<=aMv p/\aMv p<=120968640:=by
 rw[aMv];split
 ·rename_i h;have an:=aPP.1 h;simp only[tL,hR,aKJ,aKN] at an;have:=aOU an.2 (by omega);omega
 ·omega
theorem aRS:∀{aa:List dF} {p:dF},aLo (aa++[p])=aLo aa+aMv p
 | [],p=>by simp[aLo]
 |q::aa,p=>by rw[aLx,aLo,aLo,aRS];omega
theorem aSq {dl:List lR}{ae:bx}:∀{aa:List dF} {last t:Int},fE (kB ⟨0,0,0,dl⟩ ae last aa) t=true->fE (Vf aa) t=true
 | [],_,t,h=>by simp[kB,fE] at h
 |p::aa,last,t,h=>by
  have ih:=aSq (dl:=dl) (ae:=ae) (aa:=aa) (last:=max last (mo ⟨0,0,0,dl⟩ ae last p).ab) (t:=t);show (qi ⟨p.R,p.ab⟩ t||fE (Vf aa) t)=true;rw[aLP];have g:∀t e,um ⟨0,0,0,dl⟩ t e=t:=λt e=>by unfold um;rw[Rc rfl]
  rw[kB] at h;split at h
  ·rw[fE,aLP] at h;rcases h with h|h
   ·left
    unfold mo qi at h;simp only[g,aKN] at h;unfold qi;simp only[aKN];obtain⟨d,G⟩:=h;constructor
    ·split at d<;>omega
    ·split at G<;>omega
   ·exact .inr (ih h)
  ·exact .inr (ih h)
theorem aRv:∀{a b:List dF},aLo (a++b)=aLo a+aLo b
 | [],b=>by simp[aLo]
 |p::a,b=>by rw[aLx,aLo,aLo,aRv];omega
theorem aSZ {a b:List dF}(h:a.Perm b):aLo a=aLo b:=by
 induction h with
 |nil=>rfl
 |cons x _ ih=>rw[aLo,aLo,ih]
 |swap x y l=>rw[aLo,aLo,aLo,aLo];omega
 |trans _ _ OX gm=>exact OX.trans gm
theorem aS0 {dl:List lR}{ae:bx}{aa:List dF}(kX:lz (-1) 0 dl=true)(ak:io 0 aa=true)(aA:dd 0 120968640 (pb ⟨0,0,0,dl⟩ ae aa)=true):da (pb ⟨0,0,0,dl⟩ ae aa)<=aLo aa:=by
 rw[<-aQX (cs:=120968640) aA (by omega) (by omega),<-aSp (cs:=120968640) ak (by omega) (by omega)];refine aSm (λt h=> ?_) _;obtain⟨a,b⟩:=ajf (z:=[]) (e:=0) (Ig ak) (HP (z:=⟨0,0,0,dl⟩) (ae:=ae) (aa:=aa) (last:=0)) (by omega) UA;have cR:fE (mx (kB ⟨0,0,0,dl⟩ ae 0 aa) (na aa) []) t=true:=by
  unfold pb at h;simp only at h;split at h
  ·simp[fE] at h
  ·exact (UC kX ⟨_,a⟩).2 t h
 rw[b] at cR;simp only[fE,aNd,aKJ,aMH] at cR;simp only[aKJ,aMH];exact⟨aSq cR.1,cR.2⟩
end Go.Proofs.YtpincjkjoeopkaaGreatDoor.Pr
namespace Go.Proofs.YtpincjkjoeopkaaGreatDoor
open Go Go.Abs
def aPz (I:Ib.ga):Pr.bx:=⟨I.R,I.ab⟩
theorem Ii:∀al:List wE,(Ib.gU (al.map aat)).map aPz=al.flatMap λw=>w.gM
 | []=>rfl
 |w::al=>by
  have ih:=Ii al;show (Ib.qb (aat w)++Ib.gU (al.map aat)).map aPz=w.gM++al.flatMap λw=>w.gM;rw[aLU,ih];congr 1;unfold Ib.qb aat;rw[aLr,aLr];exact List.map_id _
theorem aPA:∀Rd:List Ib.ga,Ib.hz Rd=Pr.da (Rd.map aPz)
 | []=>rfl
 |I::Rd=>by rw[Ib.hz,aKP,Pr.da,aPA Rd];rfl
theorem aQq:∀{al:List wE} {w:wE},w∈al->w.gM.length<=(al.flatMap λw=>w.gM).length
 |x::al,w,h=>by
  rw[aMR,aKK];rcases aKV.1 h with rfl|h
  ·omega
  ·have:=aQq h;omega
theorem aRm {z:eD}{ae:List cw}{ds:List eX}{bw:List wE×List Pr.bx}(h:aNU z ae ds bw):Ib.ew (bw.1.map aat)=0/\(Ib.gU (bw.1.map aat)).length<=720/\ ∀I∈Ib.gU (bw.1.map aat),0<=I.ah/\I.ah<=84005/\29453640<=I.R/\I.R<I.ab/\I.ab<=29470120:=by
 have hf:=Ii bw.1;have ak:=h.aMJ.aOI;have hall:=wG h.aMJ.ok;have hl: (Ib.gU (bw.1.map aat)).length<=720:=by
  have:=aKI List.length hf;rw[aLe,<-ak.length_eq] at this;have:=h.tk;omega
 have qE:∀w∈bw.1,∀x∈w.gM,29453640<=x.R/\x.R<x.ab/\x.ab<=29470120:=λw aP x aj=>by
  have hm:=ak.mem_iff.2 (aM1.2 ⟨w,aP,aj⟩);have:=h.aMJ.aOJ x hm;have:=hall x hm;omega
 have nu:Pr.dd 29453640 29470120 bw.2=true:=Se (λx aj=>by have:=h.aMJ.aOJ x aj;have:=hall x aj;omega) (Ix h.aMJ.ok);have hN:=aOK nu (by omega);refine⟨?_,hl,λI ao=> ?_⟩
 ·unfold Ib.ew;rw[S,S,S,S,S]
  ·rw[aPA,hf,<-aOL ak];omega
  ·have ay: ((Ib.gU (bw.1.map aat)).map aPz).Pairwise nR:=by
    rw[hf];exact (ak.pairwise_iff (λh=>abO h)).1 ((Ix h.aMJ.ok).imp λh=> .inl h)
   exact λJ=>J ((aMB.1 ay).imp λh=>h)
  ·refine λJ=>J λw aP=> ?_;obtain⟨x,aj,rfl⟩:=aKZ.1 aP;refine⟨h.eN x aj,λv an=> ?_⟩;obtain⟨y,bt,rfl⟩:=aKZ.1 an;have:=qE x aj y bt;unfold Ib.iB;simp only[Si];omega
  ·rintro⟨w,aP,ad⟩;obtain⟨x,aj,rfl⟩:=aKZ.1 aP;have d:=aQq aj;rw[<-ak.length_eq] at d;have G:=h.tk;simp only[aat,aLe] at ad;omega
  ·rw[aLe];have:=h.Ga;omega
 ·unfold Ib.gU at ao;obtain⟨w',aul,ao⟩:=aM1.1 ao;obtain⟨w,aP,rfl⟩:=aKZ.1 aul;obtain⟨v,an,rfl⟩:=aKZ.1 ao;obtain⟨x,aj,rfl⟩:=aKZ.1 an;have d:=h.eN w aP;have G:=qE w aP x aj;exact⟨d.1,d.2,G⟩
def aOM (a b:Ib.ga):Bool:=decide (a.R<=b.R)
theorem aRn {al:List Ib.fv}(h:Ib.ew al=0): (Ao al).Perm (Ib.gU al):=by
 obtain⟨_,_,au,bv,_⟩:=Ib.Ij h;have aRo:∃Rd:List Ib.ga,Rd.Perm (Ib.gU al)/\Ib.sE Rd:=by
  have ak: ((Ib.gU al).mergeSort aOM).Perm (Ib.gU al):=aN7 _ _;have ao:=aOz (le:=aOM) (λa b J d G=>by simp only[aOM,aKN] at *;omega) (λa b=>by simp only[aOM,aLP,aKN];omega) (Ib.gU al);refine⟨_,ak,?_⟩;have ay:=(Ib.ahl ak).2 bv;unfold Ib.sE;refine (ao.and ay).imp_of_mem λ{a b} aC af pv=> ?_;have d:=(Ib.Ii au a (ak.mem_iff.1 aC)).1;have G:=(Ib.Ii au b (ak.mem_iff.1 af)).1;obtain⟨c1,c2⟩:=pv;simp only[aOM,aKN] at c1;unfold Ib.pg at c2;unfold Ib.iB at d G;omega
 unfold Ao;rw[aN0 aRo];exact (aOy aRo).1
theorem aRp (B:Int):∀al:List wE,Ib.aL7 B (Ib.gU (al.map aat))=(al.map λw=>if w.ah=B then Pr.da w.gM else 0).sum
 | []=>rfl
 |w::al=>by
  have ih:=aRp B al;show Ib.aL7 B (Ib.qb (aat w)++Ib.gU (al.map aat))=_;rw[Ib.aRq,ih,aKP,aMf];congr 1;unfold Ib.qb aat;simp only[aLr];generalize w.gM=l
  induction l with
  |nil=>simp[Ib.aL7,Pr.da]
  |cons v l DC=>
   rw[aKP,Ib.aL7,DC,Pr.da];simp only[aMZ,Si];split<;>omega
theorem aQw {z:eD}{ae:List cw}{bh:List Ib.Ev}{n:Int}(an:Ib.lA z.ia=0)(cU:aNU z ae (tX z ae bh n) (nc z ae (tX z ae bh n))):
 (fT z ae bh n).length<=4096/\(∀p∈fT z ae bh n,0<=p.ah/\p.ah<=84005/\29453640<=p.R/\p.R<p.ab/\p.ab<=29470120)/\ ∀B,Ib.aL3 B (fT z ae bh n)=((nc z ae (tX z ae bh n)).1.map λw=>if w.ah=B then Pr.da w.gM else 0).sum:=by
 obtain⟨d,G,au⟩:=aRm cU;have ak:=aRn d;have aj:∀I∈Ao ((nc z ae (tX z ae bh n)).1.map aat),I.ah∈(nc z ae (tX z ae bh n)).1.map wE.ah:=λI ao=>by
  have:=ak.mem_iff.1 ao;unfold Ib.gU at this;obtain⟨w',aul,ao⟩:=aM1.1 this;obtain⟨w,aP,rfl⟩:=aKZ.1 aul;obtain⟨v,an,rfl⟩:=aKZ.1 ao;exact aKZ.2 ⟨w,aP,rfl⟩
 have e:fT z ae bh n=(Ib.run z.ia (Ib.kE (Ao ((nc z ae (tX z ae bh n)).1.map aat)))).aa:=rfl;have hl:=Ib.aSN (Ib.aDw an) aj;have aP:=cU.Ga;have hm:=λB=>Ib.aSO z.ia (B:=B) (ft:=29453640) (av:=29470120) (Ib.kE (Ao ((nc z ae (tX z ae bh n)).1.map aat))) (Ib.aSP λI ao=>⟨aj I ao,(au I (ak.mem_iff.1 ao)).2.2.1,(au I (ak.mem_iff.1 ao)).2.2.2.2⟩);rw[<-e] at hl hm;rw[ak.length_eq,aLe] at hl;refine⟨by omega,λp aSQ=> ?_,λB=> ?_⟩
 ·have:=(hm 0).1 p aSQ;obtain⟨w,aP,aT3⟩:=aKZ.1 this.1;have:=cU.eN w aP;omega
 ·rw[(hm B).2,Ib.aRr B (λI ao=>(au I (ak.mem_iff.1 ao)).2.2.2.1),Ib.aSR ak,aRp]
theorem aRs:∀(aa:List Ib.cF),Pm.nn (aa.map tV)=Ib.aMr aa
 | []=>rfl
 |p::aa=>by
  have ih:=aRs aa;unfold Pm.nn at *;rw[aKP,aKP,aMf,ih,Ib.aMr];rfl
theorem aSS {z:eD}{ae:List cw}{bh:List Ib.Ev}{n:Int}(aP:z.al=[])(h:rE z ae bh n=0)(cU:aNU z ae (tX z ae bh n) (nc z ae (tX z ae bh n))):rG z ae bh n=0:=by
 obtain⟨an,_⟩:=aaH h;obtain⟨ba,_,_,nL,xx⟩:=Mr an;obtain⟨d,G,au⟩:=aRm cU;obtain⟨bF,bK,gX⟩:=aQw nL cU;have dp:pf z ae bh n=(nc z ae (tX z ae bh n)).1.map aat:=rfl;unfold rG;rw[S (by simp[h]),S (by rw[dp];simp[d])];unfold Pm.vh;rw[Rc xx];unfold Pm.vi;rw[aLe,S (by omega),Rc,S]
 ·rw[aRs];have e:fT z ae bh n=(Ib.run z.ia (Ib.kE (Ao ((nc z ae (tX z ae bh n)).1.map aat)))).aa:=rfl;have ak:=aRn d;rw[e,Ib.aST,Ib.Sj (λI ao=>by have:=au I (ak.mem_iff.1 ao);unfold Ib.iB;omega)];have ao:=(Ib.Ij d).2.2.2.2;have aV:∀{a b:List Ib.ga},a.Perm b->Ib.hz a=Ib.hz b:=λpv=>by rw[aPA,aPA];exact aOL (pv.map _)
  rw[aV ak];omega
 ·intro p ak;obtain⟨q,aV,rfl⟩:=aKZ.1 ak;have:=bK q aV;unfold Pm.oE tV;simp only;omega
def aNz (l:List nb):Int:=(l.map nb.m).sum
theorem aRc (M:cc)(h:List Pm.cX)(aa:List Pm.cF):Pm.tW M h [] aa=[]:=by
 unfold Pm.tW;simp[Pm.ox]
theorem aSU {aa:List Ib.cF}{B:Int}:B∈iO aa↔ ∃p∈aa,p.ah=B:=by
 unfold iO;have:∀(aa:List Ib.cF) (Y:List Int),B∈aa.foldl (λY p=>ek p.ah Y) Y↔B∈Y\/ ∃p∈aa,p.ah=B:=by
  intro aa
  induction aa with
  |nil=>intro Y;simp
  |cons p aa ih=>
   intro Y;rw[aMb,ih];have:B∈ek p.ah Y↔B=p.ah\/B∈Y:=by
    unfold ek;split
    ·exact⟨.inr,λh=>h.elim (λe=>by rw[e];assumption) id⟩
    ·rw[aK3,aK2];exact Or.comm
   rw[this];constructor
   ·rintro ((h|h)|⟨q,aV,h⟩)
    ·exact .inr ⟨p,aLa,h.symm⟩
    ·exact .inl h
    ·exact .inr ⟨q,aK1 _ aV,h⟩
   ·rintro (h|⟨q,aV,h⟩)
    ·exact .inl (.inr h)
    ·rcases aKV.1 aV with rfl|aV
     ·exact .inl (.inl h.symm)
     ·exact .inr ⟨q,aV,h⟩
 rw[this];simp
theorem aRt {B:Int}:∀{aa:List Ib.cF},(¬ ∃p∈aa,p.ah=B)->Ib.aL3 B aa=0
 | [],_=>rfl
 |p::aa,h=>by
  rw[Ib.aL3,S (λJ=>h ⟨p,aLa,J⟩),aRt (fun⟨q,aV,J⟩=>h ⟨q,aK1 _ aV,J⟩)];omega
theorem aSV {z:eD}{ae:List cw}{bh:List Ib.Ev}{n:Int}(aP:z.al=[])(h:rE z ae bh n=0)(cU:aNU z ae (tX z ae bh n) (nc z ae (tX z ae bh n))){R ab:Int}{x:CK}(aj:x∈jp z ae bh [] n R ab):
 aNz x.eg=((nc z ae (tX z ae bh n)).1.map λw=>if w.ah=x.ah then Pr.da w.gM else 0).sum:=by
 obtain⟨an,_⟩:=aaH h;obtain⟨_,_,_,nL,_⟩:=Mr an;obtain⟨bF,bK,gX⟩:=aQw nL cU;unfold jp at aj;obtain⟨B,_,ay⟩:=aN2.1 aj;unfold pl at ay;split at ay
 ·cases ay
 cases ay;simp only;rw[<-gX B];have Ut:lB z ae bh n=[]:=by unfold lB;rw[aP];exact aRc _ _ _
 unfold ne;rw[Ut];have hm:An (nP ae n B [])=[]:=rfl;rw[hm];simp only[List.filter_nil,aLC,aLY]
 by_cases ay:B∈iO (fT z ae bh n)
 ·rw[Rc (by simpa using ay)];have:aNz ((Ib.pQ (fT z ae bh n) B).map λt=>(⟨t.name,t.min⟩:nb))=Ib.aM4 (Ib.pQ (fT z ae bh n) B):=by
   unfold aNz Ib.aM4;rw[aLr];rfl
  rw[this,Ib.aSW bF λp ak=>by have:=bK p ak;unfold Ib.iB;omega]
 ·rw[S (by simpa using ay),aRt (λJ=>ay (aSU.2 J))];rfl
def aLq (z:eD):eD:= {z with dK:=⟨0,0,0,z.dK.iA⟩}
theorem aRu {z:eD}{ae:List cw}:∀{ds:List eX},(∀B∈ds,AK z ae B=0)->AM z ae ds=0
 | [],_=>rfl
 |B::t,h=>by rw[AM,Rc (h B aLa),aRu λx aj=>h x (aK1 _ aj)]
theorem aSX {z:eD}{ae:List cw}{bh:List Ib.Ev}{n:Int}(h:rE z ae bh n=0)(ht:∀e∈bh,29453760<=e.time/\e.time<=29470000):rE (aLq z) ae bh n=0:=by
 obtain⟨an,Cv,mb,_,_⟩:=aaH h;obtain⟨aMp,rU,v3,v4,v5⟩:=Mr an;obtain⟨yn,kX,nK⟩:=Pr.LS v3;have aB7:Pr.mq (aLq z).dK=0:=by
  unfold Pr.mq;rw[S (show ¬16<(aLq z).dK.iA.length by show ¬16<z.dK.iA.length;omega),Rc ⟨⟨.inl ⟨rfl,rfl⟩,by simp[aLq],by simp[aLq]⟩,kX⟩]
 have gl:qL (aLq z)=0:=by
  unfold qL;rw[S (show ¬fe (aLq z).M≠0 by show ¬fe z.M≠0;omega),S (show ¬rF (aLq z) from rU),S (by omega),S (show ¬Ib.lA (aLq z).ia≠0 by show ¬Ib.lA z.ia≠0;omega)];exact v5
 have pM:Pr.lb (kZ bh n) z.fz=0/\AM z ae (tX z ae bh n)=0:=by
  unfold rE at h;split at h
  ·omega
  split at h
  ·omega
  split at h
  ·omega
  split at h
  ·omega
  rename_i d G au bv;exact⟨by omega,h⟩
 have aOd:tX (aLq z) ae bh n=tX z ae bh n:=rfl;have aj:AM (aLq z) ae (tX z ae bh n)=0:=by
  have DO:=aPy pM.2;refine aRu λB ay=> ?_;have h0:=DO B ay;obtain⟨cH,ff,a3,a4⟩:=Pr.Sc h0;obtain⟨lo,vX⟩:=aQs bh n;obtain⟨aK6,iT,Ds,aJ6⟩:=aPw pM.1;have apw:=(aaj (M:=z.M) (ae:=ae) (e:=z.er) (l:=z.ex) (aa:=Pr.nQ (kZ bh n) z.fz) (c:=(Pr.nQ (kZ bh n) z.fz).length) (aKM _) B (by rw[aLb];exact ay)).1;rw[aLb] at apw;have hN:∀p∈B.aa,29453760<=p.R/\p.R<p.ab/\p.ab<=29470000:=λp ak=>by
   have ak:=apw.subset ak;obtain⟨a,b⟩:=aJ6 p ak;obtain⟨I,ao,bF⟩:=aKZ.1 a;obtain⟨aQv,xC,bK⟩:=aKZ.1 b;obtain⟨x,aj,es⟩:=vX I ao;obtain⟨y,bt,ig⟩:=vX aQv xC;have:=ht x aj;have:=ht y bt;have:=ZO (Pr.LU aK6) (by omega) p ak;omega
  have Ad:=aPs (Pr.LS aB7).1 (ae:=rA z.M ae B) (ft:=29453760) (av:=29470000) (by omega) (aa:=B.aa) (last:=0) hN;have hp:=Pr.HP (z:=(aLq z).dK) (ae:=rA z.M ae B) (aa:=B.aa) (last:=0);have hall:=wG hp;have nu:Pr.dd 29453640 29470120 (Pr.kB (aLq z).dK (rA z.M ae B) 0 B.aa)=true:=Se (λx aj=>by have:=Ad x aj;have:=hall x aj;omega) (Ix hp);have qE:=aOK nu (by omega);unfold AK Pr.qD;rw[S (by omega),S,S (by omega),S (show ¬100000<Pr.da (Pr.kB (aLq z).dK (rA (aLq z).M ae B) 0 B.aa) by show ¬100000<Pr.da (Pr.kB (aLq z).dK (rA z.M ae B) 0 B.aa);omega)];rintro⟨c1,c2⟩;rcases ff with J|J
  ·exact c1 J
  ·have c2:Pr.hR (rA z.M ae B) 0 120968640=false:=c2;rw[J] at c2;cases c2
 unfold rE;rw[S (by omega),S (show ¬jd (aLq z).M ae≠0 by show ¬jd z.M ae≠0;omega),S (by omega),S (show ¬Pr.lb (kZ bh n) (aLq z).fz≠0 by show ¬Pr.lb (kZ bh n) z.fz≠0;omega),aOd];exact aj
theorem aSY {z:eD}{ae:List cw}{bh:List Ib.Ev}{n:Int}(h:rE (aLq z) ae bh n=0)(cU:aNU (aLq z) ae (tX (aLq z) ae bh n) (nc (aLq z) ae (tX (aLq z) ae bh n))):
 (((nc (aLq z) ae (tX (aLq z) ae bh n)).1).map λw=>Pr.da w.gM).sum<=Pr.aLo (Pr.nQ (kZ bh n) z.fz):=by
 have an:=(aaH h).1;obtain⟨aMp,rU,v3,v4,v5⟩:=Mr an;obtain⟨yn,kX,nK⟩:=Pr.LS v3;have pM:Pr.lb (kZ bh n) z.fz=0/\AM (aLq z) ae (tX (aLq z) ae bh n)=0:=by
  unfold rE at h;split at h
  ·omega
  split at h
  ·omega
  split at h
  ·omega
  split at h
  ·omega
  rename_i d G au bv;have bv:¬Pr.lb (kZ bh n) z.fz≠0:=bv;exact⟨by omega,h⟩
 obtain⟨aK6,_⟩:=aPw pM.1;have DO:=aPy pM.2;have hC:=aQu (M:=z.M) (ae:=ae) (e:=z.er) (l:=z.ex) (aa:=Pr.nQ (kZ bh n) z.fz) (c:=(Pr.nQ (kZ bh n) z.fz).length) (aKM _);have zm:=awA (M:=z.M) (ae:=ae) (e:=z.er) (l:=z.ex) aK6;rw[aLb] at hC;have aOd:tX (aLq z) ae bh n=mY z.M ae z.er z.ex (Pr.nQ (kZ bh n) z.fz):=rfl;rw[<-aOd] at hC zm;have Tz:=cU.aMJ.sum;have kV:=cU.aMJ.aOI;generalize tX (aLq z) ae bh n=ds at *;have bF:∀al:List wE,(al.map λw=>Pr.da w.gM).sum=Pr.da (al.flatMap λw=>w.gM):=by
  intro al
  induction al with
  |nil=>rfl
  |cons w al ih=>rw[aKP,aMf,aMR,Pr.UM,ih]
 rw[bF,<-aOL kV,<-Pr.aSZ hC];refine aP8 Tz ?_;clear Tz kV cU hC pM bF aOd
 induction ds with
 |nil=>simp[Pr.aLo]
 |cons B ds ih=>
  have ay:=DO B aLa;have:=Pr.aS0 (ae:=rA (aLq z).M ae B) kX (Pr.LU (zm B aLa).1) (awC ay).1;rw[aKP,aMf,aMR,Pr.aRv];have ih:=ih (λx aj=>DO x (aK1 _ aj)) (λx aj=>zm x (aK1 _ aj));have:Pr.da (AL (aLq z) ae B)<=Pr.aLo B.aa:=this;omega
end Go.Proofs.YtpincjkjoeopkaaGreatDoor
namespace Go.Proofs.YtpincjkjoeopkaaGreatDoor.Ib
open Go Go.Abs Go.Proofs.Tryz
theorem aTK {l:List Ev}(h:cL l=0):∀e∈l,iD e:=by
 unfold cL at h;split at h
 ·omega
 ·split at h
  ·next G=>
   unfold po at G;rw[aLW] at G;exact λe he=>aNc (G e he)
  ·omega
theorem aR8 {n:Int}{C:List Ev}{c:Nat}(h:c<C.length):nj n (C.take (c+1))=if C[c].bk=n then nj n (C.take c)++[C[c]] else nj n (C.take c):=by
 rw[aLz h,aCv]
theorem aR9 (y x:Ev):ed [.int .i64 y.iq,.int .i64 y.eg] [.int .i64 x.cZ,.int .i64 x.Y]=decide (y.qa=x.key):=agJ y.qa x.key
theorem aTj (l:List Ev)(hl:l.length<=9223372036854775807)(n:Int):aO prog 28 [.pure 7 (ai l),.int .i64 n] [] (agT l n):=by
 refine hJ func28 azz (by simp[a28,N1]) ?_;unfold agT;simp only[go_sem,a28,N1]
 repeat (refine i ?_;simp only[go_sem])
 refine bM (aTw l hl) rfl rfl ?_
 by_cases ad:cL l=0
 rotate_left
 ·have af: (cL l != 0)=true:=by simpa using ad
  simp only[go_sem]
  repeat (refine i ?_;simp only[go_sem])
  simp only[go_sem,af]
  repeat (refine i ?_;simp only[go_sem])
  exact aKG rfl (.inl ⟨ad,rfl,rfl⟩)
 have cK:=aCB ad;have hval:∀e∈iE (fr l),iD e:=λe he=>aTK ad e ((Fl l e).1 (aCQ he));rw[ad];simp only[go_sem,aMm]
 repeat (refine i ?_;simp only[go_sem])
 have AO:=aCU (Nt l);have IT: (iE (fr l)).length<=l.length:=by
  have G:∀cQ:List Ev,(iE cQ).length<=cQ.length:=by
   intro cQ
   induction cQ using vq with
   |h0=>simp[iE]
   |d cQ x ih=>rw[Nr];split<;>simp<;>omega
  have au:=G (fr l);have bv:=Tb l;omega
 have lI:=aTy l (by omega);unfold kp;generalize iE (fr l)=C at *
 (refine rv (lI) ?_;rintro _ _ ⟨rfl,rfl⟩;simp only[go_sem])
 (refine aL1 [] [0] ?_;simp only[go_sem])
 generalize aSa:nj n C=bm at *
 repeat (refine i ?_;simp only[go_sem])
 refine hv (λD r=> ∃(c:Nat) (Rd:List Stamp),c<=C.length/\Rd.length<=c/\Rd.Perm ((nj n (C.take c)).filterMap (kF bm))/\Rd.Pairwise ni/\D=[(1,.int .i64 n),(7,.pure 7 (ai C)),(8,.own 0 Rd.length 0 Rd.length),(9,.int .i64 c)]/\r=[.ag 177 4 (ai Rd)])
  (λD _=>match bs D 9 with| .int _ j=>(C.length-j).toNat|_=>0) ?_ ?_
 ·(refine E.iv 8 177 4 rfl (E.eW [1,7,8,9] ?_);simp only[go_sem])
  exact i ⟨0,[],by omega,by simp,by simp[nj],by simp,rfl,rfl⟩
 rintro D r ⟨c,Rd,av,Ag,aNB,aOf,rfl,rfl⟩;have dn:=dB (c:=c) (by omega);simp only[go_sem,a28,N1]
 repeat (refine i ?_;simp only[go_sem])
 refine dj ?_ ?_<;>intro aw<;>simp only[bC] at aw<;>simp only[go_sem,a28,N1]
 rotate_left
 ·have ht:C.take c=C:=aLZ (by omega);rw[ht,aSa] at aNB
  repeat (refine i ?_;simp only[go_sem])
  exact i (.inr ⟨Rd,aNB,aOf,rfl,rfl⟩)
 have aI:c<C.length:=by omega
 have h0: (0:Int)<=c:=by omega
 have d: (c:Int)<C.length:=by omega
 have aKH: (ai C).getD c []=aJ.J C[c]:=cT aI;have aSb:=aR8 (n:=n) aI;have aTL:=hval _ (aLc aI);have xq:∀I∈Rd,pZ I.key C[c].key:=by
  intro I ao;have vX:=aNB.mem_iff.1 ao;obtain⟨y,bt,kN⟩:=aN2.1 vX;rw[(agY kN).1];have aTM:y∈C.take c:=(aNg.1 bt).1;obtain⟨q,aV,rfl⟩:=aOF.1 aTM;rw[aLd] at aV;rw[aOc];exact aN4.1 AO q c (by omega) aI (by omega)
 generalize C[c]=x at *
 (refine i ?_;simp only[go_sem])
 simp only[go_sem,h0,d,aKH,rJ];have aQJ: (x.bk≠n\/kF bm x=none)->(nj n (C.take (c+1))).filterMap (kF bm)=(nj n (C.take c)).filterMap (kF bm):=by
  intro h;rw[aSb];rcases h with h|h
  ·rw[S h]
  ·split
   ·rw[aPk];simp[h]
   ·rfl
 by_cases aH:x.bk=n
 rotate_left
 ·have af: (x.bk != n)=true:=by simpa using aH
  have De:=aQJ (.inl aH)
  (refine i ?_;simp only[go_sem])
  simp only[go_sem,af]
  (refine E.bB [some 0] ?_;simp only[go_sem])
  repeat (refine i ?_;simp only[go_sem])
  simp only[go_sem,dn];exact⟨⟨c+1,Rd,by omega,by omega,by rw[De];exact aNB,aOf,rfl,rfl⟩,by omega⟩
 have af: (x.bk != n)=false:=by simpa using aH
 by_cases Rz:4<x.cB
 ·have rX:decide (4<x.cB)=true:=aLf Rz;have kx:kF bm x=none:=by
   unfold kF;rw[Rc];unfold iD at aTL;omega
  have De:=aQJ (.inr kx)
  (refine i ?_;simp only[go_sem])
  simp only[go_sem,af,rX]
  (refine E.bB [some 0] ?_;simp only[go_sem])
  repeat (refine i ?_;simp only[go_sem])
  simp only[go_sem,dn];exact⟨⟨c+1,Rd,by omega,by omega,by rw[De];exact aNB,aOf,rfl,rfl⟩,by omega⟩
 have rX:decide (4<x.cB)=false:=aLh Rz
 (refine i ?_;simp only[go_sem])
 simp only[go_sem,af,rX]
 repeat (refine i ?_;simp only[go_sem])
 refine hv (λD r=> ∃(k:Nat),k<=C.length/\D=[(1,.int .i64 n),(7,.pure 7 (ai C)),(8,.own 0 Rd.length 0 Rd.length),(9,.int .i64 c),(10,.bd 1 1 0 0),(11,.bool (wS (nj n (C.take k)) x.key)),(12,.int .i64 k)]/\r=[.ag 177 4 (ai Rd),.ag 71 7 [[.int .i64 x.cZ,.int .i64 x.Y,.int .i64 x.bk,.int .i64 ((wT (nj n (C.take k)) x.key).getD x.time),.int .i64 x.cB,.int .i64 x.iq,.int .i64 x.eg]]])
  (λD _=>match bs D 12 with| .int _ j=>(C.length-j).toNat|_=>0) ?_ ?_
 ·exact i ⟨0,by omega,rfl,rfl⟩
 rintro D r ⟨k,O,rfl,rfl⟩;have nH:=dB (c:=k) (by omega);simp only[go_sem,a28,N1]
 repeat (refine i ?_;simp only[go_sem])
 refine dj ?_ ?_<;>intro ct<;>simp only[bC] at ct<;>simp only[go_sem,a28,N1]
 ·have aSc:k<C.length:=by omega
  have z0: (0:Int)<=k:=by omega
  have mn: (k:Int)<C.length:=by omega
  have nM: (ai C).getD k []=aJ.J C[k]:=cT aSc;have aMg:=aR8 (n:=n) aSc;generalize C[k]=y at *;have eK:=aCJ (nj n (C.take k)) y x.key;have mg:=aCK (nj n (C.take k)) y x.key;generalize nj n (C.take k)=iZ at *
  (refine i ?_;simp only[go_sem])
  simp only[go_sem,z0,mn,nM,rJ]
  by_cases aPN:y.bk=n
  rotate_left
  ·have sX: (y.bk==n)=false:=aLO.2 aPN;rw[S aPN] at aMg
   (refine i ?_;simp only[go_sem])
   simp only[go_sem,sX]
   (refine E.bB [some 0,some 1] ?_;simp only[go_sem])
   repeat (refine i ?_;simp only[go_sem])
   simp only[go_sem,nH];exact⟨⟨k+1,by omega,by rw[aMg],by rw[aMg]⟩,by omega⟩
  have sX: (y.bk==n)=true:=aLu.2 aPN;rw[Rc aPN] at aMg
  by_cases aOg:y.qa=x.key
  rotate_left
  ·have BH:decide (y.qa=x.key)=false:=aLh aOg;rw[S (λh=>aOg h.2)] at mg;have aNl:wS (iZ++[y]) x.key=wS iZ x.key:=by rw[eK];simp[aOg]
   (refine i ?_;simp only[go_sem])
   simp only[go_sem,sX,aCq,aR9,BH]
   (refine E.bB [some 0,some 1] ?_;simp only[go_sem])
   repeat (refine i ?_;simp only[go_sem])
   simp only[go_sem,nH];exact⟨⟨k+1,by omega,by rw[aMg,aNl],by rw[aMg,mg]⟩,by omega⟩
  have BH:decide (y.qa=x.key)=true:=aLf aOg
  (refine i ?_;simp only[go_sem])
  simp only[go_sem,sX,aCq,aR9,BH]
  by_cases cx:y.cB=5
  ·have uc: (y.cB==5)=true:=aLu.2 cx;have AP: (y.cB==6)=false:=aLO.2 (by omega);rw[S (λh=>by omega)] at mg;have aNl:wS (iZ++[y]) x.key=true:=by rw[eK];simp[aOg,cx]
   cases aOh:wS iZ x.key
   ·(refine i ?_;simp only[go_sem])
    simp only[go_sem,uc]
    (refine i ?_;simp only[go_sem])
    simp only[go_sem,AP]
    (refine E.bB [some 0,some 1] ?_;simp only[go_sem])
    repeat (refine i ?_;simp only[go_sem])
    simp only[go_sem,nH];exact⟨⟨k+1,by omega,by rw[aMg,aNl],by rw[aMg,mg]⟩,by omega⟩
   ·(refine i ?_;simp only[go_sem])
    (refine i ?_;simp only[go_sem])
    simp only[go_sem,AP]
    (refine E.bB [some 0,some 1] ?_;simp only[go_sem])
    repeat (refine i ?_;simp only[go_sem])
    simp only[go_sem,nH];exact⟨⟨k+1,by omega,by rw[aMg,aNl],by rw[aMg,mg]⟩,by omega⟩
  have uc: (y.cB==5)=false:=aLO.2 cx;have aNl:wS (iZ++[y]) x.key=wS iZ x.key:=by rw[eK];simp[cx]
  by_cases dx:y.cB=6
  ·have AP: (y.cB==6)=true:=aLu.2 dx;rw[Rc ⟨dx,aOg⟩] at mg;cases aOh:wS iZ x.key
   ·(refine i ?_;simp only[go_sem])
    simp only[go_sem,uc]
    (refine i ?_;simp only[go_sem])
    simp only[go_sem,AP]
    (refine i ?_;simp only[go_sem])
    (refine E.bB [some 0,some 1] ?_;simp only[go_sem])
    repeat (refine i ?_;simp only[go_sem])
    simp only[go_sem,nH];exact⟨⟨k+1,by omega,by rw[aMg,aNl,aOh],by rw[aMg,mg];rfl⟩,by omega⟩
   ·(refine i ?_;simp only[go_sem])
    (refine i ?_;simp only[go_sem])
    simp only[go_sem,AP]
    (refine i ?_;simp only[go_sem])
    (refine E.bB [some 0,some 1] ?_;simp only[go_sem])
    repeat (refine i ?_;simp only[go_sem])
    simp only[go_sem,nH];exact⟨⟨k+1,by omega,by rw[aMg,aNl,aOh],by rw[aMg,mg];rfl⟩,by omega⟩
  have AP: (y.cB==6)=false:=aLO.2 dx;rw[S (λh=>dx h.1)] at mg;cases aOh:wS iZ x.key
  ·(refine i ?_;simp only[go_sem])
   simp only[go_sem,uc]
   (refine i ?_;simp only[go_sem])
   simp only[go_sem,AP]
   (refine E.bB [some 0,some 1] ?_;simp only[go_sem])
   repeat (refine i ?_;simp only[go_sem])
   simp only[go_sem,nH];exact⟨⟨k+1,by omega,by rw[aMg,aNl,aOh],by rw[aMg,mg]⟩,by omega⟩
  ·(refine i ?_;simp only[go_sem])
   (refine i ?_;simp only[go_sem])
   simp only[go_sem,AP]
   (refine E.bB [some 0,some 1] ?_;simp only[go_sem])
   repeat (refine i ?_;simp only[go_sem])
   simp only[go_sem,nH];exact⟨⟨k+1,by omega,by rw[aMg,aNl,aOh],by rw[aMg,mg]⟩,by omega⟩
 have nF:C.take k=C:=aLZ (by omega);rw[nF,aSa];clear nH ct nF O
 by_cases ob:wS bm x.key=true
 ·have kx:kF bm x=none:=by
   unfold kF;rw[Rc (.inr (.inr ob))]
  have De:=aQJ (.inr kx);rw[ob]
  (refine i ?_;simp only[go_sem])
  (refine i ?_;simp only[go_sem])
  (refine E.bB [some 0] ?_;simp only[go_sem])
  repeat (refine i ?_;simp only[go_sem])
  simp only[go_sem,dn];exact⟨⟨c+1,Rd,by omega,by omega,by rw[De];exact aNB,aOf,rfl,rfl⟩,by omega⟩
 have aSd:wS bm x.key=false:=by simpa using ob
 rw[aSd];have rW:kF bm x=some ⟨(wT bm x.key).getD x.time,x.cB,x.cZ,x.Y⟩:=by
  unfold kF;rw[S (by simp[aSd];omega)]
 have aSe: (nj n (C.take (c+1))).filterMap (kF bm)=(nj n (C.take c)).filterMap (kF bm)++[⟨(wT bm x.key).getD x.time,x.cB,x.cZ,x.Y⟩]:=by
  rw[aSb,Rc aH,aPk];simp[rW]
 (refine i ?_;simp only[go_sem])
 (refine i ?_;simp only[go_sem])
 (refine i ?_;simp only[go_sem])
 generalize (wT bm x.key).getD x.time=tm at *;generalize QF: (⟨tm,x.cB,x.cZ,x.Y⟩:Stamp)=I at *;have xq:∀q∈Rd,pZ q.key I.key:=by rw[<-QF];exact xq
 have hrow: ([.int .i64 tm,.int .i64 x.cB,.int .i64 x.cZ,.int .i64 x.Y]:List F)=aJ.J I:=by rw[<-QF];rfl
 rw[hrow]
 (refine E.bB [some 0,some 2] ?_;simp only[go_sem])
 repeat (refine i ?_;simp only[go_sem])
 refine hv (λD r=> ∃k:Nat,k<=Rd.length/\(∀q (h:q<Rd.length),k<=q->I.time<Rd[q].time)/\D=[(1,.int .i64 n),(7,.pure 7 (ai C)),(8,.own 0 Rd.length 0 Rd.length),(9,.int .i64 c),(14,.bd 1 1 0 0),(15,.int .i64 k)]/\r=[.ag 177 4 (ai Rd),.ag 177 4 [aJ.J I]])
  (λD _=>match bs D 15 with| .int _ j=>j.toNat|_=>0) ?_ ?_
 ·exact i ⟨Rd.length,by omega,λq h G=>by omega,rfl,rfl⟩
 rintro D r ⟨k,O,UB,rfl,rfl⟩;have nH:=dB (c:=k) (by omega);rcases aNJ k with Cm|Cm
 ·have ay:decide ((0:Int)<k)=false:=aK7;simp only[go_sem,a28,N1,ay]
  repeat (refine i ?_;simp only[go_sem])
  have jK: (Rd++[(⟨0,0,0,0⟩:Stamp)]).length=Rd.length+1:=by simp
  have sf:k+(Rd.length+1-k)=Rd.length+1:=by omega
  have wD:k+1+(Rd.length+1-(k+1))=Rd.length+1:=by omega
  refine⟨by omega,?_⟩;rw[agV]
  repeat (refine i ?_;simp only[go_sem])
  simp only[go_sem,nH,jK,sf]
  repeat (refine And.intro (by first|rfl|omega) ?_)
  have aNX:List.take (min (List.take (Rd.length+1-k) (List.drop k (Rd++[(⟨0,0,0,0⟩:Stamp)]))).length (Rd.length+1-(k+1))) (List.take (Rd.length+1-k) (List.drop k (Rd++[(⟨0,0,0,0⟩:Stamp)])))=Rd.drop k:=aPp O (by simp only[aLd,aLt,jK];omega) (by simp only[aLd,aLt,jK];omega);rw[aNX];have ta:=aPq (M:=(⟨0,0,0,0⟩:Stamp)) O;have ayQ:=aPr (M:=(⟨0,0,0,0⟩:Stamp)) (x:=I) O;generalize KY (Rd++[(⟨0,0,0,0⟩:Stamp)]) (k+1) (Rd.drop k)=al at ta ayQ ⊢;have LZ:k<al.length:=by omega
  have C7: (ai al).getD k []=aJ.J al[k]:=cT LZ;have zI:∀x:Stamp,List.drop 4 (aJ.J x)=[]:=λ_=>rfl;have sF:Rd.length+1=(Rd.take k++I::Rd.drop k).length:=by rw[<-ayQ,aLg,ta]
  have aQK: (Rd.take k++I::Rd.drop k).Pairwise ni:=aR0 aOf O xq UB (λh=>by omega);have aQL: (Rd.take k++I::Rd.drop k).Perm ((nj n (C.take (c+1))).filterMap (kF bm)):=by
   refine List.perm_middle.trans ?_;rw[aMt,aSe];exact ((List.Perm.cons I aNB).trans (List.perm_append_singleton I _).symm)
  (refine E.bB [some 0,some 1] ?_;simp only[go_sem])
  repeat (refine i ?_;simp only[go_sem])
  have z0: (0:Int)<=((k:Nat):Int):=by omega
  have mn: ((k:Nat):Int)<((Rd.length+1:Nat):Int):=by omega
  simp only[go_sem,C7,z0,mn,ta];rw[zI,aLY,xS,ayQ,sF]
  (refine E.bB [some 0] ?_;simp only[go_sem])
  repeat (refine i ?_;simp only[go_sem])
  simp only[go_sem,dn];exact⟨⟨c+1,_,by omega,by omega,aQL,aQK,rfl,rfl⟩,by omega⟩
 ·obtain⟨k,rfl⟩:∃j,k=j+1:=⟨k-1,by omega⟩;have ay:decide ((0:Int)<((k+1:Nat):Int))=true:=aLv;have pV:IntKind.i64.wrap (((k+1:Nat):Int)-1)=k:=by rw[bl];omega
  have BS: (0:Int)<=k:=by omega
  have MT: (k:Int)<Rd.length:=by omega
  have aSf: (ai Rd).getD k []=aJ.J (Rd[k]'(by omega)):=cT (by omega);have auF:aJ.J I=[.int .i64 I.time,.int .i64 I.cB,.int .i64 I.cZ,.int .i64 I.Y]:=rfl
  by_cases aQM:I.time<(Rd[k]'(by omega)).time
  ·have Sv:decide (I.time<(Rd[k]'(by omega)).time)=true:=aLf aQM;simp only[go_sem,a28,N1,ay,pV,BS,MT,aSf,Nn,Sv]
   repeat (refine i ?_;simp only[go_sem])
   simp only[go_sem,pV];exact⟨⟨k,by omega,λq h aV=>by
    by_cases aQN:q=k
    ·subst aQN;exact aQM
    ·exact UB q h (by omega),rfl⟩,by omega⟩
  ·have Sv:decide (I.time<(Rd[k]'(by omega)).time)=false:=aLh aQM;simp only[go_sem,a28,N1,ay,pV,BS,MT,aSf,Nn,Sv];rw[<-auF]
   repeat (refine i ?_;simp only[go_sem])
   have jK: (Rd++[(⟨0,0,0,0⟩:Stamp)]).length=Rd.length+1:=by simp
   have sf: (k+1)+(Rd.length+1-(k+1))=Rd.length+1:=by omega
   have wD: (k+1)+1+(Rd.length+1-((k+1)+1))=Rd.length+1:=by omega
   refine⟨by omega,?_⟩;rw[agV]
   repeat (refine i ?_;simp only[go_sem])
   simp only[go_sem,nH,jK,sf]
   repeat (refine And.intro (by first|rfl|omega) ?_)
   have aNX:List.take (min (List.take (Rd.length+1-(k+1)) (List.drop (k+1) (Rd++[(⟨0,0,0,0⟩:Stamp)]))).length (Rd.length+1-((k+1)+1))) (List.take (Rd.length+1-(k+1)) (List.drop (k+1) (Rd++[(⟨0,0,0,0⟩:Stamp)])))=Rd.drop (k+1):=aPp O (by simp only[aLd,aLt,jK];omega) (by simp only[aLd,aLt,jK];omega);rw[aNX];have ta:=aPq (M:=(⟨0,0,0,0⟩:Stamp)) O;have ayQ:=aPr (M:=(⟨0,0,0,0⟩:Stamp)) (x:=I) O;generalize KY (Rd++[(⟨0,0,0,0⟩:Stamp)]) ((k+1)+1) (Rd.drop (k+1))=al at ta ayQ ⊢;have LZ: (k+1)<al.length:=by omega
   have C7: (ai al).getD (k+1) []=aJ.J al[(k+1)]:=cT LZ;have zI:∀x:Stamp,List.drop 4 (aJ.J x)=[]:=λ_=>rfl;have sF:Rd.length+1=(Rd.take (k+1)++I::Rd.drop (k+1)).length:=by rw[<-ayQ,aLg,ta]
   have aQK: (Rd.take (k+1)++I::Rd.drop (k+1)).Pairwise ni:=aR0 aOf O xq UB (λh=>by simp only[aP5];omega);have aQL: (Rd.take (k+1)++I::Rd.drop (k+1)).Perm ((nj n (C.take (c+1))).filterMap (kF bm)):=by
    refine List.perm_middle.trans ?_;rw[aMt,aSe];exact ((List.Perm.cons I aNB).trans (List.perm_append_singleton I _).symm)
   (refine E.bB [some 0,some 1] ?_;simp only[go_sem])
   repeat (refine i ?_;simp only[go_sem])
   have z0: (0:Int)<=(((k+1):Nat):Int):=by omega
   have mn: (((k+1):Nat):Int)<((Rd.length+1:Nat):Int):=by omega
   simp only[go_sem,C7,z0,mn,ta];rw[zI,aLY,xS,ayQ,sF]
   (refine E.bB [some 0] ?_;simp only[go_sem])
   repeat (refine i ?_;simp only[go_sem])
   simp only[go_sem,dn];exact⟨⟨c+1,_,by omega,by omega,aQL,aQK,rfl,rfl⟩,by omega⟩
end Go.Proofs.YtpincjkjoeopkaaGreatDoor.Ib
