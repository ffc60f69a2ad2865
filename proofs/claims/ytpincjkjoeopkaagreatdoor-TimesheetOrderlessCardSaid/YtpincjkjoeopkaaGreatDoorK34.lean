/- Presences and working time. -/
import Derived.Test.YtpincjkjoeopkaaGreatDoorK32
import Derived.Test.YtpincjkjoeopkaaGreatDoorK33
set_option linter.unusedSimpArgs false
set_option linter.unusedVariables false
set_option linter.unusedSectionVars false
namespace Go.Proofs.YtpincjkjoeopkaaGreatDoor.Pr
open Go Go.Abs
def pz (v:bs)(t:Int):Bool:=decide (v.J≤t∧t < v.T)
def fv:List bs→Int→Bool
 | [],_=>false
 |v::l,t=>pz v t||fv l t
theorem M8: ∀ {l i:List bs} {t:Int},fv (l++i) t=(fv l t||fv i t)
 | [],_,_=>by simp[fv]
 |v::l,i,t=>by rw[List.cons_append,fv,fv,M8,Bool.or_assoc]
theorem M9: ∀ {l:List bs} {t:Int},fv l t=true↔ ∃ v∈l,v.J≤t∧t < v.T
 | [],t=>by simp[fv]
 |v::l,t=>by
  rw[fv,Bool.or_eq_true,M9,pz,decide_eq_true_eq];constructor
  ·rintro (h|⟨x,ad,h⟩)
   ·exact⟨v,by simp,h⟩
   ·exact⟨x,by simp[ad],h⟩
  ·rintro⟨x,ad,h⟩;rcases List.mem_cons.1 ad with rfl|ad
   ·exact .inl h
   ·exact .inr ⟨x,ad,h⟩
theorem Tu {l:List bs}{e t aP:Int}(h:cV e aP l=true)(ht:t < e):fv l t=false:=by
 cases V:fv l t
 ·rfl
 ·obtain⟨v,ag,h1,B⟩:=M9.1 V;have:=vU h v ag;omega
structure aI9 (l:List bs) (e:Int):Prop where
 Q7:l.Pairwise fun u v=>u.T < v.J
 wK: ∀ v∈l,v.J < v.T
 uA: ∀ v∈l,v.T≤e
theorem aI9.mono {l:List bs}{e cA:Int}(h:aI9 l e)(he:e≤cA):aI9 l cA:=⟨h.Q7,h.wK,fun v ag=>Int.le_trans (h.uA v ag) he⟩
theorem Tv {e:Int}:aI9 [] e:=⟨List.Pairwise.nil,by simp,by simp⟩
theorem Ih {l:List bs}{e:Int}{v:bs}(h:aI9 l e)(ag:e≤v.J):aI9 (jm l v) (max e v.T)∧ ∀ t,fv (jm l v) t=(fv l t||pz v t):=by
 by_cases aB:v.T≤v.J
 ·rw[Na aB];refine⟨h.mono (by omega),fun t=> ?_⟩;rw[pz,decide_eq_false (by omega),Bool.or_false]
 ·rcases List.eq_nil_or_concat l with rfl|⟨bX,u,rfl⟩
  ·rw[Nb (by omega)];exact⟨⟨by simp,by simp;omega,by simp;omega⟩,fun t=>by simp[fv]⟩
  ·rw[List.concat_eq_append] at h ⊢;rw[Nc (by omega)];obtain⟨ak,hne,Tw⟩:=h;rw[List.pairwise_append] at ak;obtain⟨kN,_,uX⟩:=ak;have Xi:=hne u (by simp);have aIZ:=Tw u (by simp);split
   ·rename_i he;refine⟨⟨?_,?_,?_⟩,fun t=> ?_⟩
    ·rw[List.pairwise_append];refine⟨kN,by simp,fun a aw b Z=> ?_⟩;simp only[List.mem_singleton] at Z;subst Z;exact uX a aw u (by simp)
    ·intro x ad;simp only[List.mem_append,List.mem_singleton] at ad;rcases ad with ad|rfl
     ·exact hne x (by simp[ad])
     ·simp only;omega
    ·intro x ad;simp only[List.mem_append,List.mem_singleton] at ad;rcases ad with ad|rfl
     ·have:=Tw x (by simp[ad]);omega
     ·simp only;omega
    ·rw[M8,M8,Bool.or_assoc];congr 1;simp only[fv,pz,Bool.or_false];rw[Bool.eq_iff_iff];simp only[Bool.or_eq_true,decide_eq_true_eq];omega
   ·rename_i he;refine⟨⟨?_,?_,?_⟩,fun t=> ?_⟩
    ·rw[List.pairwise_append,List.pairwise_append];refine⟨⟨kN,by simp,uX⟩,by simp,fun a aw b Z=> ?_⟩;simp only[List.mem_singleton] at Z;subst Z;simp only[List.mem_append,List.mem_singleton] at aw;rcases aw with aw|rfl
     ·have:=uX a aw u (by simp);omega
     ·omega
    ·intro x ad;simp only[List.mem_append,List.mem_singleton] at ad;rcases ad with (ad|rfl)|rfl
     ·exact hne x (by simp[ad])
     ·exact Xi
     ·omega
    ·intro x ad;simp only[List.mem_append,List.mem_singleton] at ad;rcases ad with (ad|rfl)|rfl
     ·have:=Tw x (by simp[ad]);omega
     ·omega
     ·omega
    ·rw[M8];simp[fv]
theorem ahM: ∀ {os:List bs} {cA aP e dM:Int} {v:bs} {i:List bs},cV cA aP os=true→(∀ L∈os,v.J < L.T)→aI9 i e→e≤v.J→e≤dM→v.T≤dM→
 aI9 (nN os v i) dM∧ ∀ t,fv (nN os v i) t=(fv i t||(pz v t&& !fv os t))
 | [],cA,aP,e,dM,v,i,_,_,G,h1,B,am=>by
  rw[nN];obtain⟨a,b⟩:=Ih G h1;exact⟨a.mono (by omega),fun t=>by rw[b];simp[fv]⟩
 |L::os,cA,aP,e,dM,v,i,Z,bi,G,h1,B,am=>by
  simp only[cV,hz,Bool.and_eq_true,decide_eq_true_eq] at Z;have tq:=bi L (by simp);rw[nN];split
  ·rename_i aC;obtain⟨a,b⟩:=Ih (v:=⟨v.J,L.J⟩) G h1;obtain⟨F,o⟩:=ahM (e:=max e L.J) (dM:=dM) (v:=⟨L.T,v.T⟩) Z.2 (fun x ad=>by have:=vU Z.2 x ad;simp only;omega) a (by simp only;omega) (by omega) (by simp only;omega);refine⟨F,fun t=> ?_⟩;rw[o,b,Bool.or_assoc];congr 1
   by_cases ht:t < L.T
   ·rw[fv,Tu Z.2 ht,Bool.or_false,Bool.not_false,Bool.and_true,Bool.eq_iff_iff];simp only[pz,Bool.or_eq_true,Bool.and_eq_true,Bool.not_eq_true',decide_eq_true_eq,decide_eq_false_iff_not];omega
   ·rw[fv,show pz L t=false from decide_eq_false (by omega),Bool.false_or,show pz ⟨v.J,L.J⟩ t=false from decide_eq_false (by simp only;omega),Bool.false_or];congr 1;rw[Bool.eq_iff_iff];simp only[pz,decide_eq_true_eq];omega
  ·rename_i aC;obtain⟨a,b⟩:=Ih G h1;refine⟨a.mono (by omega),fun t=> ?_⟩;rw[b];congr 1;cases an:pz v t
   ·rfl
   ·simp only[pz,decide_eq_true_eq] at an;rw[fv,Tu Z.2 (by omega),show pz L t=false from decide_eq_false (by omega)];rfl
theorem ahN: ∀ {os:List bs} {f t:Int},f≤t→fv (rb f os) t=fv os t
 | [],_,_,_=>rfl
 |L::os,f,t,h=>by
  rw[rb];split
  ·rw[ahN h,fv,show pz L t=false from decide_eq_false (by omega),Bool.false_or]
  ·rfl
theorem ahO: ∀ {l os i:List bs} {e cA aP Ii:Int},cV cA aP os=true→cV e Ii l=true→e≤Ii→aI9 i e→
 aI9 (lL l os i) Ii∧ ∀ t,fv (lL l os i) t=(fv i t||(fv l t&& !fv os t))
 | [],os,i,e,cA,aP,Ii,_,_,hv,G=>⟨G.mono hv,fun t=>by simp[lL,fv]⟩
 |v::l,os,i,e,cA,aP,Ii,bi,hl,hv,G=>by
  simp only[cV,hz,Bool.and_eq_true,decide_eq_true_eq] at hl;obtain⟨h1,B⟩:=Ij (f:=v.J) bi;obtain⟨a,b⟩:=ahM (dM:=v.T) h1 B G hl.1.1 (by omega) (by omega);obtain⟨F,o⟩:=ahO h1 hl.2 (by omega) a;rw[lL];refine⟨F,fun t=> ?_⟩;rw[o,b,fv,Bool.or_assoc];congr 1
  by_cases ht:v.J≤t
  ·rw[ahN ht,Bool.and_or_distrib_right]
  ·rw[show pz v t=false from decide_eq_false (by omega),Tu hl.2 (by omega)];rfl
theorem ahP: ∀ {l i:List bs} {a k e:Int},0≤k→l.Pairwise (fun u v=>u.T < v.J)→(∀ v∈l,v.J < v.T)→(∀ v∈l,e≤v.J)→aI9 i e→
 (∃ dM,aI9 (qt l a k i) dM)∧ ∀ t,fv (qt l a k i) t=true→fv i t=true∨fv l t=true
 | [],i,a,k,e,_,_,_,_,G=>⟨⟨e,G⟩,fun t h=> .inl h⟩
 |v::l,i,a,k,e,I,ak,hne,he,G=>by
  rw[List.pairwise_cons] at ak;have ag:=hne v (by simp);have aE4:=he v (by simp);obtain⟨cz,b1⟩:=Ih (v:=⟨v.J,v.J+min (max a 0) (v.T-v.J)⟩) G aE4;obtain⟨eT,eA⟩:=Ih (v:=⟨v.J+min (max (a+k) 0) (v.T-v.J),v.T⟩) cz (by simp only;omega);obtain⟨F,o⟩:=ahP (a:=a-(v.T-v.J)) (e:=v.T) I ak.2 (fun x ad=>hne x (by simp[ad])) (fun x ad=>by have:=ak.1 x ad;omega) (eT.mono (by simp only;omega));rw[qt];refine⟨F,fun t h=> ?_⟩;rcases o t h with h|h
  ·rw[eA,b1,Bool.or_eq_true,Bool.or_eq_true] at h;rw[fv];simp only[pz,decide_eq_true_eq,Bool.or_eq_true] at h ⊢;rcases h with (h|h)|h
   ·exact .inl h
   ·exact .inr (.inl (by omega))
   ·exact .inr (.inl (by omega))
  ·exact .inr (by rw[fv,h,Bool.or_true])
theorem Tx: ∀ {dc:List lm} {k a m:Int} {w:List bs},kW a m dc=true→(∃ dM,aI9 w dM)→(∃ dM,aI9 (pi dc k w) dM)∧ ∀ t,fv (pi dc k w) t=true→fv w t=true
 | [],k,a,m,w,_,h=>⟨h,fun t h=>h⟩
 |b::dc,k,a,m,w,Z,h=>by
  simp only[kW,Bool.and_eq_true] at Z;rw[pi];split
  ·exact Tx Z.2 h
  ·rename_i V;obtain⟨dM,cY⟩:=h;have aE5: ∃ e,∀ v∈w,e≤v.J:=by
    clear cY V
    induction w with
    |nil=>exact⟨0,by simp⟩
    |cons x l ih=>
     obtain⟨e,he⟩:=ih;refine⟨min e x.J,fun v ag=> ?_⟩;rcases List.mem_cons.1 ag with rfl|ag
     ·omega
     ·have:=he v ag;omega
   obtain⟨e,he⟩:=aE5;obtain⟨F,o⟩:=ahP (a:=b.after) (k:=min (b.iD-k) (cR w-b.after)) (by omega) cY.Q7 cY.wK he (Tv (e:=e));obtain⟨f,g⟩:=Tx (k:=k+min (b.iD-k) (cR w-b.after)) Z.2 F;refine⟨f,fun t h=> ?_⟩;rcases o t (g t h) with h|h
   ·simp[fv] at h
   ·exact h
theorem auV {i:gz}{Y:bs}{O:List dx}(kB:kW (-1) 0 i.ij=true)(ae:hX 0 O=true):
 (∃ dM,aI9 (oh i Y O) dM)∧ ∀ x∈oh i Y O,∀ p∈O,∀ b∈p.en,¬(b.J < x.T∧x.J < b.T):=by
 obtain⟨a,b⟩:=ahO (i:= []) (e:=0) (G5 ae) (GG (i:=i) (Y:=Y) (O:=O) (last:=0)) (by omega) Tv;have aR: (∃ dM,aI9 (oh i Y O) dM)∧ ∀ t,fv (oh i Y O) t=true→fv (lL (kg i Y 0 O) (ms O) []) t=true:=by
  unfold oh;simp only;split
  ·exact⟨⟨0,Tv⟩,fun t h=>by simp[fv] at h⟩
  ·exact Tx kB ⟨_,a⟩
 refine⟨aR.1,fun x ad p gV q aQ uN=> ?_⟩;obtain⟨dM,cY⟩:=aR.1;have aI0:=cY.wK x ad;have ahQ:q∈ms O:=List.mem_flatMap.2 ⟨p,gV,aQ⟩;have auj:=vU (G5 ae) q ahQ;have h1:fv (oh i Y O) (max x.J q.J)=true:=M9.2 ⟨x,ad,by omega,by omega⟩;have B:=aR.2 _ h1;rw[b] at B;have am:fv (ms O) (max x.J q.J)=true:=M9.2 ⟨q,ahQ,by omega,by omega⟩;rw[am] at B;simp[fv] at B
end Go.Proofs.YtpincjkjoeopkaaGreatDoor.Pr
namespace Go.Proofs.YtpincjkjoeopkaaGreatDoor
open Go Go.Abs Go.Proofs.Tryz
def qP (i:er):Prop:=i.fm < 1∨10080 < i.fm∨i.ee < 0∨1440 < i.ee∨i.ek < 0∨1440 < i.ek
instance (i:er):Decidable (qP i):=inferInstanceAs (Decidable (i.fm < 1∨10080 < i.fm∨i.ee < 0∨1440 < i.ee∨i.ek < 0∨1440 < i.ek))
def qd (i:er):Int:=if eR i.D≠0 then eR i.D else if qP i then 2 else if Pr.lK i.dB≠0 then Pr.lK i.dB else if Ib.mu i.hI≠0 then Ib.mu i.hI else Pm.un i.D i.ak i.af
theorem aAE (i:er)(hh:i.ak.length≤1000000)(aR:i.af.length≤1000000):aK prog 57 [.agg i.F] [] (fun v rs=>v= .int .i64 (qd i)∧rs= []):=by
 have bI:=Ba i.D;have ca:=Pr.Qe i.dB;have fc:=Ib.mY i.hI;have hi:=Pm.afb i.D i.ak (by omega) i.af aR;unfold bZ.v at bI hi;unfold Ib.hJ.v at fc;simp only[Pr.yR] at ca;refine cr func57 abn (by simp[LQ,RN]) ?_;unfold er.F;simp only[go_sem,LQ,RN];refine bH bI (by simp only[bP,bE,cw,Bool.and_self,Bool.and_true]) rfl ?_;unfold qd
 by_cases h1:eR i.D=0
 rotate_left
 ·have q1: (eR i.D != 0)=true:=by simp[h1]
  simp only[go_sem,q1];exact s.bb rfl ⟨by rw[if_pos h1],rfl⟩
 have q1: (eR i.D != 0)=false:=by simp[h1]
 rw[if_neg (by omega)]
 by_cases b0:i.fm < 1
 ·have g0:decide (i.fm < 1)=true:=decide_eq_true b0;simp only[go_sem,q1,g0];exact s.bb rfl ⟨by rw[if_pos (by unfold qP;omega)],rfl⟩
 have g0:decide (i.fm < 1)=false:=decide_eq_false b0
 by_cases b1:10080 < i.fm
 ·have g1:decide (10080 < i.fm)=true:=decide_eq_true b1;simp only[go_sem,q1,g0,g1];exact s.bb rfl ⟨by rw[if_pos (by unfold qP;omega)],rfl⟩
 have g1:decide (10080 < i.fm)=false:=decide_eq_false b1
 by_cases eA:i.ee < 0
 ·have bM:decide (i.ee < 0)=true:=decide_eq_true eA;simp only[go_sem,q1,g0,g1,bM];exact s.bb rfl ⟨by rw[if_pos (by unfold qP;omega)],rfl⟩
 have bM:decide (i.ee < 0)=false:=decide_eq_false eA
 by_cases ls:1440 < i.ee
 ·have dh:decide (1440 < i.ee)=true:=decide_eq_true ls;simp only[go_sem,q1,g0,g1,bM,dh];exact s.bb rfl ⟨by rw[if_pos (by unfold qP;omega)],rfl⟩
 have dh:decide (1440 < i.ee)=false:=decide_eq_false ls
 by_cases I1:i.ek < 0
 ·have gC:decide (i.ek < 0)=true:=decide_eq_true I1;simp only[go_sem,q1,g0,g1,bM,dh,gC];exact s.bb rfl ⟨by rw[if_pos (by unfold qP;omega)],rfl⟩
 have gC:decide (i.ek < 0)=false:=decide_eq_false I1
 by_cases ta:1440 < i.ek
 ·have tN:decide (1440 < i.ek)=true:=decide_eq_true ta;simp only[go_sem,q1,g0,g1,bM,dh,gC,tN];exact s.bb rfl ⟨by rw[if_pos (by unfold qP;omega)],rfl⟩
 have tN:decide (1440 < i.ek)=false:=decide_eq_false ta;rw[if_neg (by unfold qP;omega)];simp only[go_sem,q1,g0,g1,bM,dh,gC,tN];refine bH ca (by simp only[bP,bE,cw,Bool.and_self,Bool.and_true]) rfl ?_
 by_cases B:Pr.lK i.dB=0
 rotate_left
 ·have eF: (Pr.lK i.dB != 0)=true:=by simp[B]
  simp only[go_sem,eF];exact s.bb rfl ⟨by rw[if_pos B],rfl⟩
 have eF: (Pr.lK i.dB != 0)=false:=by simp[B]
 rw[if_neg (by omega)];simp only[go_sem,eF];refine bH fc (by simp only[bP,bE,cw,Bool.and_self,Bool.and_true]) rfl ?_
 by_cases am:Ib.mu i.hI=0
 rotate_left
 ·have ev: (Ib.mu i.hI != 0)=true:=by simp[am]
  simp only[go_sem,ev];exact s.bb rfl ⟨by rw[if_pos am],rfl⟩
 have ev: (Ib.mu i.hI != 0)=false:=by simp[am]
 rw[if_neg (by omega)];simp only[go_sem,ev];refine bH hi (by simp only[bP,bE,cw,Bool.and_self,Bool.and_true]) rfl ?_;simp only[go_sem];exact s.bb rfl ⟨rfl,rfl⟩
end Go.Proofs.YtpincjkjoeopkaaGreatDoor
