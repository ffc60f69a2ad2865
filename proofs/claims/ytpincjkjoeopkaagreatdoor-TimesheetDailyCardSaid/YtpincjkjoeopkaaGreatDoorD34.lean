/- Presences and working time. -/
import Derived.Test.YtpincjkjoeopkaaGreatDoorD32
import Derived.Test.YtpincjkjoeopkaaGreatDoorD33
set_option linter.all false
namespace Go.Proofs.YtpincjkjoeopkaaGreatDoor.Pr
open Go Go.Abs
def qi (v:bx)(t:Int):Bool:=decide (v.R≤t∧t < v.ab)
def fE:List bx→Int→Bool
 | [],_=>false
 |v::l,t=>qi v t||fE l t
theorem N9: ∀ {l z:List bx} {t:Int},fE (l++z) t=(fE l t||fE z t)
 | [],_,_=>by simp[fE]
 |v::l,z,t=>by rw[List.cons_append,fE,fE,N9,Bool.or_assoc]
theorem Oa: ∀ {l:List bx} {t:Int},fE l t=true↔ ∃ v∈l,v.R≤t∧t < v.ab
 | [],t=>by simp[fE]
 |v::l,t=>by
  rw[fE,Bool.or_eq_true,Oa,qi,decide_eq_true_eq];constructor
  ·rintro (h|⟨x,aj,h⟩)
   ·exact⟨v,by simp,h⟩
   ·exact⟨x,by simp[aj],h⟩
  ·rintro⟨x,aj,h⟩;rcases List.mem_cons.1 aj with rfl|aj
   ·exact .inl h
   ·exact .inr ⟨x,aj,h⟩
theorem Uz {l:List bx}{e t aW:Int}(h:dd e aW l=true)(ht:t < e):fE l t=false:=by
 cases ad:fE l t
 ·rfl
 ·obtain⟨v,an,h1,G⟩:=Oa.1 ad;have:=xe h v an;omega
structure hY (l:List bx) (e:Int):Prop where
 Sf:l.Pairwise fun u v=>u.ab < v.R
 xR: ∀ v∈l,v.R < v.ab
 vz: ∀ v∈l,v.ab≤e
theorem hY.mono {l:List bx}{e cO:Int}(h:hY l e)(he:e≤cO):hY l cO:=⟨h.Sf,h.xR,fun v an=>Int.le_trans (h.vz v an) he⟩
theorem UA {e:Int}:hY [] e:=⟨List.Pairwise.nil,by simp,by simp⟩
theorem Jr {l:List bx}{e:Int}{v:bx}(h:hY l e)(an:e≤v.R):hY (jz l v) (max e v.ab)∧ ∀ t,fE (jz l v) t=(fE l t||qi v t):=by
 by_cases aH:v.ab≤v.R
 ·rw[Ob aH];refine⟨h.mono (by omega),fun t=> ?_⟩;rw[qi,decide_eq_false (by omega),Bool.or_false]
 ·rcases List.eq_nil_or_concat l with rfl|⟨cb,u,rfl⟩
  ·rw[Oc (by omega)];exact⟨⟨by simp,by simp;omega,by simp;omega⟩,fun t=>by simp[fE]⟩
  ·rw[List.concat_eq_append] at h ⊢;rw[Od (by omega)];obtain⟨ao,hne,UB⟩:=h;rw[List.pairwise_append] at ao;obtain⟨lo,_,vY⟩:=ao;have Yx:=hne u (by simp);have aKv:=UB u (by simp);split
   ·rename_i he;refine⟨⟨?_,?_,?_⟩,fun t=> ?_⟩
    ·rw[List.pairwise_append];refine⟨lo,by simp,fun a aC b hb=> ?_⟩;simp only[List.mem_singleton] at hb;subst hb;exact vY a aC u (by simp)
    ·intro x aj;simp only[List.mem_append,List.mem_singleton] at aj;rcases aj with aj|rfl
     ·exact hne x (by simp[aj])
     ·simp only;omega
    ·intro x aj;simp only[List.mem_append,List.mem_singleton] at aj;rcases aj with aj|rfl
     ·have:=UB x (by simp[aj]);omega
     ·simp only;omega
    ·rw[N9,N9,Bool.or_assoc];congr 1;simp only[fE,qi,Bool.or_false];rw[Bool.eq_iff_iff];simp only[Bool.or_eq_true,decide_eq_true_eq];omega
   ·rename_i he;refine⟨⟨?_,?_,?_⟩,fun t=> ?_⟩
    ·rw[List.pairwise_append,List.pairwise_append];refine⟨⟨lo,by simp,vY⟩,by simp,fun a aC b hb=> ?_⟩;simp only[List.mem_singleton] at hb;subst hb;simp only[List.mem_append,List.mem_singleton] at aC;rcases aC with aC|rfl
     ·have:=vY a aC u (by simp);omega
     ·omega
    ·intro x aj;simp only[List.mem_append,List.mem_singleton] at aj;rcases aj with (aj|rfl)|rfl
     ·exact hne x (by simp[aj])
     ·exact Yx
     ·omega
    ·intro x aj;simp only[List.mem_append,List.mem_singleton] at aj;rcases aj with (aj|rfl)|rfl
     ·have:=UB x (by simp[aj]);omega
     ·omega
     ·omega
    ·rw[N9];simp[fE]
theorem ajd: ∀ {os:List bx} {cO aW e el:Int} {v:bx} {z:List bx},dd cO aW os=true→(∀ V∈os,v.R < V.ab)→hY z e→e≤v.R→e≤el→v.ab≤el→
 hY (oG os v z) el∧ ∀ t,fE (oG os v z) t=(fE z t||(qi v t&& !fE os t))
 | [],cO,aW,e,el,v,z,_,_,N,h1,G,au=>by
  rw[oG];obtain⟨a,b⟩:=Jr N h1;exact⟨a.mono (by omega),fun t=>by rw[b];simp[fE]⟩
 |V::os,cO,aW,e,el,v,z,hb,bp,N,h1,G,au=>by
  simp only[dd,hR,Bool.and_eq_true,decide_eq_true_eq] at hb;have up:=bp V (by simp);rw[oG];split
  ·rename_i aI;obtain⟨a,b⟩:=Jr (v:=⟨v.R,V.R⟩) N h1;obtain⟨J,B⟩:=ajd (e:=max e V.R) (el:=el) (v:=⟨V.ab,v.ab⟩) hb.2 (fun x aj=>by have:=xe hb.2 x aj;simp only;omega) a (by simp only;omega) (by omega) (by simp only;omega);refine⟨J,fun t=> ?_⟩;rw[B,b,Bool.or_assoc];congr 1
   by_cases ht:t < V.ab
   ·rw[fE,Uz hb.2 ht,Bool.or_false,Bool.not_false,Bool.and_true,Bool.eq_iff_iff];simp only[qi,Bool.or_eq_true,Bool.and_eq_true,Bool.not_eq_true',decide_eq_true_eq,decide_eq_false_iff_not];omega
   ·rw[fE,show qi V t=false from decide_eq_false (by omega),Bool.false_or,show qi ⟨v.R,V.R⟩ t=false from decide_eq_false (by simp only;omega),Bool.false_or];congr 1;rw[Bool.eq_iff_iff];simp only[qi,decide_eq_true_eq];omega
  ·rename_i aI;obtain⟨a,b⟩:=Jr N h1;refine⟨a.mono (by omega),fun t=> ?_⟩;rw[b];congr 1;cases av:qi v t
   ·rfl
   ·simp only[qi,decide_eq_true_eq] at av;rw[fE,Uz hb.2 (by omega),show qi V t=false from decide_eq_false (by omega)];rfl
theorem aje: ∀ {os:List bx} {f t:Int},f≤t→fE (rS f os) t=fE os t
 | [],_,_,_=>rfl
 |V::os,f,t,h=>by
  rw[rS];split
  ·rw[aje h,fE,show qi V t=false from decide_eq_false (by omega),Bool.false_or]
  ·rfl
theorem ajf: ∀ {l os z:List bx} {e cO aW Js:Int},dd cO aW os=true→dd e Js l=true→e≤Js→hY z e→
 hY (mx l os z) Js∧ ∀ t,fE (mx l os z) t=(fE z t||(fE l t&& !fE os t))
 | [],os,z,e,cO,aW,Js,_,_,hN,N=>⟨N.mono hN,fun t=>by simp[mx,fE]⟩
 |v::l,os,z,e,cO,aW,Js,bp,hl,hN,N=>by
  simp only[dd,hR,Bool.and_eq_true,decide_eq_true_eq] at hl;obtain⟨h1,G⟩:=Jt (f:=v.R) bp;obtain⟨a,b⟩:=ajd (el:=v.ab) h1 G N hl.1.1 (by omega) (by omega);obtain⟨J,B⟩:=ajf h1 hl.2 (by omega) a;rw[mx];refine⟨J,fun t=> ?_⟩;rw[B,b,fE,Bool.or_assoc];congr 1
  by_cases ht:v.R≤t
  ·rw[aje ht,Bool.and_or_distrib_right]
  ·rw[show qi v t=false from decide_eq_false (by omega),Uz hl.2 (by omega)];rfl
theorem ajg: ∀ {l z:List bx} {a k e:Int},0≤k→l.Pairwise (fun u v=>u.ab < v.R)→(∀ v∈l,v.R < v.ab)→(∀ v∈l,e≤v.R)→hY z e→
 (∃ el,hY (rb l a k z) el)∧ ∀ t,fE (rb l a k z) t=true→fE z t=true∨fE l t=true
 | [],z,a,k,e,_,_,_,_,N=>⟨⟨e,N⟩,fun t h=> .inl h⟩
 |v::l,z,a,k,e,O,ao,hne,he,N=>by
  rw[List.pairwise_cons] at ao;have an:=hne v (by simp);have aGk:=he v (by simp);obtain⟨cH,b1⟩:=Jr (v:=⟨v.R,v.R+min (max a 0) (v.ab-v.R)⟩) N aGk;obtain⟨ff,eJ⟩:=Jr (v:=⟨v.R+min (max (a+k) 0) (v.ab-v.R),v.ab⟩) cH (by simp only;omega);obtain⟨J,B⟩:=ajg (a:=a-(v.ab-v.R)) (e:=v.ab) O ao.2 (fun x aj=>hne x (by simp[aj])) (fun x aj=>by have:=ao.1 x aj;omega) (ff.mono (by simp only;omega));rw[rb];refine⟨J,fun t h=> ?_⟩;rcases B t h with h|h
  ·rw[eJ,b1,Bool.or_eq_true,Bool.or_eq_true] at h;rw[fE];simp only[qi,decide_eq_true_eq,Bool.or_eq_true] at h ⊢;rcases h with (h|h)|h
   ·exact .inl h
   ·exact .inr (.inl (by omega))
   ·exact .inr (.inl (by omega))
  ·exact .inr (by rw[fE,h,Bool.or_true])
theorem UC: ∀ {dl:List lR} {k a m:Int} {w:List bx},lz a m dl=true→(∃ el,hY w el)→(∃ el,hY (pR dl k w) el)∧ ∀ t,fE (pR dl k w) t=true→fE w t=true
 | [],k,a,m,w,_,h=>⟨h,fun t h=>h⟩
 |b::dl,k,a,m,w,hb,h=>by
  simp only[lz,Bool.and_eq_true] at hb;rw[pR];split
  ·exact UC hb.2 h
  ·rename_i ad;obtain⟨el,dp⟩:=h;have aGl: ∃ e,∀ v∈w,e≤v.R:=by
    clear dp ad
    induction w with
    |nil=>exact⟨0,by simp⟩
    |cons x l ih=>
     obtain⟨e,he⟩:=ih;refine⟨min e x.R,fun v an=> ?_⟩;rcases List.mem_cons.1 an with rfl|an
     ·omega
     ·have:=he v an;omega
   obtain⟨e,he⟩:=aGl;obtain⟨J,B⟩:=ajg (a:=b.after) (k:=min (b.iP-k) (da w-b.after)) (by omega) dp.Sf dp.xR he (UA (e:=e));obtain⟨f,g⟩:=UC (k:=k+min (b.iP-k) (da w-b.after)) hb.2 J;refine⟨f,fun t h=> ?_⟩;rcases B t (g t h) with h|h
   ·simp[fE] at h
   ·exact h
theorem awD {z:gK}{ae:bx}{aa:List dF}(kX:lz (-1) 0 z.iA=true)(ak:io 0 aa=true):
 (∃ el,hY (pb z ae aa) el)∧ ∀ x∈pb z ae aa,∀ p∈aa,∀ b∈p.ey,¬(b.R < x.ab∧x.R < b.ab):=by
 obtain⟨a,b⟩:=ajf (z:= []) (e:=0) (Ig ak) (HP (z:=z) (ae:=ae) (aa:=aa) (last:=0)) (by omega) UA;have aP: (∃ el,hY (pb z ae aa) el)∧ ∀ t,fE (pb z ae aa) t=true→fE (mx (kB z ae 0 aa) (na aa) []) t=true:=by
  unfold pb;simp only;split
  ·exact⟨⟨0,UA⟩,fun t h=>by simp[fE] at h⟩
  ·exact UC kX ⟨_,a⟩
 refine⟨aP.1,fun x aj p hC q aV vO=> ?_⟩;obtain⟨el,dp⟩:=aP.1;have aKw:=dp.xR x aj;have ajh:q∈na aa:=List.mem_flatMap.2 ⟨p,hC,aV⟩;have avU:=xe (Ig ak) q ajh;have h1:fE (pb z ae aa) (max x.R q.R)=true:=Oa.2 ⟨x,aj,by omega,by omega⟩;have G:=aP.2 _ h1;rw[b] at G;have au:fE (na aa) (max x.R q.R)=true:=Oa.2 ⟨q,ajh,by omega,by omega⟩;rw[au] at G;simp[fE] at G
end Go.Proofs.YtpincjkjoeopkaaGreatDoor.Pr
namespace Go.Proofs.YtpincjkjoeopkaaGreatDoor
open Go Go.Abs Go.Proofs.Tryz
def rF (z:eD):Prop:=z.fz < 1∨10080 < z.fz∨z.er < 0∨1440 < z.er∨z.ex < 0∨1440 < z.ex
instance (z:eD):Decidable (rF z):=inferInstanceAs (Decidable (z.fz < 1∨10080 < z.fz∨z.er < 0∨1440 < z.er∨z.ex < 0∨1440 < z.ex))
def qL (z:eD):Int:=if fe z.M≠0 then fe z.M else if rF z then 2 else if Pr.mq z.dK≠0 then Pr.mq z.dK else if Ib.lA z.ia≠0 then Ib.lA z.ia else Pm.vm z.M z.ao z.al
theorem aBW (z:eD)(hh:z.ao.length≤1000000)(aP:z.al.length≤1000000):aO prog 57 [.agg z.J] [] (fun v rs=>v= .int .i64 (qL z)∧rs= []):=by
 have bO:=Ch z.M;have cd:=Pr.Re z.dK;have fk:=Ib.lQ z.ia;have hB:=Pm.agv z.M z.ao (by omega) z.al aP;unfold cc.v at bO hB;unfold Ib.ib.v at fk;simp only[Pr.Ab] at cd;refine cu func57 acL (by simp[MX,SZ]) ?_;unfold eD.J;simp only[go_sem,MX,SZ];refine bM bO (by simp only[bU,bJ,ck,Bool.and_self,Bool.and_true]) rfl ?_;unfold qL
 by_cases h1:fe z.M=0
 rotate_left
 ·have q1: (fe z.M != 0)=true:=by simp[h1]
  simp only[go_sem,q1];exact E.bg rfl ⟨by rw[if_pos h1],rfl⟩
 have q1: (fe z.M != 0)=false:=by simp[h1]
 rw[if_neg (by omega)]
 by_cases b0:z.fz < 1
 ·have g0:decide (z.fz < 1)=true:=decide_eq_true b0;simp only[go_sem,q1,g0];exact E.bg rfl ⟨by rw[if_pos (by unfold rF;omega)],rfl⟩
 have g0:decide (z.fz < 1)=false:=decide_eq_false b0
 by_cases b1:10080 < z.fz
 ·have g1:decide (10080 < z.fz)=true:=decide_eq_true b1;simp only[go_sem,q1,g0,g1];exact E.bg rfl ⟨by rw[if_pos (by unfold rF;omega)],rfl⟩
 have g1:decide (10080 < z.fz)=false:=decide_eq_false b1
 by_cases eJ:z.er < 0
 ·have bR:decide (z.er < 0)=true:=decide_eq_true eJ;simp only[go_sem,q1,g0,g1,bR];exact E.bg rfl ⟨by rw[if_pos (by unfold rF;omega)],rfl⟩
 have bR:decide (z.er < 0)=false:=decide_eq_false eJ
 by_cases lX:1440 < z.er
 ·have dq:decide (1440 < z.er)=true:=decide_eq_true lX;simp only[go_sem,q1,g0,g1,bR,dq];exact E.bg rfl ⟨by rw[if_pos (by unfold rF;omega)],rfl⟩
 have dq:decide (1440 < z.er)=false:=decide_eq_false lX
 by_cases Kd:z.ex < 0
 ·have gP:decide (z.ex < 0)=true:=decide_eq_true Kd;simp only[go_sem,q1,g0,g1,bR,dq,gP];exact E.bg rfl ⟨by rw[if_pos (by unfold rF;omega)],rfl⟩
 have gP:decide (z.ex < 0)=false:=decide_eq_false Kd
 by_cases uc:1440 < z.ex
 ·have uN:decide (1440 < z.ex)=true:=decide_eq_true uc;simp only[go_sem,q1,g0,g1,bR,dq,gP,uN];exact E.bg rfl ⟨by rw[if_pos (by unfold rF;omega)],rfl⟩
 have uN:decide (1440 < z.ex)=false:=decide_eq_false uc;rw[if_neg (by unfold rF;omega)];simp only[go_sem,q1,g0,g1,bR,dq,gP,uN];refine bM cd (by simp only[bU,bJ,ck,Bool.and_self,Bool.and_true]) rfl ?_
 by_cases G:Pr.mq z.dK=0
 rotate_left
 ·have eQ: (Pr.mq z.dK != 0)=true:=by simp[G]
  simp only[go_sem,eQ];exact E.bg rfl ⟨by rw[if_pos G],rfl⟩
 have eQ: (Pr.mq z.dK != 0)=false:=by simp[G]
 rw[if_neg (by omega)];simp only[go_sem,eQ];refine bM fk (by simp only[bU,bJ,ck,Bool.and_self,Bool.and_true]) rfl ?_
 by_cases au:Ib.lA z.ia=0
 rotate_left
 ·have eF: (Ib.lA z.ia != 0)=true:=by simp[au]
  simp only[go_sem,eF];exact E.bg rfl ⟨by rw[if_pos au],rfl⟩
 have eF: (Ib.lA z.ia != 0)=false:=by simp[au]
 rw[if_neg (by omega)];simp only[go_sem,eF];refine bM hB (by simp only[bU,bJ,ck,Bool.and_self,Bool.and_true]) rfl ?_;simp only[go_sem];exact E.bg rfl ⟨rfl,rfl⟩
end Go.Proofs.YtpincjkjoeopkaaGreatDoor
