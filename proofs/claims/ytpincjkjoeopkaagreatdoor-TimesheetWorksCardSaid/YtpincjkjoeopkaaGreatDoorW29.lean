/- Presences and working time. -/
import Derived.Test.YtpincjkjoeopkaaGreatDoorW26
import Derived.Test.YtpincjkjoeopkaaGreatDoorW28
import Derived.Test.YtpincjkjoeopkaaGreatDoorW20
set_option linter.all false
namespace Go.Proofs.YtpincjkjoeopkaaGreatDoor.Pr
open Go Go.Abs
def qi (v:bx)(t:Int):Bool:=decide (v.R≤t∧t < v.ab)
def fE:List bx→Int→Bool
 | [],_=>false
 |v::l,t=>qi v t||fE l t
theorem N9: ∀ {l z:List bx} {t:Int},fE (l++z) t=(fE l t||fE z t)
 | [],_,_=>by simp[fE]
 |v::l,z,t=>by rw[List.cons_append,fE,fE,N9,Bool.or_assoc]
theorem Oa: ∀ {l:List bx} {t:Int},fE l t=true↔ ∃ v∈l,v.R≤t∧t < v.ab
 | [],t=>by simp[fE]
 |v::l,t=>by
  rw[fE,Bool.or_eq_true,Oa,qi,decide_eq_true_eq];constructor
  ·rintro (h|⟨x,aj,h⟩)
   ·exact⟨v,by simp,h⟩
   ·exact⟨x,by simp[aj],h⟩
  ·rintro⟨x,aj,h⟩;rcases List.mem_cons.1 aj with rfl|aj
   ·exact .inl h
   ·exact .inr ⟨x,aj,h⟩
theorem Uz {l:List bx}{e t aW:Int}(h:dd e aW l=true)(ht:t < e):fE l t=false:=by
 cases ad:fE l t
 ·rfl
 ·obtain⟨v,an,h1,G⟩:=Oa.1 ad;have:=xe h v an;omega
structure hY (l:List bx) (e:Int):Prop where
 Sf:l.Pairwise fun u v=>u.ab < v.R
 xR: ∀ v∈l,v.R < v.ab
 vz: ∀ v∈l,v.ab≤e
theorem hY.mono {l:List bx}{e cO:Int}(h:hY l e)(he:e≤cO):hY l cO:=⟨h.Sf,h.xR,fun v an=>Int.le_trans (h.vz v an) he⟩
theorem UA {e:Int}:hY [] e:=⟨List.Pairwise.nil,by simp,by simp⟩
theorem Jr {l:List bx}{e:Int}{v:bx}(h:hY l e)(an:e≤v.R):hY (jz l v) (max e v.ab)∧ ∀ t,fE (jz l v) t=(fE l t||qi v t):=by
 by_cases aH:v.ab≤v.R
 ·rw[Ob aH];refine⟨h.mono (by omega),fun t=> ?_⟩;rw[qi,decide_eq_false (by omega),Bool.or_false]
 ·rcases List.eq_nil_or_concat l with rfl|⟨cb,u,rfl⟩
  ·rw[Oc (by omega)];exact⟨⟨by simp,by simp;omega,by simp;omega⟩,fun t=>by simp[fE]⟩
  ·rw[List.concat_eq_append] at h ⊢;rw[Od (by omega)];obtain⟨ao,hne,UB⟩:=h;rw[List.pairwise_append] at ao;obtain⟨lo,_,vY⟩:=ao;have Yx:=hne u (by simp);have aKv:=UB u (by simp);split
   ·rename_i he;refine⟨⟨?_,?_,?_⟩,fun t=> ?_⟩
    ·rw[List.pairwise_append];refine⟨lo,by simp,fun a aC b af=> ?_⟩;simp only[List.mem_singleton] at af;subst af;exact vY a aC u (by simp)
    ·intro x aj;simp only[List.mem_append,List.mem_singleton] at aj;rcases aj with aj|rfl
     ·exact hne x (by simp[aj])
     ·simp only;omega
    ·intro x aj;simp only[List.mem_append,List.mem_singleton] at aj;rcases aj with aj|rfl
     ·have:=UB x (by simp[aj]);omega
     ·simp only;omega
    ·rw[N9,N9,Bool.or_assoc];congr 1;simp only[fE,qi,Bool.or_false];rw[Bool.eq_iff_iff];simp only[Bool.or_eq_true,decide_eq_true_eq];omega
   ·rename_i he;refine⟨⟨?_,?_,?_⟩,fun t=> ?_⟩
    ·rw[List.pairwise_append,List.pairwise_append];refine⟨⟨lo,by simp,vY⟩,by simp,fun a aC b af=> ?_⟩;simp only[List.mem_singleton] at af;subst af;simp only[List.mem_append,List.mem_singleton] at aC;rcases aC with aC|rfl
     ·have:=vY a aC u (by simp);omega
     ·omega
    ·intro x aj;simp only[List.mem_append,List.mem_singleton] at aj;rcases aj with (aj|rfl)|rfl
     ·exact hne x (by simp[aj])
     ·exact Yx
     ·omega
    ·intro x aj;simp only[List.mem_append,List.mem_singleton] at aj;rcases aj with (aj|rfl)|rfl
     ·have:=UB x (by simp[aj]);omega
     ·omega
     ·omega
    ·rw[N9];simp[fE]
theorem ajd: ∀ {os:List bx} {cO aW e el:Int} {v:bx} {z:List bx},dd cO aW os=true→(∀ o∈os,v.R < o.ab)→hY z e→e≤v.R→e≤el→v.ab≤el→
 hY (oG os v z) el∧ ∀ t,fE (oG os v z) t=(fE z t||(qi v t&& !fE os t))
 | [],cO,aW,e,el,v,z,_,_,N,h1,G,au=>by
  rw[oG];obtain⟨a,b⟩:=Jr N h1;exact⟨a.mono (by omega),fun t=>by rw[b];simp[fE]⟩
 |o::os,cO,aW,e,el,v,z,af,bp,N,h1,G,au=>by
  simp only[dd,hR,Bool.and_eq_true,decide_eq_true_eq] at af;have up:=bp o (by simp);rw[oG];split
  ·rename_i aI;obtain⟨a,b⟩:=Jr (v:=⟨v.R,o.R⟩) N h1;obtain⟨J,B⟩:=ajd (e:=max e o.R) (el:=el) (v:=⟨o.ab,v.ab⟩) af.2 (fun x aj=>by have:=xe af.2 x aj;simp only;omega) a (by simp only;omega) (by omega) (by simp only;omega);refine⟨J,fun t=> ?_⟩;rw[B,b,Bool.or_assoc];congr 1
   by_cases ht:t < o.ab
   ·rw[fE,Uz af.2 ht,Bool.or_false,Bool.not_false,Bool.and_true,Bool.eq_iff_iff];simp only[qi,Bool.or_eq_true,Bool.and_eq_true,Bool.not_eq_true',decide_eq_true_eq,decide_eq_false_iff_not];omega
   ·rw[fE,show qi o t=false from decide_eq_false (by omega),Bool.false_or,show qi ⟨v.R,o.R⟩ t=false from decide_eq_false (by simp only;omega),Bool.false_or];congr 1;rw[Bool.eq_iff_iff];simp only[qi,decide_eq_true_eq];omega
  ·rename_i aI;obtain⟨a,b⟩:=Jr N h1;refine⟨a.mono (by omega),fun t=> ?_⟩;rw[b];congr 1;cases av:qi v t
   ·rfl
   ·simp only[qi,decide_eq_true_eq] at av;rw[fE,Uz af.2 (by omega),show qi o t=false from decide_eq_false (by omega)];rfl
theorem aje: ∀ {os:List bx} {f t:Int},f≤t→fE (rS f os) t=fE os t
 | [],_,_,_=>rfl
 |o::os,f,t,h=>by
  rw[rS];split
  ·rw[aje h,fE,show qi o t=false from decide_eq_false (by omega),Bool.false_or]
  ·rfl
theorem ajf: ∀ {l os z:List bx} {e cO aW Js:Int},dd cO aW os=true→dd e Js l=true→e≤Js→hY z e→
 hY (mx l os z) Js∧ ∀ t,fE (mx l os z) t=(fE z t||(fE l t&& !fE os t))
 | [],os,z,e,cO,aW,Js,_,_,hN,N=>⟨N.mono hN,fun t=>by simp[mx,fE]⟩
 |v::l,os,z,e,cO,aW,Js,bp,hl,hN,N=>by
  simp only[dd,hR,Bool.and_eq_true,decide_eq_true_eq] at hl;obtain⟨h1,G⟩:=Jt (f:=v.R) bp;obtain⟨a,b⟩:=ajd (el:=v.ab) h1 G N hl.1.1 (by omega) (by omega);obtain⟨J,B⟩:=ajf h1 hl.2 (by omega) a;rw[mx];refine⟨J,fun t=> ?_⟩;rw[B,b,fE,Bool.or_assoc];congr 1
  by_cases ht:v.R≤t
  ·rw[aje ht,Bool.and_or_distrib_right]
  ·rw[show qi v t=false from decide_eq_false (by omega),Uz hl.2 (by omega)];rfl
theorem ajg: ∀ {l z:List bx} {a k e:Int},0≤k→l.Pairwise (fun u v=>u.ab < v.R)→(∀ v∈l,v.R < v.ab)→(∀ v∈l,e≤v.R)→hY z e→
 (∃ el,hY (rb l a k z) el)∧ ∀ t,fE (rb l a k z) t=true→fE z t=true∨fE l t=true
 | [],z,a,k,e,_,_,_,_,N=>⟨⟨e,N⟩,fun t h=> .inl h⟩
 |v::l,z,a,k,e,O,ao,hne,he,N=>by
  rw[List.pairwise_cons] at ao;have an:=hne v (by simp);have aGk:=he v (by simp);obtain⟨cH,b1⟩:=Jr (v:=⟨v.R,v.R+min (max a 0) (v.ab-v.R)⟩) N aGk;obtain⟨ff,eJ⟩:=Jr (v:=⟨v.R+min (max (a+k) 0) (v.ab-v.R),v.ab⟩) cH (by simp only;omega);obtain⟨J,B⟩:=ajg (a:=a-(v.ab-v.R)) (e:=v.ab) O ao.2 (fun x aj=>hne x (by simp[aj])) (fun x aj=>by have:=ao.1 x aj;omega) (ff.mono (by simp only;omega));rw[rb];refine⟨J,fun t h=> ?_⟩;rcases B t h with h|h
  ·rw[eJ,b1,Bool.or_eq_true,Bool.or_eq_true] at h;rw[fE];simp only[qi,decide_eq_true_eq,Bool.or_eq_true] at h ⊢;rcases h with (h|h)|h
   ·exact .inl h
   ·exact .inr (.inl (by omega))
   ·exact .inr (.inl (by omega))
  ·exact .inr (by rw[fE,h,Bool.or_true])
theorem UC: ∀ {dl:List lR} {k a m:Int} {w:List bx},lz a m dl=true→(∃ el,hY w el)→(∃ el,hY (pR dl k w) el)∧ ∀ t,fE (pR dl k w) t=true→fE w t=true
 | [],k,a,m,w,_,h=>⟨h,fun t h=>h⟩
 |b::dl,k,a,m,w,af,h=>by
  simp only[lz,Bool.and_eq_true] at af;rw[pR];split
  ·exact UC af.2 h
  ·rename_i ad;obtain⟨el,dp⟩:=h;have aGl: ∃ e,∀ v∈w,e≤v.R:=by
    clear dp ad
    induction w with
    |nil=>exact⟨0,by simp⟩
    |cons x l ih=>
     obtain⟨e,he⟩:=ih;refine⟨min e x.R,fun v an=> ?_⟩;rcases List.mem_cons.1 an with rfl|an
     ·omega
     ·have:=he v an;omega
   obtain⟨e,he⟩:=aGl;obtain⟨J,B⟩:=ajg (a:=b.after) (k:=min (b.iP-k) (da w-b.after)) (by omega) dp.Sf dp.xR he (UA (e:=e));obtain⟨f,g⟩:=UC (k:=k+min (b.iP-k) (da w-b.after)) af.2 J;refine⟨f,fun t h=> ?_⟩;rcases B t (g t h) with h|h
   ·simp[fE] at h
   ·exact h
theorem awD {z:gK}{ae:bx}{aa:List dF}(kX:lz (-1) 0 z.iA=true)(ak:io 0 aa=true):
 (∃ el,hY (pb z ae aa) el)∧ ∀ x∈pb z ae aa,∀ p∈aa,∀ b∈p.ey,¬(b.R < x.ab∧x.R < b.ab):=by
 obtain⟨a,b⟩:=ajf (z:= []) (e:=0) (Ig ak) (HP (z:=z) (ae:=ae) (aa:=aa) (last:=0)) (by omega) UA;have aP: (∃ el,hY (pb z ae aa) el)∧ ∀ t,fE (pb z ae aa) t=true→fE (mx (kB z ae 0 aa) (na aa) []) t=true:=by
  unfold pb;simp only;split
  ·exact⟨⟨0,UA⟩,fun t h=>by simp[fE] at h⟩
  ·exact UC kX ⟨_,a⟩
 refine⟨aP.1,fun x aj p hC q aV vO=> ?_⟩;obtain⟨el,dp⟩:=aP.1;have aKw:=dp.xR x aj;have ajh:q∈na aa:=List.mem_flatMap.2 ⟨p,hC,aV⟩;have avU:=xe (Ig ak) q ajh;have h1:fE (pb z ae aa) (max x.R q.R)=true:=Oa.2 ⟨x,aj,by omega,by omega⟩;have G:=aP.2 _ h1;rw[b] at G;have au:fE (na aa) (max x.R q.R)=true:=Oa.2 ⟨q,ajh,by omega,by omega⟩;rw[au] at G;simp[fE] at G
end Go.Proofs.YtpincjkjoeopkaaGreatDoor.Pr
namespace Go.Proofs.YtpincjkjoeopkaaGreatDoor
open Go Go.Abs
def aKI (o x:Pr.bx):List Pr.bx:=if o.ab≤o.R∨o.ab≤x.R∨x.ab≤o.R then [x] else (if x.R < o.R then [⟨x.R,o.R⟩] else [])++(if o.ab < x.ab then [⟨o.ab,x.ab⟩] else [])
def aKK (os z:List Pr.bx):List Pr.bx:=os.foldl (fun z o=>z.flatMap (aKI o)) z
def aKJ (ea:List Pr.bx)(v:Pr.bx):List Pr.bx:=match ea.getLast? with
 |some u=>if u.ab=v.R then ea.dropLast++ [⟨u.R,v.ab⟩] else ea++ [v]
 |none=> [v]
def aKW (l os:List Pr.bx):List Pr.bx:=l.foldl (fun ea v=>(aKK os [v]).foldl aKJ ea) []
theorem aM2 {ea:List Pr.bx}{v:Pr.bx}(h:v.R < v.ab):aKJ ea v=Pr.jz ea v:=by
 unfold aKJ Pr.jz;rw[if_neg (by omega)];cases ea.getLast?<;>rfl
theorem aOA {o x:Pr.bx}(aj:x.R < x.ab):Pr.dd x.R x.ab (aKI o x)=true∧ ∀ t,Pr.fE (aKI o x) t=(Pr.qi x t&& !Pr.qi o t):=by
 unfold aKI;split
 ·rename_i h;refine⟨by rw[rI];exact⟨⟨Int.le_refl _,aj,Int.le_refl _⟩,rfl⟩,fun t=> ?_⟩;rw[Pr.fE,Pr.fE,Bool.or_false,Bool.eq_iff_iff];simp only[Pr.qi,Bool.and_eq_true,Bool.not_eq_true',decide_eq_true_eq,decide_eq_false_iff_not];omega
 ·rename_i h;constructor
  ·split<;>split<;>simp only[List.nil_append,List.append_nil,List.cons_append,rI]
   ·exact⟨⟨by omega,by omega,by omega⟩,⟨by omega,by omega,by omega⟩,rfl⟩
   ·exact⟨⟨by omega,by omega,by omega⟩,rfl⟩
   ·exact⟨⟨by omega,by omega,by omega⟩,rfl⟩
   ·rfl
  ·intro t;rw[Pr.N9,Bool.eq_iff_iff];split<;>split<;>simp only[Pr.fE,Pr.qi,Bool.or_false,Bool.false_or,Bool.or_eq_true,Bool.and_eq_true,Bool.not_eq_true',decide_eq_true_eq,decide_eq_false_iff_not,Bool.false_eq_true,false_iff]<;>omega
theorem aM3 {o:Pr.bx}{aW:Int}: ∀ {z:List Pr.bx} {e:Int},Pr.dd e aW z=true→Pr.dd e aW (z.flatMap (aKI o))=true∧ ∀ t,Pr.fE (z.flatMap (aKI o)) t=(Pr.fE z t&& !Pr.qi o t)
 | [],e,_=>⟨rfl,fun t=>by simp[Pr.fE]⟩
 |x::z,e,h=>by
  rw[rI] at h;obtain⟨a,b⟩:=aOA (o:=o) h.1.2.1;obtain⟨J,B⟩:=aM3 (o:=o) h.2;rw[List.flatMap_cons];refine⟨?_,fun t=>by rw[Pr.N9,b,B,Pr.fE,Bool.and_or_distrib_right]⟩;exact yz (l:= []) (g:=x.R) rfl (by simp) h.1.1 (yz (g:=x.ab) (acd (e:=x.R) h.1.2.2 a) (fun d bt=>(wG a d bt).2.2) (by omega) J)
theorem aLm {aW:Int}: ∀ {os z:List Pr.bx} {e:Int},Pr.dd e aW z=true→Pr.dd e aW (aKK os z)=true∧ ∀ t,Pr.fE (aKK os z) t=(Pr.fE z t&& !Pr.fE os t)
 | [],z,e,h=>⟨h,fun t=>by simp[aKK,Pr.fE]⟩
 |o::os,z,e,h=>by
  obtain⟨a,b⟩:=aM3 (o:=o) h;obtain⟨J,B⟩:=aLm (os:=os) a;refine⟨J,fun t=> ?_⟩;have:aKK (o::os) z=aKK os (z.flatMap (aKI o)):=rfl;rw[this,B,b,Pr.fE,Bool.not_or,Bool.and_assoc]
theorem aLn {aW:Int}: ∀ {rs ea:List Pr.bx} {e:Int},Pr.dd e aW rs=true→e≤aW→Pr.hY ea e→Pr.hY (rs.foldl aKJ ea) aW∧ ∀ t,Pr.fE (rs.foldl aKJ ea) t=(Pr.fE ea t||Pr.fE rs t)
 | [],ea,e,_,hN,h=>⟨h.mono hN,fun t=>by simp[Pr.fE]⟩
 |v::rs,ea,e,N,hN,h=>by
  rw[rI] at N;obtain⟨a,b⟩:=Pr.Jr (v:=v) h N.1.1;obtain⟨J,B⟩:=aLn (ea:=aKJ ea v) (e:=v.ab) N.2 (by omega) (by rw[aM2 N.1.2.1];exact a.mono (by omega));refine⟨J,fun t=> ?_⟩;rw[List.foldl_cons,B,aM2 N.1.2.1,b,Pr.fE,Bool.or_assoc]
theorem aM4 {os:List Pr.bx}{aW:Int}: ∀ {l ea:List Pr.bx} {e:Int},Pr.dd e aW l=true→e≤aW→Pr.hY ea e→Pr.hY (l.foldl (fun ea v=>(aKK os [v]).foldl aKJ ea) ea) aW∧ ∀ t,Pr.fE (l.foldl (fun ea v=>(aKK os [v]).foldl aKJ ea) ea) t=(Pr.fE ea t||(Pr.fE l t&& !Pr.fE os t))
 | [],ea,e,_,hN,h=>⟨h.mono hN,fun t=>by simp[Pr.fE]⟩
 |v::l,ea,e,hl,hN,h=>by
  rw[rI] at hl;obtain⟨a,b⟩:=aLm (os:=os) (aW:=v.ab) (z:= [v]) (e:=v.R) (by rw[rI];exact⟨⟨Int.le_refl _,hl.1.2.1,Int.le_refl _⟩,rfl⟩);obtain⟨J,B⟩:=aLn a (by omega) (h.mono hl.1.1);obtain⟨f,g⟩:=aM4 (os:=os) (ea:=(aKK os [v]).foldl aKJ ea) hl.2 (by omega) J;refine⟨f,fun t=> ?_⟩;rw[List.foldl_cons,g,B,b,Pr.fE,Pr.fE,Pr.fE,Bool.or_false,Bool.or_assoc,Bool.and_or_distrib_right]
theorem aL9 {l os:List Pr.bx}{e aW:Int}(h:Pr.dd e aW l=true)(hN:e≤aW):Pr.hY (aKW l os) aW∧ ∀ t,Pr.fE (aKW l os) t=(Pr.fE l t&& !Pr.fE os t):=by
 obtain⟨a,b⟩:=aM4 (os:=os) h hN (Pr.UA (e:=e));exact⟨a,fun t=>by unfold aKW;rw[b];simp[Pr.fE]⟩
theorem aLT {x:Pr.bx}{l:List Pr.bx}{e:Int}(h:Pr.hY (x::l) e): (∀ t,Pr.fE (x::l) t=true→x.R≤t)∧Pr.fE (x::l) x.R=true∧Pr.fE (x::l) x.ab=false∧(∀ t,x.R≤t→t < x.ab→Pr.fE (x::l) t=true)∧ ∀ t,Pr.fE l t=(Pr.fE (x::l) t&&decide (x.ab < t)):=by
 have ao:=List.pairwise_cons.1 h.Sf;have aj:=h.xR x List.mem_cons_self;have hl: ∀ t,Pr.fE l t=true→x.ab < t:=fun t ht=>by
  obtain⟨v,an,h1,G⟩:=Pr.Oa.1 ht;have:=ao.1 v an;omega
 refine⟨fun t ht=> ?_,?_,?_,fun t h1 G=> ?_,fun t=> ?_⟩
 ·rw[Pr.fE,Bool.or_eq_true] at ht;rcases ht with ht|ht
  ·simp only[Pr.qi,decide_eq_true_eq] at ht;omega
  ·have:=hl t ht;omega
 ·rw[Pr.fE,show Pr.qi x x.R=true from decide_eq_true (by omega),Bool.true_or]
 ·cases ad:Pr.fE (x::l) x.ab
  ·rfl
  ·rw[Pr.fE,show Pr.qi x x.ab=false from decide_eq_false (by omega),Bool.false_or] at ad;have:=hl _ ad;omega
 ·rw[Pr.fE,show Pr.qi x t=true from decide_eq_true (by omega),Bool.true_or]
 ·rw[Pr.fE]
  by_cases h1:x.ab < t
  ·rw[show Pr.qi x t=false from decide_eq_false (by omega),decide_eq_true h1,Bool.false_or,Bool.and_true]
  ·rw[decide_eq_false h1,Bool.and_false];cases ad:Pr.fE l t
   ·rfl
   ·have:=hl t ad;omega
theorem aLS: ∀ {l m:List Pr.bx} {e f:Int},Pr.hY l e→Pr.hY m f→(∀ t,Pr.fE l t=Pr.fE m t)→l=m
 | [],[],_,_,_,_,_=>rfl
 | [],d::m,_,_,_,hm,h=>by
  have:=(aLT hm).2.1;rw[←h] at this;simp[Pr.fE] at this
 |x::l,[],_,_,hl,_,h=>by
  have:=(aLT hl).2.1;rw[h] at this;simp[Pr.fE] at this
 |x::l,d::m,e,f,hl,hm,h=>by
  obtain⟨cH,ff,a3,a4,a5⟩:=aLT hl;obtain⟨b1,eJ,lX,Kd,uc⟩:=aLT hm;have aj:=hl.xR x List.mem_cons_self;have bt:=hm.xR d List.mem_cons_self;have bF:x.R=d.R:=by
   have:=cH d.R (by rw[h];exact eJ);have:=b1 x.R (by rw[←h];exact ff);omega
  have bK:x.ab=d.ab:=by
   by_cases J:x.ab < d.ab
   ·have:=Kd x.ab (by omega) J;rw[←h,a3] at this;cases this
   ·by_cases c2:d.ab < x.ab
    ·have:=a4 d.ab (by omega) c2;rw[h,lX] at this;cases this
    ·omega
  have gX:l=m:=aLS (e:=e) (f:=f) ⟨(List.pairwise_cons.1 hl.Sf).2,fun v an=>hl.xR v (List.mem_cons_of_mem _ an),fun v an=>hl.vz v (List.mem_cons_of_mem _ an)⟩ ⟨(List.pairwise_cons.1 hm.Sf).2,fun v an=>hm.xR v (List.mem_cons_of_mem _ an),fun v an=>hm.vz v (List.mem_cons_of_mem _ an)⟩ fun t=>by rw[a5,uc,h,bK]
  cases x;cases d;simp only at bF bK;rw[bF,bK,gX]
theorem aOB {l os:List Pr.bx}{e aW cO Js:Int}(h:Pr.dd e aW l=true)(hN:e≤aW)(bp:Pr.dd cO Js os=true):aKW l os=Pr.mx l os []:=by
 obtain⟨a,b⟩:=aL9 (os:=os) h hN;obtain⟨J,B⟩:=Pr.ajf (z:= []) bp h hN Pr.UA;exact aLS a J fun t=>by rw[b,B];simp[Pr.fE]
def aKT:List Pr.bx→Int→Int→List Pr.bx
 | [],_,_=> []
 |v::l,a,k=>(if max a 0 < min (a+k) (v.ab-v.R) then [⟨v.R+max a 0,v.R+min (a+k) (v.ab-v.R)⟩] else [])++aKT l (a-(v.ab-v.R)) k
theorem aMT: ∀ {l:List Pr.bx} {a k t:Int},Pr.fE (aKT l a k) t=true→Pr.fE l t=true
 | [],_,_,_,h=>h
 |v::l,a,k,t,h=>by
  rw[aKT,Pr.N9,Bool.or_eq_true] at h;rw[Pr.fE,Bool.or_eq_true];rcases h with h|h
  ·split at h
   ·rw[Pr.fE,Pr.fE,Bool.or_false] at h;simp only[Pr.qi,decide_eq_true_eq] at h ⊢;exact .inl (by omega)
   ·simp[Pr.fE] at h
  ·exact .inr (aMT h)
theorem aMU {l:List Pr.bx}{f t:Int}(h: ∀ v∈l,f < v.R)(ht:t≤f):Pr.fE l t=false:=by
 cases ad:Pr.fE l t
 ·rfl
 ·obtain⟨v,an,h1,G⟩:=Pr.Oa.1 ad;have:=h v an;omega
theorem aMV: ∀ {l z:List Pr.bx} {a k e:Int},0≤k→l.Pairwise (fun u v=>u.ab < v.R)→(∀ v∈l,v.R < v.ab)→(∀ v∈l,e≤v.R)→Pr.hY z e→
 (∃ el,Pr.hY (Pr.rb l a k z) el)∧ ∀ t,Pr.fE (Pr.rb l a k z) t=(Pr.fE z t||(Pr.fE l t&& !Pr.fE (aKT l a k) t))
 | [],z,a,k,e,_,_,_,_,N=>⟨⟨e,N⟩,fun t=>by simp[Pr.rb,Pr.fE]⟩
 |v::l,z,a,k,e,O,ao,hne,he,N=>by
  rw[List.pairwise_cons] at ao;have an:=hne v (by simp);have aGk:=he v (by simp);obtain⟨cH,b1⟩:=Pr.Jr (v:=⟨v.R,v.R+min (max a 0) (v.ab-v.R)⟩) N aGk;obtain⟨ff,eJ⟩:=Pr.Jr (v:=⟨v.R+min (max (a+k) 0) (v.ab-v.R),v.ab⟩) cH (by simp only;omega);obtain⟨J,B⟩:=aMV (a:=a-(v.ab-v.R)) (e:=v.ab) O ao.2 (fun x aj=>hne x (by simp[aj])) (fun x aj=>by have:=ao.1 x aj;omega) (ff.mono (by simp only;omega));rw[Pr.rb];refine⟨J,fun t=> ?_⟩;rw[B,eJ,b1,aKT,Pr.N9,Pr.fE,Bool.or_assoc,Bool.or_assoc];congr 1
  by_cases ht:t < v.ab
  ·have h1:Pr.fE l t=false:=aMU ao.1 (by omega);have G:Pr.fE (aKT l (a-(v.ab-v.R)) k) t=false:=by
    cases ad:Pr.fE (aKT l (a-(v.ab-v.R)) k) t
    ·rfl
    ·rw[aMT ad] at h1;cases h1
   rw[h1,G,Bool.false_and,Bool.or_false,Bool.or_false,Bool.or_false,Bool.eq_iff_iff];split
   ·simp only[Pr.fE,Pr.qi,Bool.or_false,Bool.or_eq_true,Bool.and_eq_true,Bool.not_eq_true',decide_eq_true_eq,decide_eq_false_iff_not];omega
   ·simp only[Pr.fE,Pr.qi,Bool.or_false,Bool.or_eq_true,Bool.and_eq_true,Bool.not_false,decide_eq_true_eq,and_true];omega
  ·rw[show Pr.qi v t=false from decide_eq_false (by omega),show Pr.qi ⟨v.R,v.R+min (max a 0) (v.ab-v.R)⟩ t=false from decide_eq_false (by simp only;omega),show Pr.qi ⟨v.R+min (max (a+k) 0) (v.ab-v.R),v.ab⟩ t=false from decide_eq_false (by simp only;omega)];have h0:Pr.fE (if max a 0 < min (a+k) (v.ab-v.R) then [⟨v.R+max a 0,v.R+min (a+k) (v.ab-v.R)⟩] else []) t=false:=by
    split
    ·rw[Pr.fE,Pr.fE,Bool.or_false];exact decide_eq_false (by simp only;omega)
    ·rfl
   rw[h0];simp
theorem aLD {aW:Int}: ∀ {l:List Pr.bx} {e:Int},l.Pairwise (fun u v=>u.ab < v.R)→(∀ v∈l,v.R < v.ab∧e≤v.R∧v.ab≤aW)→Pr.dd e aW l=true
 | [],_,_,_=>rfl
 |v::l,e,ao,h=>by
  rw[List.pairwise_cons] at ao;have an:=h v List.mem_cons_self;rw[rI];exact⟨⟨by omega,by omega,by omega⟩,aLD ao.2 fun x aj=>by have:=ao.1 x aj;have:=h x (List.mem_cons_of_mem _ aj);omega⟩
theorem aOu {l:List Pr.bx}{a k e aW:Int}(O:0≤k)(ao:l.Pairwise fun u v=>u.ab < v.R)(h: ∀ v∈l,v.R < v.ab∧e≤v.R∧v.ab≤aW)(hN:e≤aW):aKW l (aKT l a k)=Pr.rb l a k []:=by
 obtain⟨x,d⟩:=aL9 (os:=aKT l a k) (aLD ao h) hN;obtain⟨⟨el,J⟩,B⟩:=aMV (a:=a) (z:= []) O ao (fun v an=>(h v an).1) (fun v an=>(h v an).2.1) Pr.UA;exact aLS x J fun t=>by rw[d,B];simp[Pr.fE]
theorem aMW: ∀ {l z:List Pr.bx} {a k:Int},0≤k→Pr.gz l→Pr.gz z→Pr.gz (Pr.rb l a k z)∧Pr.da (Pr.rb l a k z)=Pr.da z+Pr.da l-(min (max (a+k) 0) (Pr.da l)-min (max a 0) (Pr.da l))
 | [],z,a,k,_,_,N=>⟨N,by simp only[Pr.rb,Pr.da];omega⟩
 |v::l,z,a,k,O,hl,N=>by
  have an:=hl v List.mem_cons_self;have lp:Pr.gz l:=fun x aj=>hl x (List.mem_cons_of_mem _ aj);have h0:=Pr.Jz lp;obtain⟨cH,b1⟩:=Pr.sS (v:=⟨v.R,v.R+min (max a 0) (v.ab-v.R)⟩) N (by simp only;omega) (by simp only;omega);obtain⟨ff,eJ⟩:=Pr.sS (v:=⟨v.R+min (max (a+k) 0) (v.ab-v.R),v.ab⟩) cH (by simp only;omega) (by simp only;omega);obtain⟨J,B⟩:=aMW (a:=a-(v.ab-v.R)) O lp ff;rw[Pr.rb];refine⟨J,?_⟩;rw[B,eJ,b1,Pr.da];simp only;omega
theorem aNs {l:List Pr.bx}{e:Int}{v:Pr.bx}(h:Pr.hY l e)(h1:e < v.R)(G:v.R < v.ab):Pr.hY (l++ [v]) v.ab:=by
 refine⟨List.pairwise_append.2 ⟨h.Sf,by simp,fun a aC b af=> ?_⟩,fun a aC=> ?_,fun a aC=> ?_⟩
 ·rw[List.mem_singleton] at af;subst af;have:=h.vz a aC;omega
 ·rcases List.mem_append.1 aC with aC|aC
  ·exact h.xR a aC
  ·rw[List.mem_singleton] at aC;subst aC;exact G
 ·rcases List.mem_append.1 aC with aC|aC
  ·have:=h.vz a aC;omega
  ·rw[List.mem_singleton] at aC;subst aC;exact Int.le_refl _
theorem aNt {aW:Int}{os:List Pr.bx}{e t:Int}(h:Pr.dd e aW os=true)(ht:t < e):Pr.fE os t=false:=Pr.Uz h ht
theorem aNu {t aW:Int}: ∀ {b acc:List Pr.bx} {f e:Int},Pr.dd e aW b=true→Pr.hY acc (f-1)→(∀ v∈acc,v.ab≤t)→
 Pr.hY (hS t f b acc).1 ((hS t f b acc).2-1)∧(∀ v∈(hS t f b acc).1,v.ab≤t)∧f≤(hS t f b acc).2∧
 (∀ x,Pr.fE (hS t f b acc).1 x=(Pr.fE acc x||(decide (f≤x∧x < (hS t f b acc).2∧x < t)&& !Pr.fE b x)))∧ ∀ x,(hS t f b acc).2≤x→x < t→Pr.fE b x=false
 | [],acc,f,e,_,h,ht=>⟨h,ht,Int.le_refl _,fun x=>by show Pr.fE acc x=(Pr.fE acc x||(decide (f≤x∧x < f∧x < t)&& !false));rw[decide_eq_false (by omega)];simp,fun _ _ _=>rfl⟩
 |o::os,acc,f,e,af,h,ht=>by
  rw[rI] at af;unfold hS
  by_cases bp:o.R < t
  ·rw[if_pos bp];have ju:Pr.hY (if f < o.R then acc++ [⟨f,o.R⟩] else acc) (max f o.ab-1):=by
    split
    ·exact (aNs (v:=⟨f,o.R⟩) h (by simp only;omega) (by assumption)).mono (by simp only;omega)
    ·exact h.mono (by omega)
   have hN: ∀ v∈(if f < o.R then acc++ [⟨f,o.R⟩] else acc),v.ab≤t:=fun v an=>by
    split at an
    ·rcases List.mem_append.1 an with an|an
     ·exact ht v an
     ·rw[List.mem_singleton] at an;subst an;simp only;omega
    ·exact ht v an
   have ad: ∀ x,Pr.fE (if f < o.R then acc++ [⟨f,o.R⟩] else acc) x=(Pr.fE acc x||decide (f≤x∧x < o.R)):=fun x=>by
    split
    ·rw[Pr.N9];simp only[Pr.fE,Pr.qi,Bool.or_false]
    ·rw[decide_eq_false (by omega),Bool.or_false]
   obtain⟨a,b,J,B,g⟩:=aNu (f:=max f o.ab) af.2 ju hN;generalize hS t (max f o.ab) os (if f < o.R then acc++ [⟨f,o.R⟩] else acc)=p at *;refine⟨a,b,by omega,fun x=> ?_,fun x aj aNv=> ?_⟩
   ·rw[B,ad,Bool.or_assoc];congr 1
    by_cases aj:x < o.ab
    ·rw[Pr.fE,aNt af.2 aj,Bool.or_false,Bool.not_false,Bool.and_true,Bool.eq_iff_iff];simp only[Pr.qi,Bool.or_eq_true,Bool.and_eq_true,Bool.not_eq_true',decide_eq_true_eq,decide_eq_false_iff_not];omega
    ·rw[Pr.fE,show Pr.qi o x=false from decide_eq_false (by omega),Bool.false_or,decide_eq_false (p:=f≤x∧x < o.R) (by omega),Bool.false_or];congr 1;rw[Bool.eq_iff_iff];simp only[decide_eq_true_eq];omega
   ·rw[Pr.fE,g x aj aNv,show Pr.qi o x=false from decide_eq_false (by omega)];rfl
  ·rw[if_neg bp];refine⟨h,ht,Int.le_refl _,fun x=> ?_,fun x aj aNv=> ?_⟩
   ·simp only;rw[decide_eq_false (by omega)];simp
   ·rw[Pr.fE,aNt af.2 (by omega),show Pr.qi o x=false from decide_eq_false (by omega)];rfl
theorem aLJ {f x:Int}(h:f≤x): ∀ {b:List Pr.bx},Pr.fE (oA f b) x=Pr.fE b x
 | []=>rfl
 |o::os=>by
  rw[oA];split
  ·rw[aLJ h,Pr.fE,show Pr.qi o x=false from decide_eq_false (by omega),Bool.false_or]
  ·rfl
theorem aPy {aW e:Int}{I:Pr.bx}(ao:I.R < I.ab){b acc:List Pr.bx}(af:Pr.dd e aW b=true)(h:Pr.hY acc (I.R-1)):Pr.hY (Ax I b acc) I.ab∧ ∀ x,Pr.fE (Ax I b acc) x=(Pr.fE acc x||(Pr.qi I x&& !Pr.fE b x)):=by
 obtain⟨⟨cO,he⟩,_⟩:=SP (f:=I.R) af;obtain⟨a,ff,J,B,g⟩:=aNu (t:=I.ab) he h fun v an=>by have:=h.vz v an;omega
 unfold Ax;generalize hS I.ab I.R (oA I.R b) acc=p at *
 by_cases hf:p.2 < I.ab
 ·rw[if_pos hf];refine⟨aNs (v:=⟨p.2,I.ab⟩) a (by simp only;omega) hf,fun x=> ?_⟩;rw[Pr.N9,B,Bool.or_assoc];congr 1
  by_cases aj:I.R≤x
  ·rw[aLJ aj]
   by_cases Rx:p.2≤x∧x < I.ab
   ·have au:=g x Rx.1 Rx.2;rw[aLJ aj] at au;rw[au,Bool.eq_iff_iff];simp only[Pr.fE,Pr.qi,Bool.or_false,Bool.or_eq_true,Bool.and_eq_true,Bool.not_false,decide_eq_true_eq,and_true];omega
   ·rw[show Pr.fE [⟨p.2,I.ab⟩] x=false from by simp only[Pr.fE,Pr.qi,Bool.or_false];exact decide_eq_false Rx,Bool.or_false];congr 1;rw[Bool.eq_iff_iff];simp only[Pr.qi,decide_eq_true_eq];omega
  ·rw[decide_eq_false (p:=I.R≤x∧x < p.2∧x < I.ab) (by omega),show Pr.qi I x=false from decide_eq_false (by omega),show Pr.fE [⟨p.2,I.ab⟩] x=false from by simp only[Pr.fE,Pr.qi,Bool.or_false];exact decide_eq_false (by omega)];rfl
 ·rw[if_neg hf];refine⟨⟨a.Sf,a.xR,ff⟩,fun x=> ?_⟩;rw[B];congr 1
  by_cases aj:I.R≤x
  ·rw[aLJ aj];congr 1;rw[Bool.eq_iff_iff];simp only[Pr.qi,decide_eq_true_eq];omega
  ·rw[decide_eq_false (p:=I.R≤x∧x < p.2∧x < I.ab) (by omega),show Pr.qi I x=false from decide_eq_false (by omega)];rfl
theorem aNw {aW:Int}: ∀ {a b acc:List Pr.bx} {e h:Int},Pr.dd e aW b=true→a.Pairwise (fun u v=>u.ab < v.R)→(∀ v∈a,v.R < v.ab∧h≤v.R)→Pr.hY acc (h-1)→
 (∃ el,Pr.hY (pm a b acc) el)∧ ∀ x,Pr.fE (pm a b acc) x=(Pr.fE acc x||(Pr.fE a x&& !Pr.fE b x))
 | [],b,acc,e,h,_,_,_,ju=>⟨⟨_,ju⟩,fun x=>by simp[pm,Pr.fE]⟩
 |I::a,b,acc,e,h,af,ao,aH,ju=>by
  rw[List.pairwise_cons] at ao;have an:=aH I List.mem_cons_self;obtain⟨⟨cO,he⟩,_⟩:=SP (f:=I.R) af;obtain⟨f,g⟩:=aPy an.1 af (ju.mono (by omega));obtain⟨J,B⟩:=aNw (a:=a) (acc:=Ax I b acc) (h:=I.ab+1) he ao.2 (fun v gl=>⟨(aH v (List.mem_cons_of_mem _ gl)).1,by have:=ao.1 v gl;omega⟩) (f.mono (by omega));rw[pm];refine⟨J,fun x=> ?_⟩;rw[B,g,Pr.fE,Bool.or_assoc];congr 1
  by_cases aj:I.R≤x
  ·rw[aLJ aj,Bool.and_or_distrib_right]
  ·rw[show Pr.qi I x=false from decide_eq_false (by omega),aMU (l:=a) (f:=I.ab) (fun v an=>ao.1 v an) (by omega)];rfl
theorem aPx {a b eE:List Pr.bx}{e f aW Js:Int}(af:Pr.dd e aW b=true)(ad: ∀ x,Pr.fE eE x=Pr.fE b x)(ao:a.Pairwise fun u v=>u.ab < v.R)(aH: ∀ v∈a,v.R < v.ab∧f≤v.R∧v.ab≤Js)(hN:f≤Js):aKW a eE=pm a b []:=by
 obtain⟨x,d⟩:=aL9 (os:=eE) (aLD ao aH) hN;obtain⟨⟨el,J⟩,B⟩:=aNw (acc:= []) (h:=f) af ao (fun v an=>⟨(aH v an).1,(aH v an).2.1⟩) Pr.UA;exact aLS x J fun t=>by rw[d,B,ad];simp[Pr.fE]
end Go.Proofs.YtpincjkjoeopkaaGreatDoor
namespace Go.Proofs.YtpincjkjoeopkaaGreatDoor
open Go Go.Abs Go.Proofs.Tryz
open Go.Sort (SWO)
def ayX:Go.Shelf.Ren:=
 {f:=fun x=>match x with|6=>72|15=>158|14=>157|28=>241|29=>242|20=>233|21=>234|22=>235|23=>236|24=>237|25=>238|26=>239|27=>240|46=>289|47=>290|48=>291|49=>292|50=>293|57=>342|n=>n,
  t:=fun x=>match x with|22=>60|24=>64|25=>162|3=>3|39=>284|0=>0|53=>347|55=>349|4=>4|46=>341|45=>340|50=>206|5=>5|9=>9|66=>376|70=>380|76=>412|77=>308|n=>n,
  g:=fun n=>n}
set_option maxRecDepth 100000 in
theorem ayY:SlLaysF0.n6 prog ayX where
 mixed:=by kernel_rfl
 f6:=⟨"slices.SortFunc[[]payroll/api.Interval,payroll/api.Interval]",by decide,Eq.trans func72 (congrArg some (by kernel_rfl))⟩
 f14:=⟨"slices.pdqsortCmpFunc[payroll/api.Interval]",by decide,Eq.trans func157 (congrArg some (by kernel_rfl))⟩
 f15:=Eq.trans func158 (congrArg some (by kernel_rfl))
 f20:=⟨"slices.insertionSortCmpFunc[payroll/api.Interval]",by decide,Eq.trans func233 (congrArg some (by kernel_rfl))⟩
 f21:=⟨"slices.heapSortCmpFunc[payroll/api.Interval]",by decide,Eq.trans func234 (congrArg some (by kernel_rfl))⟩
 f22:=⟨"slices.breakPatternsCmpFunc[payroll/api.Interval]",by decide,Eq.trans func235 (congrArg some (by kernel_rfl))⟩
 f23:=⟨"slices.choosePivotCmpFunc[payroll/api.Interval]",by decide,Eq.trans func236 (congrArg some (by kernel_rfl))⟩
 f24:=⟨"slices.reverseRangeCmpFunc[payroll/api.Interval]",by decide,Eq.trans func237 (congrArg some (by kernel_rfl))⟩
 f25:=⟨"slices.partialInsertionSortCmpFunc[payroll/api.Interval]",by decide,Eq.trans func238 (congrArg some (by kernel_rfl))⟩
 f26:=⟨"slices.partitionEqualCmpFunc[payroll/api.Interval]",by decide,Eq.trans func239 (congrArg some (by kernel_rfl))⟩
 f27:=⟨"slices.partitionCmpFunc[payroll/api.Interval]",by decide,Eq.trans func240 (congrArg some (by kernel_rfl))⟩
 f28:=Eq.trans func241 (congrArg some (by kernel_rfl))
 f29:=Eq.trans func242 (congrArg some (by kernel_rfl))
 f46:=⟨"slices.siftDownCmpFunc[payroll/api.Interval]",by decide,Eq.trans func289 (congrArg some (by kernel_rfl))⟩
 f47:=Eq.trans func290 (congrArg some (by kernel_rfl))
 f48:=Eq.trans func291 (congrArg some (by kernel_rfl))
 f49:=⟨"slices.medianAdjacentCmpFunc[payroll/api.Interval]",by decide,Eq.trans func292 (congrArg some (by kernel_rfl))⟩
 f50:=⟨"slices.medianCmpFunc[payroll/api.Interval]",by decide,Eq.trans func293 (congrArg some (by kernel_rfl))⟩
 f57:=⟨"slices.order2CmpFunc[payroll/api.Interval]",by decide,Eq.trans func342 (congrArg some (by kernel_rfl))⟩
 t0:=underlying0
 a0:=isAgg0
 z0:=sizeOf0
 v0:=zeroValue0
 t3:=underlying3
 a3:=isAgg3
 z3:=sizeOf3
 v3:=zeroValue3
 t4:=underlying4
 a4:=isAgg4
 z4:=sizeOf4
 v4:=zeroValue4
 t5:=underlying5
 a5:=isAgg5
 z5:=sizeOf5
 v5:=zeroValue5
 t9:=underlying9
 a9:=isAgg9
 z9:=sizeOf9
 v9:=zeroValue9
 t22:=underlying60
 a22:=isAgg60
 z22:=sizeOf60
 v22:=zeroValue60
 t25:=underlying162
 a25:=isAgg162
 z25:=sizeOf162
 v25:=zeroValue162
 t39:=underlying284
 a39:=isAgg284
 z39:=sizeOf284
 v39:=zeroValue284
 t45:=underlying340
 a45:=isAgg340
 z45:=sizeOf340
 v45:=zeroValue340
 t46:=underlying341
 a46:=isAgg341
 z46:=sizeOf341
 v46:=zeroValue341
 t50:=underlying206
 a50:=isAgg206
 z50:=sizeOf206
 v50:=zeroValue206
 t53:=underlying347
 a53:=isAgg347
 z53:=sizeOf347
 v53:=zeroValue347
 t55:=underlying349
 a55:=isAgg349
 z55:=sizeOf349
 v55:=zeroValue349
 t66:=underlying376
 a66:=isAgg376
 z66:=sizeOf376
 v66:=zeroValue376
 t70:=underlying380
 a70:=isAgg380
 z70:=sizeOf380
 v70:=zeroValue380
 t76:=underlying412
 a76:=isAgg412
 z76:=sizeOf412
 v76:=zeroValue412
 t77:=underlying308
 a77:=isAgg308
 z77:=sizeOf308
 v77:=zeroValue308
section
variable [iZ:dE]
theorem ayZ (a b:Pr.bx):aO prog 73 [.agg (aJ.J a),.agg (aJ.J b)] [] (fun v rs=>v= .int .i64 (gT a.R b.R)∧rs= []):=by
 refine cu func73 ach (by simp[MQ,SR]) ?_;simp only[go_sem,MQ,SR,Pr.eY];refine bM (yw _ _) rfl rfl ?_;simp only[go_sem];exact E.bg rfl ⟨rfl,rfl⟩
end
instance:uR Pr.bx:=⟨fun _=>rfl⟩
instance:Inhabited Pr.bx:=⟨⟨0,0⟩⟩
theorem MR {a b:Int}:gT a b < 0↔a < b:=by
 unfold gT;split
 ·simp_all
 ·split<;>simp_all
theorem aza:SWO (ltOf fun a b:Pr.bx=>gT a.R b.R):=by
 refine⟨fun a=> ?_,fun a b J=> ?_,fun a b J=> ?_⟩
 ·simp only[ltOf,decide_eq_false_iff_not,MR];omega
 ·simp only[ltOf,decide_eq_true_eq,MR];omega
 ·simp only[ltOf,decide_eq_false_iff_not,MR];omega
theorem azb (l:List Pr.bx)(hl:l.length < 4611686018427387904):aO prog 72 [.own 0 l.length 0 l.length,.fn 73 []] [.ag 64 2 (ai l)]
 (fun v rs=>v= .bo []∧ ∃ cb:List Pr.bx,cb.Perm l∧cb.Pairwise (fun x d=>x.R≤d.R)∧rs= [.ag 64 2 (ai cb)]):=by
 refine aO.Hg inferInstance ?_;refine @aO.mono (dE.aD inferInstance) _ _ _ _ _ _ (@aO.G5 (dE.aD inferInstance) trivial Pr.bx _ _ _ _ _ _ _ 64 ayY rfl isAgg64 sizeOf64 (fun a b=>gT a.R b.R) aza (@ayZ (dE.aD inferInstance)) (enters_of func73 (by kernel_rfl) rfl) l hl) ?_;rintro v rs ⟨rfl,cb,h1,G,rfl⟩;exact⟨rfl,cb,h1,G.imp fun {x d} h=>by rw[MR] at h;omega,rfl⟩
end Go.Proofs.YtpincjkjoeopkaaGreatDoor
namespace Go.Proofs.YtpincjkjoeopkaaGreatDoor
open Go Go.Abs
def Iw (x d:Pr.bx):Bool:=decide (x.R≤d.R)
def Fe (tk w:List Pr.bx):List Pr.bx:=(tk++w).mergeSort Iw
theorem Se {aW:Int}: ∀ {l:List Pr.bx} {e:Int},(∀ x∈l,e≤x.R∧x.R < x.ab∧x.ab≤aW)→l.Pairwise (fun x d=>x.ab≤d.R)→Pr.dd e aW l=true
 | [],_,_,_=>rfl
 |b::z,e,h,ak=>by
  rw[List.pairwise_cons] at ak;rw[rI];exact⟨h b List.mem_cons_self,Se (fun x aj=>⟨ak.1 x aj,(h x (List.mem_cons_of_mem _ aj)).2⟩) ak.2⟩
theorem Ix {aW:Int}: ∀ {l:List Pr.bx} {e:Int},Pr.dd e aW l=true→l.Pairwise (fun x d=>x.ab≤d.R)
 | [],_,_=>List.Pairwise.nil
 |b::z,e,h=>by
  rw[rI] at h;exact List.pairwise_cons.2 ⟨fun x aj=>(wG h.2 x aj).1,Ix h.2⟩
theorem abO {x d:Pr.bx}(h:nR x d):nR d x:=Or.symm h
theorem ayd {aW:Int}{tk w:List Pr.bx}(h1:Pr.dd 0 aW tk=true)(G:Pr.dd 0 aW w=true)(ay: ∀ x∈w,∀ o∈tk,nR x o): (tk++w).Pairwise nR:=
 List.pairwise_append.2 ⟨(Ix h1).imp fun h=> .inl h,(Ix G).imp fun h=> .inl h,fun x aj d bt=>abO (ay d bt x aj)⟩
theorem SH {aW:Int}{l cb:List Pr.bx}(hl: ∀ x∈l,0≤x.R∧x.R < x.ab∧x.ab≤aW)(ay:l.Pairwise nR)(ak:cb.Perm l)(ao:cb.Pairwise fun x d=>x.R≤d.R):Pr.dd 0 aW cb=true:=by
 have mS:cb.Pairwise nR:=(ak.pairwise_iff (fun h=>abO h)).2 ay;have iJ: ∀ x∈cb,0≤x.R∧x.R < x.ab∧x.ab≤aW:=fun x aj=>hl x (ak.mem_iff.1 aj);refine Se iJ ?_;refine (ao.and mS).imp_of_mem fun {x d} aj bt h=> ?_;have a:=iJ x aj;have b:=iJ d bt;unfold nR at h;omega
theorem aye {aW:Int}{l mN nv:List Pr.bx}(hl: ∀ x∈l,0≤x.R∧x.R < x.ab∧x.ab≤aW)(ay:l.Pairwise nR)(iK:mN.Perm l)(lo:mN.Pairwise fun x d=>x.R≤d.R)(Ci:nv.Perm l)(vX:nv.Pairwise fun x d=>x.R≤d.R):mN=nv:=by
 have p1:=Ix (SH hl ay iK lo);have iT:=Ix (SH hl ay Ci vX);refine (iK.trans Ci.symm).eq_of_pairwise (fun a b aC af au bv=> ?_) p1 iT;have cH:=hl a (iK.mem_iff.1 aC);have b1:=hl b (Ci.mem_iff.1 af);omega
theorem SI (tk w:List Pr.bx): (Fe tk w).Perm (tk++w):=List.mergeSort_perm _ _
theorem abP (tk w:List Pr.bx): (Fe tk w).Pairwise fun x d=>x.R≤d.R:=by
 have:=List.pairwise_mergeSort (le:=Iw) (fun a b J h1 G=>by simp only[Iw,decide_eq_true_eq] at *;omega) (fun a b=>by simp only[Iw,Bool.or_eq_true,decide_eq_true_eq];omega) (tk++w);exact this.imp fun h=>by simpa[Iw] using h
theorem ayf {aW:Int}{tk w:List Pr.bx}(h1:Pr.dd 0 aW tk=true)(G:Pr.dd 0 aW w=true)(ay: ∀ x∈w,∀ o∈tk,nR x o):Pr.dd 0 aW (Fe tk w)=true∧ ∀ cb,cb.Perm (tk++w)→cb.Pairwise (fun x d=>x.R≤d.R)→cb=Fe tk w:=by
 have hl: ∀ x∈tk++w,0≤x.R∧x.R < x.ab∧x.ab≤aW:=fun x aj=>by
  rcases List.mem_append.1 aj with aj|aj
  ·exact wG h1 x aj
  ·exact wG G x aj
 have ak:=ayd h1 G ay;exact⟨SH hl ak (SI _ _) (abP _ _),fun cb aC af=>aye hl ak aC af (SI _ _) (abP _ _)⟩
open Go.Proofs.Tryz
def rF (z:eD):Prop:=z.fz < 1∨10080 < z.fz∨z.er < 0∨1440 < z.er∨z.ex < 0∨1440 < z.ex
instance (z:eD):Decidable (rF z):=inferInstanceAs (Decidable (z.fz < 1∨10080 < z.fz∨z.er < 0∨1440 < z.er∨z.ex < 0∨1440 < z.ex))
def qL (z:eD):Int:=if fe z.M≠0 then fe z.M else if rF z then 2 else if Pr.mq z.dK≠0 then Pr.mq z.dK else if Ib.lA z.ia≠0 then Ib.lA z.ia else Pm.vm z.M z.ao z.al
theorem aBW (z:eD)(hh:z.ao.length≤1000000)(aP:z.al.length≤1000000):aO prog 57 [.agg z.J] [] (fun v rs=>v= .int .i64 (qL z)∧rs= []):=by
 have bO:=Ch z.M;have cd:=Pr.Re z.dK;have fk:=Ib.lQ z.ia;have hB:=Pm.agv z.M z.ao (by omega) z.al aP;unfold cc.v at bO hB;unfold Ib.ib.v at fk;simp only[Pr.Ab] at cd;refine cu func57 acL (by simp[MX,SZ]) ?_;unfold eD.J;simp only[go_sem,MX,SZ];refine bM bO (by simp only[bU,bJ,ck,Bool.and_self,Bool.and_true]) rfl ?_;unfold qL
 by_cases h1:fe z.M=0
 rotate_left
 ·have q1: (fe z.M != 0)=true:=by simp[h1]
  simp only[go_sem,q1];exact E.bg rfl ⟨by rw[if_pos h1],rfl⟩
 have q1: (fe z.M != 0)=false:=by simp[h1]
 rw[if_neg (by omega)]
 by_cases b0:z.fz < 1
 ·have g0:decide (z.fz < 1)=true:=decide_eq_true b0;simp only[go_sem,q1,g0];exact E.bg rfl ⟨by rw[if_pos (by unfold rF;omega)],rfl⟩
 have g0:decide (z.fz < 1)=false:=decide_eq_false b0
 by_cases b1:10080 < z.fz
 ·have g1:decide (10080 < z.fz)=true:=decide_eq_true b1;simp only[go_sem,q1,g0,g1];exact E.bg rfl ⟨by rw[if_pos (by unfold rF;omega)],rfl⟩
 have g1:decide (10080 < z.fz)=false:=decide_eq_false b1
 by_cases eJ:z.er < 0
 ·have bR:decide (z.er < 0)=true:=decide_eq_true eJ;simp only[go_sem,q1,g0,g1,bR];exact E.bg rfl ⟨by rw[if_pos (by unfold rF;omega)],rfl⟩
 have bR:decide (z.er < 0)=false:=decide_eq_false eJ
 by_cases lX:1440 < z.er
 ·have dq:decide (1440 < z.er)=true:=decide_eq_true lX;simp only[go_sem,q1,g0,g1,bR,dq];exact E.bg rfl ⟨by rw[if_pos (by unfold rF;omega)],rfl⟩
 have dq:decide (1440 < z.er)=false:=decide_eq_false lX
 by_cases Kd:z.ex < 0
 ·have gP:decide (z.ex < 0)=true:=decide_eq_true Kd;simp only[go_sem,q1,g0,g1,bR,dq,gP];exact E.bg rfl ⟨by rw[if_pos (by unfold rF;omega)],rfl⟩
 have gP:decide (z.ex < 0)=false:=decide_eq_false Kd
 by_cases uc:1440 < z.ex
 ·have uN:decide (1440 < z.ex)=true:=decide_eq_true uc;simp only[go_sem,q1,g0,g1,bR,dq,gP,uN];exact E.bg rfl ⟨by rw[if_pos (by unfold rF;omega)],rfl⟩
 have uN:decide (1440 < z.ex)=false:=decide_eq_false uc;rw[if_neg (by unfold rF;omega)];simp only[go_sem,q1,g0,g1,bR,dq,gP,uN];refine bM cd (by simp only[bU,bJ,ck,Bool.and_self,Bool.and_true]) rfl ?_
 by_cases G:Pr.mq z.dK=0
 rotate_left
 ·have eQ: (Pr.mq z.dK != 0)=true:=by simp[G]
  simp only[go_sem,eQ];exact E.bg rfl ⟨by rw[if_pos G],rfl⟩
 have eQ: (Pr.mq z.dK != 0)=false:=by simp[G]
 rw[if_neg (by omega)];simp only[go_sem,eQ];refine bM fk (by simp only[bU,bJ,ck,Bool.and_self,Bool.and_true]) rfl ?_
 by_cases au:Ib.lA z.ia=0
 rotate_left
 ·have eF: (Ib.lA z.ia != 0)=true:=by simp[au]
  simp only[go_sem,eF];exact E.bg rfl ⟨by rw[if_pos au],rfl⟩
 have eF: (Ib.lA z.ia != 0)=false:=by simp[au]
 rw[if_neg (by omega)];simp only[go_sem,eF];refine bM hB (by simp only[bU,bJ,ck,Bool.and_self,Bool.and_true]) rfl ?_;simp only[go_sem];exact E.bg rfl ⟨rfl,rfl⟩
end Go.Proofs.YtpincjkjoeopkaaGreatDoor
