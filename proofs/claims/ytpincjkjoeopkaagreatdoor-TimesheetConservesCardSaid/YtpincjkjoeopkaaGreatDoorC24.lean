/- Presences and working time. -/
import Derived.Test.YtpincjkjoeopkaaGreatDoorC23
set_option linter.all false
namespace Go.Proofs.YtpincjkjoeopkaaGreatDoor.Pr
open Go Go.Abs
def qi (v:bx)(t:Int):Bool:=decide (v.R<=t/\t<v.ab)
def fE:List bx->Int->Bool
 | [],_=>false
 |v::l,t=>qi v t||fE l t
theorem N9:∀{l z:List bx} {t:Int},fE (l++z) t=(fE l t||fE z t)
 | [],_,_=>by simp[fE]
 |v::l,z,t=>by rw[aLx,fE,fE,N9,aOH]
theorem Oa:∀{l:List bx} {t:Int},fE l t=true↔ ∃v∈l,v.R<=t/\t<v.ab
 | [],t=>by simp[fE]
 |v::l,t=>by
  rw[fE,aLP,Oa,qi,aKN];constructor
  ·rintro (h|⟨x,aj,h⟩)
   ·exact⟨v,by simp,h⟩
   ·exact⟨x,by simp[aj],h⟩
  ·rintro⟨x,aj,h⟩;rcases aKV.1 aj with rfl|aj
   ·exact .inl h
   ·exact .inr ⟨x,aj,h⟩
theorem Uz {l:List bx}{e t aW:Int}(h:dd e aW l=true)(ht:t<e):fE l t=false:=by
 cases ad:fE l t
 ·rfl
 ·obtain⟨v,an,d,G⟩:=Oa.1 ad;have:=xe h v an;omega
structure hY (l:List bx) (e:Int):Prop where
 Sf:l.Pairwise λu v=>u.ab<v.R
 xR:∀v∈l,v.R<v.ab
 vz:∀v∈l,v.ab<=e
theorem hY.mono {l:List bx}{e cO:Int}(h:hY l e)(he:e<=cO):hY l cO:=⟨h.Sf,h.xR,λv an=>aP8 (h.vz v an) he⟩
theorem UA {e:Int}:hY [] e:=⟨List.Pairwise.nil,by simp,by simp⟩
theorem Jr {l:List bx}{e:Int}{v:bx}(h:hY l e)(an:e<=v.R):hY (jz l v) (max e v.ab)/\ ∀t,fE (jz l v) t=(fE l t||qi v t):=by
 by_cases aH:v.ab<=v.R
 ·rw[Ob aH];refine⟨h.mono (by omega),λt=> ?_⟩;rw[qi,aK7,aPo]
 ·rcases aNM l with rfl|⟨cb,u,rfl⟩
  ·rw[Oc (by omega)];exact⟨⟨by simp,by simp;omega,by simp;omega⟩,λt=>by simp[fE]⟩
  ·rw[aNN] at h ⊢;rw[Od (by omega)];obtain⟨ao,hne,UB⟩:=h;rw[aMo] at ao;obtain⟨lo,_,vY⟩:=ao;have Yx:=hne u (by simp);have aKv:=UB u (by simp);split
   ·rename_i he;refine⟨⟨?_,?_,?_⟩,λt=> ?_⟩
    ·rw[aMo];refine⟨lo,by simp,λa aC b af=> ?_⟩;simp only[aK2] at af;subst af;exact vY a aC u (by simp)
    ·intro x aj;simp only[aK3,aK2] at aj;rcases aj with aj|rfl
     ·exact hne x (by simp[aj])
     ·simp only;omega
    ·intro x aj;simp only[aK3,aK2] at aj;rcases aj with aj|rfl
     ·have:=UB x (by simp[aj]);omega
     ·simp only;omega
    ·rw[N9,N9,aOH];congr 1;simp only[fE,qi,aPo];rw[aL0];simp only[aLP,aKN];omega
   ·rename_i he;refine⟨⟨?_,?_,?_⟩,λt=> ?_⟩
    ·rw[aMo,aMo];refine⟨⟨lo,by simp,vY⟩,by simp,λa aC b af=> ?_⟩;simp only[aK2] at af;subst af;simp only[aK3,aK2] at aC;rcases aC with aC|rfl
     ·have:=vY a aC u (by simp);omega
     ·omega
    ·intro x aj;simp only[aK3,aK2] at aj;rcases aj with (aj|rfl)|rfl
     ·exact hne x (by simp[aj])
     ·exact Yx
     ·omega
    ·intro x aj;simp only[aK3,aK2] at aj;rcases aj with (aj|rfl)|rfl
     ·have:=UB x (by simp[aj]);omega
     ·omega
     ·omega
    ·rw[N9];simp[fE]
theorem ajd:∀{os:List bx} {cO aW e el:Int} {v:bx} {z:List bx},dd cO aW os=true->(∀V∈os,v.R<V.ab)->hY z e->e<=v.R->e<=el->v.ab<=el->
 hY (oG os v z) el/\ ∀t,fE (oG os v z) t=(fE z t||(qi v t&& !fE os t))
 | [],cO,aW,e,el,v,z,_,_,N,d,G,au=>by
  rw[oG];obtain⟨a,b⟩:=Jr N d;exact⟨a.mono (by omega),λt=>by rw[b];simp[fE]⟩
 |V::os,cO,aW,e,el,v,z,af,bp,N,d,G,au=>by
  simp only[dd,hR,aKJ,aKN] at af;have up:=bp V (by simp);rw[oG];split
  ·rename_i aI;obtain⟨a,b⟩:=Jr (v:=⟨v.R,V.R⟩) N d;obtain⟨J,B⟩:=ajd (e:=max e V.R) (el:=el) (v:=⟨V.ab,v.ab⟩) af.2 (λx aj=>by have:=xe af.2 x aj;simp only;omega) a (by simp only;omega) (by omega) (by simp only;omega);refine⟨J,λt=> ?_⟩;rw[B,b,aOH];congr 1
   by_cases ht:t<V.ab
   ·rw[fE,Uz af.2 ht,aPo,Bool.not_false,aK0,aL0];simp only[qi,aLP,aKJ,aMH,aKN,aLX];omega
   ·rw[fE,show qi V t=false from aK7,aNd,show qi ⟨v.R,V.R⟩ t=false from aLh (by simp only;omega),aNd];congr 1;rw[aL0];simp only[qi,aKN];omega
  ·rename_i aI;obtain⟨a,b⟩:=Jr N d;refine⟨a.mono (by omega),λt=> ?_⟩;rw[b];congr 1;cases av:qi v t
   ·rfl
   ·simp only[qi,aKN] at av;rw[fE,Uz af.2 (by omega),show qi V t=false from aK7];rfl
theorem aje:∀{os:List bx} {f t:Int},f<=t->fE (rS f os) t=fE os t
 | [],_,_,_=>rfl
 |V::os,f,t,h=>by
  rw[rS];split
  ·rw[aje h,fE,show qi V t=false from aK7,aNd]
  ·rfl
theorem ajf:∀{l os z:List bx} {e cO aW Js:Int},dd cO aW os=true->dd e Js l=true->e<=Js->hY z e->
 hY (mx l os z) Js/\ ∀t,fE (mx l os z) t=(fE z t||(fE l t&& !fE os t))
 | [],os,z,e,cO,aW,Js,_,_,hN,N=>⟨N.mono hN,λt=>by simp[mx,fE]⟩
 |v::l,os,z,e,cO,aW,Js,bp,hl,hN,N=>by
  simp only[dd,hR,aKJ,aKN] at hl;obtain⟨d,G⟩:=Jt (f:=v.R) bp;obtain⟨a,b⟩:=ajd (el:=v.ab) d G N hl.1.1 (by omega) (by omega);obtain⟨J,B⟩:=ajf d hl.2 (by omega) a;rw[mx];refine⟨J,λt=> ?_⟩;rw[B,b,fE,aOH];congr 1
  by_cases ht:v.R<=t
  ·rw[aje ht,Bool.and_or_distrib_right]
  ·rw[show qi v t=false from aK7,Uz hl.2 (by omega)];rfl
theorem ajg:∀{l z:List bx} {a k e:Int},0<=k->l.Pairwise (λu v=>u.ab<v.R)->(∀v∈l,v.R<v.ab)->(∀v∈l,e<=v.R)->hY z e->
 (∃el,hY (rb l a k z) el)/\ ∀t,fE (rb l a k z) t=true->fE z t=true\/fE l t=true
 | [],z,a,k,e,_,_,_,_,N=>⟨⟨e,N⟩,λt h=> .inl h⟩
 |v::l,z,a,k,e,O,ao,hne,he,N=>by
  rw[aLD] at ao;have an:=hne v (by simp);have aGk:=he v (by simp);obtain⟨cH,aKU⟩:=Jr (v:=⟨v.R,v.R+min (max a 0) (v.ab-v.R)⟩) N aGk;obtain⟨ff,eJ⟩:=Jr (v:=⟨v.R+min (max (a+k) 0) (v.ab-v.R),v.ab⟩) cH (by simp only;omega);obtain⟨J,B⟩:=ajg (a:=a-(v.ab-v.R)) (e:=v.ab) O ao.2 (λx aj=>hne x (by simp[aj])) (λx aj=>by have:=ao.1 x aj;omega) (ff.mono (by simp only;omega));rw[rb];refine⟨J,λt h=> ?_⟩;rcases B t h with h|h
  ·rw[eJ,aKU,aLP,aLP] at h;rw[fE];simp only[qi,aKN,aLP] at h ⊢;rcases h with (h|h)|h
   ·exact .inl h
   ·exact .inr (.inl (by omega))
   ·exact .inr (.inl (by omega))
  ·exact .inr (by rw[fE,h,Bool.or_true])
theorem UC:∀{dl:List lR} {k a m:Int} {w:List bx},lz a m dl=true->(∃el,hY w el)->(∃el,hY (pR dl k w) el)/\ ∀t,fE (pR dl k w) t=true->fE w t=true
 | [],k,a,m,w,_,h=>⟨h,λt h=>h⟩
 |b::dl,k,a,m,w,af,h=>by
  simp only[lz,aKJ] at af;rw[pR];split
  ·exact UC af.2 h
  ·rename_i ad;obtain⟨el,dp⟩:=h;have aGl:∃e,∀v∈w,e<=v.R:=by
    clear dp ad
    induction w with
    |nil=>exact⟨0,by simp⟩
    |cons x l ih=>
     obtain⟨e,he⟩:=ih;refine⟨min e x.R,λv an=> ?_⟩;rcases aKV.1 an with rfl|an
     ·omega
     ·have:=he v an;omega
   obtain⟨e,he⟩:=aGl;obtain⟨J,B⟩:=ajg (a:=b.after) (k:=min (b.iP-k) (da w-b.after)) (by omega) dp.Sf dp.xR he (UA (e:=e));obtain⟨f,g⟩:=UC (k:=k+min (b.iP-k) (da w-b.after)) af.2 J;refine⟨f,λt h=> ?_⟩;rcases B t (g t h) with h|h
   ·simp[fE] at h
   ·exact h
theorem awD {z:gK}{ae:bx}{aa:List dF}(kX:lz (-1) 0 z.iA=true)(ak:io 0 aa=true):
 (∃el,hY (pb z ae aa) el)/\ ∀x∈pb z ae aa,∀p∈aa,∀b∈p.ey,¬(b.R<x.ab/\x.R<b.ab):=by
 obtain⟨a,b⟩:=ajf (z:=[]) (e:=0) (Ig ak) (HP (z:=z) (ae:=ae) (aa:=aa) (last:=0)) (by omega) UA;have aP: (∃el,hY (pb z ae aa) el)/\ ∀t,fE (pb z ae aa) t=true->fE (mx (kB z ae 0 aa) (na aa) []) t=true:=by
  unfold pb;simp only;split
  ·exact⟨⟨0,UA⟩,λt h=>by simp[fE] at h⟩
  ·exact UC kX ⟨_,a⟩
 refine⟨aP.1,λx aj p hC q aV vO=> ?_⟩;obtain⟨el,dp⟩:=aP.1;have aKw:=dp.xR x aj;have ajh:q∈na aa:=aM1.2 ⟨p,hC,aV⟩;have avU:=xe (Ig ak) q ajh;have d:fE (pb z ae aa) (max x.R q.R)=true:=Oa.2 ⟨x,aj,by omega,by omega⟩;have G:=aP.2 _ d;rw[b] at G;have au:fE (na aa) (max x.R q.R)=true:=Oa.2 ⟨q,ajh,by omega,by omega⟩;rw[au] at G;simp[fE] at G
end Go.Proofs.YtpincjkjoeopkaaGreatDoor.Pr
namespace Go.Proofs.YtpincjkjoeopkaaGreatDoor
open Go Go.Abs Go.Proofs.Tryz
def rF (z:eD):Prop:=z.fz<1\/10080<z.fz\/z.er<0\/1440<z.er\/z.ex<0\/1440<z.ex
instance (z:eD):Decidable (rF z):=inferInstanceAs (Decidable (z.fz<1\/10080<z.fz\/z.er<0\/1440<z.er\/z.ex<0\/1440<z.ex))
def qL (z:eD):Int:=if fe z.M≠0 then fe z.M else if rF z then 2 else if Pr.mq z.dK≠0 then Pr.mq z.dK else if Ib.lA z.ia≠0 then Ib.lA z.ia else Pm.vm z.M z.ao z.al
theorem aBW (z:eD)(hh:z.ao.length<=1000000)(aP:z.al.length<=1000000):aO prog 57 [.agg z.J] [] (λv rs=>v= .int .i64 (qL z)/\rs=[]):=by
 have bO:=Ch z.M;have cd:=Pr.Re z.dK;have fk:=Ib.lQ z.ia;have hB:=Pm.agv z.M z.ao (by omega) z.al aP;unfold cc.v at bO hB;unfold Ib.ib.v at fk;simp only[Pr.Ab] at cd;refine cu func57 acL (by simp[MX,SZ]) ?_;unfold eD.J;simp only[go_sem,MX,SZ];refine bM bO (by simp only[bU,bJ,ck,aK4,aK0]) rfl ?_;unfold qL
 by_cases d:fe z.M=0
 rotate_left
 ·have aKY: (fe z.M != 0)=true:=by simp[d]
  simp only[go_sem,aKY];exact aKG rfl ⟨by rw[Rc d],rfl⟩
 have aKY: (fe z.M != 0)=false:=by simp[d]
 rw[S (by omega)]
 by_cases b0:z.fz<1
 ·have g0:decide (z.fz<1)=true:=aLf b0;simp only[go_sem,aKY,g0];exact aKG rfl ⟨by rw[Rc (by unfold rF;omega)],rfl⟩
 have g0:decide (z.fz<1)=false:=aLh b0
 by_cases aKU:10080<z.fz
 ·have aKH:decide (10080<z.fz)=true:=aLf aKU;simp only[go_sem,aKY,g0,aKH];exact aKG rfl ⟨by rw[Rc (by unfold rF;omega)],rfl⟩
 have aKH:decide (10080<z.fz)=false:=aLh aKU
 by_cases eJ:z.er<0
 ·have bR:decide (z.er<0)=true:=aLf eJ;simp only[go_sem,aKY,g0,aKH,bR];exact aKG rfl ⟨by rw[Rc (by unfold rF;omega)],rfl⟩
 have bR:decide (z.er<0)=false:=aLh eJ
 by_cases lX:1440<z.er
 ·have dq:decide (1440<z.er)=true:=aLf lX;simp only[go_sem,aKY,g0,aKH,bR,dq];exact aKG rfl ⟨by rw[Rc (by unfold rF;omega)],rfl⟩
 have dq:decide (1440<z.er)=false:=aLh lX
 by_cases Kd:z.ex<0
 ·have gP:decide (z.ex<0)=true:=aLf Kd;simp only[go_sem,aKY,g0,aKH,bR,dq,gP];exact aKG rfl ⟨by rw[Rc (by unfold rF;omega)],rfl⟩
 have gP:decide (z.ex<0)=false:=aLh Kd
 by_cases uc:1440<z.ex
 ·have uN:decide (1440<z.ex)=true:=aLf uc;simp only[go_sem,aKY,g0,aKH,bR,dq,gP,uN];exact aKG rfl ⟨by rw[Rc (by unfold rF;omega)],rfl⟩
 have uN:decide (1440<z.ex)=false:=aLh uc;rw[S (by unfold rF;omega)];simp only[go_sem,aKY,g0,aKH,bR,dq,gP,uN];refine bM cd (by simp only[bU,bJ,ck,aK4,aK0]) rfl ?_
 by_cases G:Pr.mq z.dK=0
 rotate_left
 ·have eQ: (Pr.mq z.dK != 0)=true:=by simp[G]
  simp only[go_sem,eQ];exact aKG rfl ⟨by rw[Rc G],rfl⟩
 have eQ: (Pr.mq z.dK != 0)=false:=by simp[G]
 rw[S (by omega)];simp only[go_sem,eQ];refine bM fk (by simp only[bU,bJ,ck,aK4,aK0]) rfl ?_
 by_cases au:Ib.lA z.ia=0
 rotate_left
 ·have eF: (Ib.lA z.ia != 0)=true:=by simp[au]
  simp only[go_sem,eF];exact aKG rfl ⟨by rw[Rc au],rfl⟩
 have eF: (Ib.lA z.ia != 0)=false:=by simp[au]
 rw[S (by omega)];simp only[go_sem,eF];refine bM hB (by simp only[bU,bJ,ck,aK4,aK0]) rfl ?_;simp only[go_sem];exact aKG rfl ⟨rfl,rfl⟩
theorem ZO:∀{l:List Pr.dF} {e:Int},Pr.io e l=true->0<=e-> ∀p∈l,0<=p.R/\p.R<p.ab/\p.ab<=120968640/\p.ey.length<=1024/\Pr.dd p.R p.ab p.ey=true
 | [],_,_,_,p,ak=>by simp at ak
 |x::z,e,h,he,p,ak=>by
  simp only[Pr.io,Pr.tL,Pr.hR,aKJ,aKN] at h;rcases aKV.1 ak with rfl|ak
  ·exact⟨by omega,by omega,by omega,h.1.1.2,h.1.2⟩
  ·exact ZO h.2 (by omega) p ak
theorem ZP {r t:List Z}(h:∀(z:Nat) (bG:Z),r[z]? =some bG->jc (r.length+t.length) bG=true)(ht:∀bG∈t,jc (r.length+t.length) bG=true):jP (r++t):=by
 intro z bG N;rw[aKK];rw[aK9] at N;split at N
 ·exact h z bG N
 ·exact ht _ (aMA N)
theorem ZQ {n:Nat}{a b J:Int}{ds:List eX}:jc n (.be (.map true [.int .i64,.int .i64] (dy (.agg [.int .i64 a,.int .i64 b]) (.int .i64 J) (fZ 0 ds))))=true:=by
 have key:∀(el:List (F×F)),nG n el=true->nG n (dy (.agg [.int .i64 a,.int .i64 b]) (.int .i64 J) el)=true:=by
  intro el
  induction el with
  |nil=>intro _;rfl
  |cons x el ih=>
   intro h;obtain⟨k,v⟩:=x;have cR: (dt n k&&dt n v&&nG n el)=true:=h;simp only[aKJ] at cR;rw[dy];split
   ·show (dt n (.agg [.int .i64 a,.int .i64 b])&&dt n (.int .i64 J)&&nG n el)=true;rw[cR.2];rfl
   ·show (dt n k&&dt n v&&nG n _)=true;rw[cR.1.1,cR.1.2,ih cR.2];rfl
 exact key _ ZL
def Ct (M:cc)(ae:List cw)(e l:Int)(p:Pr.dF):Int:=bel p.R e l (ae.map (fW M))
def L9 (M:cc)(ae:List cw)(e l:Int)(p:Pr.dF):Int:=if 0<=Ct M ae e l p then (ae.map cw.ah).getD (Ct M ae e l p).toNat 0 else mm M p.R
def mY (M:cc)(ae:List cw)(e l:Int)(aa:List Pr.dF):List eX:=aa.foldl (λds p=>fI (Ct M ae e l p) (L9 M ae e l p) p ds) []
theorem RF {M:cc}{ae:List cw}{e l:Int}{aa:List Pr.dF}{c:Nat}(h:c<aa.length):mY M ae e l (aa.take (c+1))=fI (Ct M ae e l aa[c]) (L9 M ae e l aa[c]) aa[c] (mY M ae e l (aa.take c)):=by
 unfold mY;rw[aLz h,aMc];rfl
theorem ZR {a b:Int}{p:Pr.dF}:∀{ds:List eX},(fI a b p ds).length<=ds.length+1
 | []=>aKM _
 |B::t=>by
  have:=ZR (a:=a) (b:=b) (p:=p) (ds:=t);unfold fI;split
  ·simp
  ·simpa using this
theorem ZS {a b:Int}{p:Pr.dF}{n:Nat}:∀{ds:List eX},(∀B∈ds,B.aa.length<=n)-> ∀B∈fI a b p ds,B.aa.length<=n+1
 | [],_,B,ay=>by rw[fI,aK2] at ay;subst ay;simp
 |x::t,h,B,ay=>by
  unfold fI at ay;split at ay
  ·rcases aKV.1 ay with rfl|ay
   ·have:=h x aLa;simp only[aKK,aL6];omega
   ·have:=h B (aK1 _ ay);omega
  ·rcases aKV.1 ay with rfl|ay
   ·have:=h B aLa;omega
   ·exact ZS (λy bt=>h y (aK1 _ bt)) B ay
theorem H0 {M:cc}{ae:List cw}{e l:Int}{aa:List Pr.dF}:∀{c:Nat},c<=aa.length->(mY M ae e l (aa.take c)).length<=c/\ ∀B∈mY M ae e l (aa.take c),B.aa.length<=c
 |0,_=>by simp[mY]
 |c+1,h=>by
  obtain⟨d,G⟩:=H0 (M:=M) (ae:=ae) (e:=e) (l:=l) (aa:=aa) (c:=c) (by omega);rw[RF (by omega)];exact⟨aLk ZR (by omega),ZS G⟩
set_option maxHeartbeats 4000000 in
theorem avW (M:cc)(ae:List cw)(gy:jd M ae=0)(aa:List Pr.dF)(kk:Pr.lx aa=0)(e l:Int)(he:0<=e/\e<=1440)(hl:0<=l/\l<=1440):
 aO prog 69 [M.v,.pure 3 (ai ae),.pure 3 (ai aa),.int .i64 e,.int .i64 l] [] (λv rs=>v= .bo [.pure 3 (ai (mY M ae e l aa)),.int .i64 0]/\rs=[]):=by
 have avo:=YM gy;have aJL:=aun gy;have du:=LH M ae (by omega);have H1:aa.length<=1024/\Pr.io 0 aa=true:=by
  unfold Pr.lx at kk;split at kk
  ·cases kk
  ·split at kk
   ·exact⟨by omega,by assumption⟩
   ·cases kk
 have hV:=Pr.lQ aa (by omega);rw[kk] at hV;refine hJ func69 ZT (by simp[E3,H2]) ?_;unfold cc.v at *;simp only[go_sem,E3,H2]
 (refine i ?_;simp only[go_sem])
 refine om [] [] (by simp) rfl (qw _ (by first|rfl|simp only[go_sem,ck])) du ?_;intro v rs an;unfold zV at an;rw[Rc gy] at an;obtain⟨rfl,rfl⟩:=an;refine⟨.inl rfl,?_⟩;simp only[go_sem];generalize kU:ae.map (fW M)=vs at *;have xx:vs.length=ae.length:=by rw[<-kU,aLe]
 have LI:∀v∈vs,0<=v.R/\v.R<=120968640:=λv an=>by
  rw[<-kU] at an;obtain⟨I,ao,rfl⟩:=aKZ.1 an;have:=QN (QP gy I ao);omega
 have nL:∀r0:Z,bW [r0,.ag 64 2 (ai vs)] [some 0] [1] (.own 1 ae.length 0 ae.length)= .pure 2 (ai vs):=λr0=>qx rfl rfl rfl (by rw[bT,xx]) ck;refine E.jN [some 0] [1] rfl rfl (by simp only[go_sem]<;>rfl) ?_;simp only[aKP,aLC,nL,tv (.pure 3 (ai ae)) (by simp only[bJ,ck]),tv (.pure 3 (ai aa)) (by simp only[bJ,ck])];have bF:decide (e<0)=false:=aK7;have bK:decide (1440<e)=false:=aK7;have gX:decide (l<0)=false:=aK7;have rt:decide (1440<l)=false:=aK7;simp only[go_sem]
 (repeat (first| (refine i ?_;simp only[go_sem,bF,bK,gX,rt])|simp only[go_sem,bF,bK,gX,rt]))
 refine bM hV (by simp only[bU,bJ,ck,aK4]) rfl ?_
 (repeat (first| (refine i ?_;simp only[go_sem,bT])|simp only[go_sem,bT]))
 refine hv (λD r=> ∃(c:Nat) (X:Nat->Nat),c<=aa.length/\D=[(1,.pure 3 (ai ae)),(3,.int .i64 e),(4,.int .i64 l),(5,.bd 0 1 0 0),(12,.pure 2 (ai vs)),(15,.bE 1),(16,.own 2 (mY M ae e l (aa.take c)).length 0 (mY M ae e l (aa.take c)).length),(51,.pure 3 (ai aa)),(52,.int .i64 aa.length),(53,.int .i64 c)]/\Cs r M (mY M ae e l (aa.take c)) X)
  (λD _=>match bs D 53 with| .int _ j=>(aa.length-j).toNat|_=>0) ?_ ?_
 ·(refine E.iv 16 157 3 rfl (E.eW [1,3,4,5,12,15,16,51,52,53] ?_);simp only[go_sem])
  refine i ⟨0,λ_=>0,by omega,rfl,⟨?_,rfl,rfl,rfl,λc h=>absurd h (by simp[mY]),λc j h=>absurd h (by simp[mY])⟩⟩;intro z bG N
  match z,N with
  |0,N=>cases N;exact kA (by simp only[dY,bU,bJ,ck,aK4,aK0])
  |1,N=>cases N;rfl
  |2,N=>cases N;rfl
  |z+3,N=>simp at N
 rintro D r ⟨c,X,av,rfl,eZ⟩;have aP:=dB (c:=c) (by omega)
 by_cases aI:c<aa.length
 rotate_left
 ·have d:decide ((c:Int)<aa.length)=false:=aK7;obtain rfl:c=aa.length:=by omega
  rw[aLb] at *;simp only[go_sem,E3,H2]
  (repeat (first| (refine i ?_;simp only[go_sem,d])|simp only[go_sem,d]))
  have jK:=(H0 (M:=M) (ae:=ae) (e:=e) (l:=l) (aa:=aa) (c:=aa.length) (aKM _)).1;rw[aLb] at jK;generalize mY M ae e l aa=ds at *;have ay:=eZ.B;have hf:lJ r [some 2] (List.range r.length) (gq X ds)=ai ds:=avV eZ;have RG:eC r (List.range r.length) [some 2] [some 2]=some [.ag 157 3 (ai ds)]:=by simp only[eC,ay,hr,hf]
  refine E.jN [some 2] (List.range r.length) rfl rfl RG ?_;have lZ:bW r [some 2] (List.range r.length) (.own 2 ds.length 0 ds.length)= .own 0 ds.length 0 ds.length:=by simp[bW,hE]
  simp only[go_sem];have nL:bW [.ag 157 3 (ai ds)] [] [0] (.bo [.own 0 ds.length 0 ds.length,.int .i64 0])= .bo [.pure 3 (ai ds),.int .i64 0]:=by
   have:bW [.ag 157 3 (ai ds)] [] [0] (.own 0 ds.length 0 ds.length)= .pure 3 (ai ds):=qx rfl rfl rfl (by rw[bT]) ck;rw[bW];simp only[dT,this];rfl
  refine E.jN [] [0] rfl rfl (by simp only[go_sem]<;>rfl) ?_;have nF:List.take ds.length (ai ds)=ai ds:=aLZ (by rw[bT];exact aKM _);simp only[go_sem,nL,bT,ck,nF];exact i ⟨rfl,rfl⟩
 have d:decide ((c:Int)<aa.length)=true:=aLv;have tM: (0:Int)<=c:=by omega
 have tN: (c:Int)<aa.length:=by omega
 have nM: (ai aa).getD c []=aJ.J aa[c]:=cT aI;have dV:=RF (M:=M) (ae:=ae) (e:=e) (l:=l) aI;obtain⟨uv,rX⟩:=H0 (M:=M) (ae:=ae) (e:=e) (l:=l) (aa:=aa) (c:=c) av;have hC:=ZO H1.2 (by omega) aa[c] (aLc aI);have uB:Ct M ae e l aa[c]=bel aa[c].R e l vs:=by unfold Ct;rw[kU]
 have avX:L9 M ae e l aa[c]=if 0<=bel aa[c].R e l vs then (ae.map cw.ah).getD (bel aa[c].R e l vs).toNat 0 else mm M aa[c].R:=by unfold L9;rw[uB]
 have RH:=YP aa[c].R e l vs;rw[uB,avX] at dV;generalize ak:aa[c]=p at *;generalize Af:mY M ae e l (aa.take c)=ds at *;have ba:=eZ.M;have hm:=eZ.m;have ay:=eZ.B;simp only[go_sem,E3,H2]
 (repeat (first| (refine i ?_;simp only[go_sem,d,tM,tN,nM,bT,Pr.H3,dH,dO,ee,ec,aKT])|simp only[go_sem,d,tM,tN,nM,bT,Pr.H3,dH,dO,ee,ec,aKT]))
 refine bM (auq vs (by omega) LI p.R e l (by omega) he) rfl rfl ?_;generalize bel p.R e l vs=bP at *
 by_cases oK:0<=bP
 ·rw[Rc oK] at dV;have lo:decide (0<=bP)=true:=aLf oK;have vX:bP<ae.length:=by omega
  have gs: (ai ae).getD bP.toNat []=aJ.J (ae[bP.toNat]'(by omega)):=cT (by omega);have avY: (ae.map cw.ah).getD bP.toNat 0=(ae[bP.toNat]'(by omega)).ah:=by
   rw[aLn,aLG,aKS (by omega)];rfl
  rw[avY] at dV
  (repeat (first| (refine i ?_;simp only[go_sem,dH,dO,ee,ec,aKT,aKK,lo,oK,vX,gs,uZ,bT])|simp only[go_sem,dH,dO,ee,ec,aKT,aKK,lo,oK,vX,gs,uZ,bT]))
  generalize (ae[bP.toNat]'(by omega)).ah=ah at dV ⊢;have avZ:=RA bP ah ds
  by_cases gi:cM bP ah ds<ds.length
  ·have hw:dm (.agg [.int .i64 bP,.int .i64 ah]) (fZ 0 ds)=some (.int .i64 (cM bP ah ds:Int)):=by
    rw[HZ,Rc gi,aL5]
   (repeat (first| (refine i ?_;simp only[go_sem,dH,dO,ee,ec,aKT,aKK,bQ ba,bQ hm,bQ ay,hw])|simp only[go_sem,dH,dO,ee,ec,aKT,aKK,bQ ba,bQ hm,bQ ay,hw]))
   refine bM (Ma p.ey (by omega)) (by simp only[bU,bJ,ck,aK4]) rfl ?_;have yr: (gq X ds).getD (cM bP ah ds) []=[.int .i64 (ds[cM bP ah ds]).bP,.int .i64 (ds[cM bP ah ds]).ah,.own (X (cM bP ah ds)) (ds[cM bP ah ds]).aa.length 0 (ds[cM bP ah ds]).aa.length]:=by
    rw[aLn,L6 gi];rfl
   have aj:=eZ.x _ gi;have mZ: ((cM bP ah ds:Nat):Int)<ds.length:=by omega
   have iN: (0:Int)<=((cM bP ah ds:Nat):Int):=by omega
   (repeat (first| (refine i ?_;simp only[go_sem,dH,dO,ee,ec,aKT,aKK,bQ ba,bQ hm,bQ ay,bQ aj,yr,kC,iN,mZ,aKX])|simp only[go_sem,dH,dO,ee,ec,aKT,aKK,bQ ba,bQ hm,bQ ay,bQ aj,yr,kC,iN,mZ,aKX]))
   have L2:=km ay;have hne: (2==r.length+2)=false:=aPh (by omega);rw[hne];refine⟨trivial,by have:=rX _ (aLc gi);omega,?_⟩;have RI:X (cM bP ah ds)≠0:=λe=>by rw[e,ba] at aj;simp at aj
   have RJ:X (cM bP ah ds)≠1:=λe=>by rw[e,hm] at aj;cases aj
   have H4:X (cM bP ah ds)≠2:=λe=>by rw[e,ay] at aj;simp at aj
   simp only[tF aj];have sB: (r.set (X (cM bP ah ds)) (.ag 88 3 (ai (ds[cM bP ah ds].aa++[⟨p.R,p.ab,p.ey⟩]))))[0]? =some (.ag 32 2 [[.int .i64 M.off,.pure 2 (ai M.cS)]]):=by rw[aKQ,S RI];exact ba
   have ov: (r.set (X (cM bP ah ds)) (.ag 88 3 (ai (ds[cM bP ah ds].aa++[⟨p.R,p.ab,p.ey⟩]))))[1]? =some (.be (.map true [.int .i64,.int .i64] (fZ 0 ds))):=by rw[aKQ,S RJ];exact hm
   have qH: (r.set (X (cM bP ah ds)) (.ag 88 3 (ai (ds[cM bP ah ds].aa++[⟨p.R,p.ab,p.ey⟩]))))[2]? =some (.ag 157 3 (gq X ds)):=by rw[aKQ,S H4];exact ay
   have nJ: (r.set (X (cM bP ah ds)) (.ag 88 3 (ai (ds[cM bP ah ds].aa++[⟨p.R,p.ab,p.ey⟩])))).length=r.length:=aLg;generalize dc:r.set (X (cM bP ah ds)) (.ag 88 3 (ai (ds[cM bP ah ds].aa++[⟨p.R,p.ab,p.ey⟩])))=aF at *;simp only[<-nJ]
   (repeat (first| (refine i ?_;simp only[go_sem,dH,dO,ee,ec,aKT,aKK,bQ sB,bQ ov,bQ qH,yr,kC,iN,mZ,aKX,aP])|simp only[go_sem,dH,dO,ee,ec,aKT,aKK,bQ sB,bQ ov,bQ qH,yr,kC,iN,mZ,aKX,aP]))
   refine⟨⟨c+1,X,by omega,by rw[dV,vc gi,aLg],?_⟩,by omega⟩;rw[dV,tF qH];have Cu:=(sA eZ gi).2.2.2;have RK:∀j,j<ds.length->X j<aF.length:=λj hj=>by rw[nJ];exact (sA eZ hj).2.2.2
   refine ZM eZ gi ?_ (λz bG N G aV=> ?_) ?_ ?_
   ·have RL:jP aF:=by rw[<-dc];exact Co eZ.all (kA ck)
    refine EV (Co RL ?_) ?_
    ·have e: ((gq X ds).set (cM bP ah ds) [.int .i64 (ds[cM bP ah ds]).bP,.int .i64 (ds[cM bP ah ds]).ah,.own (X (cM bP ah ds)) ((ds[cM bP ah ds]).aa.length+1) 0 ((ds[cM bP ah ds]).aa.length+1)])=gq X (fI bP ah p ds):=by
      rw[vc gi,RB];unfold qG;simp
     rw[e];refine L8 λj hj=> ?_;rw[vc gi,aLg] at hj;exact RK j hj
    ·intro bG hrow;simp only[fR] at hrow;rcases hrow with rfl|rfl|rfl
     ·exact kA (by simp only[dY,bU,bJ,ck,aK4,aK0])
     ·exact kA (by simp only[dY,bU,bJ,aK4,aK0])
     ·exact kA (by simp only[dY,bU,bJ,ck,aK4,aK0])
   ·refine bQ ?_;rw[aKQ,S (λe=>G e.symm),<-dc,aKQ,S (λe=>aV e.symm)];exact N
   ·refine bQ ?_;rw[aKQ,Rc rfl,Rc (by omega)];unfold qG;simp
   ·refine bQ ?_;rw[aKQ,S (λe=>H4 e.symm),<-dc,aKQ,Rc rfl,Rc Cu]
  ·have hw:dm (.agg [.int .i64 bP,.int .i64 ah]) (fZ 0 ds)=none:=by
    rw[HZ,S gi]
   have Cv:cM bP ah ds=ds.length:=by omega
   (repeat (first| (refine i ?_;simp only[go_sem,dH,dO,ee,ec,aKT,aKK,bQ ba,bQ hm,bQ ay,hw])|simp only[go_sem,dH,dO,ee,ec,aKT,aKK,bQ ba,bQ hm,bQ ay,hw]))
   have L2:=km ay;simp only[tF hm];have sB: (r.set 1 (.be (.map true [.int .i64,.int .i64] (dy (.agg [.int .i64 bP,.int .i64 ah]) (.int .i64 (ds.length:Int)) (fZ 0 ds)))))[0]? =some (.ag 32 2 [[.int .i64 M.off,.pure 2 (ai M.cS)]]):=by rw[aKQ,S (by omega)];exact ba
   have ov: (r.set 1 (.be (.map true [.int .i64,.int .i64] (dy (.agg [.int .i64 bP,.int .i64 ah]) (.int .i64 (ds.length:Int)) (fZ 0 ds)))))[1]? =some (.be (.map true [.int .i64,.int .i64] (dy (.agg [.int .i64 bP,.int .i64 ah]) (.int .i64 (ds.length:Int)) (fZ 0 ds)))):=by rw[aKQ,Rc rfl,Rc (by omega)]
   have qH: (r.set 1 (.be (.map true [.int .i64,.int .i64] (dy (.agg [.int .i64 bP,.int .i64 ah]) (.int .i64 (ds.length:Int)) (fZ 0 ds)))))[2]? =some (.ag 157 3 (gq X ds)):=by rw[aKQ,S (by omega)];exact ay
   have nJ: (r.set 1 (.be (.map true [.int .i64,.int .i64] (dy (.agg [.int .i64 bP,.int .i64 ah]) (.int .i64 (ds.length:Int)) (fZ 0 ds))))).length=r.length:=aLg;generalize dc:r.set 1 (.be (.map true [.int .i64,.int .i64] (dy (.agg [.int .i64 bP,.int .i64 ah]) (.int .i64 (ds.length:Int)) (fZ 0 ds))))=aF at *;simp only[<-nJ]
   (repeat (first| (refine i ?_;simp only[go_sem,dH,dO,ee,ec,aKT,aKK,bQ sB,bQ ov,bQ qH,kC])|simp only[go_sem,dH,dO,ee,ec,aKT,aKK,bQ sB,bQ ov,bQ qH,kC]))
   refine⟨by omega,?_⟩;simp only[tF qH];obtain⟨cs,fS⟩:∃cs,cs=gq X ds++[[.int .i64 bP,.int .i64 ah,.bH]]:=⟨_,rfl⟩;have yt:cs.length=ds.length+1:=by rw[fS,aKK,kC];rfl
   have tO:cs.getD ds.length []=[.int .i64 bP,.int .i64 ah,.bH]:=by rw[fS,aLn,aNy (by rw[kC];exact aKM _),kC,aNe];rfl
   have H5:∀y,cs.set ds.length y=gq X ds++[y]:=λy=>by rw[fS,aOs _ _ (by rw[kC];exact aKM _),kC,aNe];rfl
   rw[<-fS];have yu: (aF.set 2 (.ag 157 3 cs))[0]? =some (.ag 32 2 [[.int .i64 M.off,.pure 2 (ai M.cS)]]):=by rw[aKQ,S (by omega)];exact sB
   have vd: (aF.set 2 (.ag 157 3 cs))[2]? =some (.ag 157 3 cs):=by rw[aKQ,Rc rfl,Rc (by omega)]
   have sC: (aF.set 2 (.ag 157 3 cs))[1]? =aF[1]? :=by rw[aKQ,S (by omega)]
   rw[ov] at sC;have Ag: (aF.set 2 (.ag 157 3 cs)).length=aF.length:=aLg;generalize du:aF.set 2 (.ag 157 3 cs)=Rd at *;simp only[<-Ag];have mZ: (ds.length:Int)<((ds.length+1:Nat):Int):=by omega
   have iN: (0:Int)<=(ds.length:Int):=by omega
   (repeat (first| (refine i ?_;simp only[go_sem,dH,dO,ee,ec,aKT,aKK,bQ yu,bQ sC,bQ vd,tO,yt,iN,mZ])|simp only[go_sem,dH,dO,ee,ec,aKT,aKK,bQ yu,bQ sC,bQ vd,tO,yt,iN,mZ]))
   refine bM (Ma p.ey (by omega)) (by simp only[bU,bJ,ck,aK4]) rfl ?_
   (repeat (first| (refine i ?_;simp only[go_sem,dH,dO,ee,ec,aKT,aKK,bQ yu,bQ sC,bQ vd,tO,yt,H5,iN,mZ,aKX,aP])|simp only[go_sem,dH,dO,ee,ec,aKT,aKK,bQ yu,bQ sC,bQ vd,tO,yt,H5,iN,mZ,aKX,aP]))
   have hne: (2==Rd.length+3)=false:=aPh (by omega);rw[hne];refine⟨trivial,?_⟩;rw[tF vd]
   (repeat (first| (refine i ?_;simp only[go_sem,aP])|simp only[go_sem,aP]))
   obtain⟨ly,yp⟩:=ZN (W:=Rd.set 2 (.ag 157 3 (gq X ds++[[.int .i64 bP,.int .i64 ah,.own (Rd.length+4) 1 0 1]]))++[.ag 88 3 [[.int .i64 p.R,.int .i64 p.ab,.pure 2 (ai p.ey)]],.ag 280 2 [[.int .i64 bP,.int .i64 ah]],.ag 157 3 [[.int .i64 bP,.int .i64 ah,.bH]],.ag 88 3 [[.int .i64 p.R,.int .i64 p.ab,.pure 2 (ai p.ey)]],.ag 88 3 [[.int .i64 p.R,.int .i64 p.ab,.pure 2 (ai p.ey)]]]) (p:=p) eZ Cv (Rd.length+4) (by omega) (by
    refine ZP (λz bG N=> ?_) ?_
    ·rw[aKQ] at N;split at N
     ·split at N
      ·cases N;have e:gq X ds++[[.int .i64 bP,.int .i64 ah,.own (Rd.length+4) 1 0 1]]=gq (λc=>if c<ds.length then X c else Rd.length+4) (ds++[⟨bP,ah,[p]⟩]):=by
        rw[RD];congr 1
        ·exact RE λc av=>by rw[Rc av]
        ·unfold qG;simp
       rw[e];refine L8 λc av=> ?_;rw[aKK,aL6] at av;simp only[aLg,aK8,aLQ];split
       ·have:=(sA eZ (by assumption)).2.2.2;omega
       ·omega
      ·cases N
     ·rename_i G;rw[<-du,aKQ,S G,<-dc,aKQ] at N;split at N
      ·split at N
       ·cases N;exact ZQ
       ·cases N
      ·exact Qx (by rw[aLg];omega) (eZ.all z bG N)
    ·intro bG hrow;simp only[fR] at hrow;rcases hrow with rfl|rfl|rfl|rfl|rfl
     all_goals exact kA (by simp only[dY,bU,bJ,ck,aK4,aK0])) (λz bG N d G=>by
    refine bQ ?_;rw[aKQ,S (λe=>G e.symm),<-du,aKQ,S (λe=>G e.symm),<-dc,aKQ,S (λe=>d e.symm)];exact N) (by
    refine bQ ?_;rw[aKQ,S (by omega)];exact sC) (by
    refine bQ ?_;rw[aKQ,Rc rfl,Rc (by omega)]) (by
    rw[aNy (by rw[aLg];omega),aLg,Nat.add_sub_cancel_left];rfl)
   exact⟨⟨c+1,ly,by omega,by rw[dV,E2 Cv,aKK];rfl,by rw[dV];exact yp⟩,by omega⟩
 ·rw[S oK] at dV;have lo:decide (0<=bP)=false:=aLh oK;have awa:ot M p.R=0:=by unfold ot;rw[S (by omega),S (by omega)]
  have fC:=YA M p.R;rw[awa,Rc rfl] at fC;unfold cc.v at fC
  (repeat (first| (refine i ?_;simp only[go_sem,dH,dO,ee,ec,aKT,aKK,lo,oK,bQ ba])|simp only[go_sem,dH,dO,ee,ec,aKT,aKK,lo,oK,bQ ba]))
  refine bM fC (by simp only[bU,bJ,ck,aK4,aK0]) rfl ?_;generalize mm M p.R=ah at dV ⊢
  (repeat (first| (refine i ?_;simp only[go_sem,dH,dO,ee,ec,aKT,aKK,lo,oK,bQ ba])|simp only[go_sem,dH,dO,ee,ec,aKT,aKK,lo,oK,bQ ba]))
  have avZ:=RA bP ah ds
  by_cases gi:cM bP ah ds<ds.length
  ·have hw:dm (.agg [.int .i64 bP,.int .i64 ah]) (fZ 0 ds)=some (.int .i64 (cM bP ah ds:Int)):=by
    rw[HZ,Rc gi,aL5]
   (repeat (first| (refine i ?_;simp only[go_sem,dH,dO,ee,ec,aKT,aKK,bQ ba,bQ hm,bQ ay,hw])|simp only[go_sem,dH,dO,ee,ec,aKT,aKK,bQ ba,bQ hm,bQ ay,hw]))
   refine bM (Ma p.ey (by omega)) (by simp only[bU,bJ,ck,aK4]) rfl ?_;have yr: (gq X ds).getD (cM bP ah ds) []=[.int .i64 (ds[cM bP ah ds]).bP,.int .i64 (ds[cM bP ah ds]).ah,.own (X (cM bP ah ds)) (ds[cM bP ah ds]).aa.length 0 (ds[cM bP ah ds]).aa.length]:=by
    rw[aLn,L6 gi];rfl
   have aj:=eZ.x _ gi;have mZ: ((cM bP ah ds:Nat):Int)<ds.length:=by omega
   have iN: (0:Int)<=((cM bP ah ds:Nat):Int):=by omega
   (repeat (first| (refine i ?_;simp only[go_sem,dH,dO,ee,ec,aKT,aKK,bQ ba,bQ hm,bQ ay,bQ aj,yr,kC,iN,mZ,aKX])|simp only[go_sem,dH,dO,ee,ec,aKT,aKK,bQ ba,bQ hm,bQ ay,bQ aj,yr,kC,iN,mZ,aKX]))
   have L2:=km ay;have hne: (2==r.length+2)=false:=aPh (by omega);rw[hne];refine⟨trivial,by have:=rX _ (aLc gi);omega,?_⟩;have RI:X (cM bP ah ds)≠0:=λe=>by rw[e,ba] at aj;simp at aj
   have RJ:X (cM bP ah ds)≠1:=λe=>by rw[e,hm] at aj;cases aj
   have H4:X (cM bP ah ds)≠2:=λe=>by rw[e,ay] at aj;simp at aj
   simp only[tF aj];have sB: (r.set (X (cM bP ah ds)) (.ag 88 3 (ai (ds[cM bP ah ds].aa++[⟨p.R,p.ab,p.ey⟩]))))[0]? =some (.ag 32 2 [[.int .i64 M.off,.pure 2 (ai M.cS)]]):=by rw[aKQ,S RI];exact ba
   have ov: (r.set (X (cM bP ah ds)) (.ag 88 3 (ai (ds[cM bP ah ds].aa++[⟨p.R,p.ab,p.ey⟩]))))[1]? =some (.be (.map true [.int .i64,.int .i64] (fZ 0 ds))):=by rw[aKQ,S RJ];exact hm
   have qH: (r.set (X (cM bP ah ds)) (.ag 88 3 (ai (ds[cM bP ah ds].aa++[⟨p.R,p.ab,p.ey⟩]))))[2]? =some (.ag 157 3 (gq X ds)):=by rw[aKQ,S H4];exact ay
   have nJ: (r.set (X (cM bP ah ds)) (.ag 88 3 (ai (ds[cM bP ah ds].aa++[⟨p.R,p.ab,p.ey⟩])))).length=r.length:=aLg;generalize dc:r.set (X (cM bP ah ds)) (.ag 88 3 (ai (ds[cM bP ah ds].aa++[⟨p.R,p.ab,p.ey⟩])))=aF at *;simp only[<-nJ]
   (repeat (first| (refine i ?_;simp only[go_sem,dH,dO,ee,ec,aKT,aKK,bQ sB,bQ ov,bQ qH,yr,kC,iN,mZ,aKX,aP])|simp only[go_sem,dH,dO,ee,ec,aKT,aKK,bQ sB,bQ ov,bQ qH,yr,kC,iN,mZ,aKX,aP]))
   refine⟨⟨c+1,X,by omega,by rw[dV,vc gi,aLg],?_⟩,by omega⟩;rw[dV,tF qH];have Cu:=(sA eZ gi).2.2.2;have RK:∀j,j<ds.length->X j<aF.length:=λj hj=>by rw[nJ];exact (sA eZ hj).2.2.2
   refine ZM eZ gi ?_ (λz bG N G aV=> ?_) ?_ ?_
   ·have RL:jP aF:=by rw[<-dc];exact Co eZ.all (kA ck)
    refine EV (Co RL ?_) ?_
    ·have e: ((gq X ds).set (cM bP ah ds) [.int .i64 (ds[cM bP ah ds]).bP,.int .i64 (ds[cM bP ah ds]).ah,.own (X (cM bP ah ds)) ((ds[cM bP ah ds]).aa.length+1) 0 ((ds[cM bP ah ds]).aa.length+1)])=gq X (fI bP ah p ds):=by
      rw[vc gi,RB];unfold qG;simp
     rw[e];refine L8 λj hj=> ?_;rw[vc gi,aLg] at hj;exact RK j hj
    ·intro bG hrow;simp only[fR] at hrow;rcases hrow with rfl|rfl|rfl
     ·exact kA (by simp only[dY,bU,bJ,ck,aK4,aK0])
     ·exact kA (by simp only[dY,bU,bJ,aK4,aK0])
     ·exact kA (by simp only[dY,bU,bJ,ck,aK4,aK0])
   ·refine bQ ?_;rw[aKQ,S (λe=>G e.symm),<-dc,aKQ,S (λe=>aV e.symm)];exact N
   ·refine bQ ?_;rw[aKQ,Rc rfl,Rc (by omega)];unfold qG;simp
   ·refine bQ ?_;rw[aKQ,S (λe=>H4 e.symm),<-dc,aKQ,Rc rfl,Rc Cu]
  ·have hw:dm (.agg [.int .i64 bP,.int .i64 ah]) (fZ 0 ds)=none:=by
    rw[HZ,S gi]
   have Cv:cM bP ah ds=ds.length:=by omega
   (repeat (first| (refine i ?_;simp only[go_sem,dH,dO,ee,ec,aKT,aKK,bQ ba,bQ hm,bQ ay,hw])|simp only[go_sem,dH,dO,ee,ec,aKT,aKK,bQ ba,bQ hm,bQ ay,hw]))
   have L2:=km ay;simp only[tF hm];have sB: (r.set 1 (.be (.map true [.int .i64,.int .i64] (dy (.agg [.int .i64 bP,.int .i64 ah]) (.int .i64 (ds.length:Int)) (fZ 0 ds)))))[0]? =some (.ag 32 2 [[.int .i64 M.off,.pure 2 (ai M.cS)]]):=by rw[aKQ,S (by omega)];exact ba
   have ov: (r.set 1 (.be (.map true [.int .i64,.int .i64] (dy (.agg [.int .i64 bP,.int .i64 ah]) (.int .i64 (ds.length:Int)) (fZ 0 ds)))))[1]? =some (.be (.map true [.int .i64,.int .i64] (dy (.agg [.int .i64 bP,.int .i64 ah]) (.int .i64 (ds.length:Int)) (fZ 0 ds)))):=by rw[aKQ,Rc rfl,Rc (by omega)]
   have qH: (r.set 1 (.be (.map true [.int .i64,.int .i64] (dy (.agg [.int .i64 bP,.int .i64 ah]) (.int .i64 (ds.length:Int)) (fZ 0 ds)))))[2]? =some (.ag 157 3 (gq X ds)):=by rw[aKQ,S (by omega)];exact ay
   have nJ: (r.set 1 (.be (.map true [.int .i64,.int .i64] (dy (.agg [.int .i64 bP,.int .i64 ah]) (.int .i64 (ds.length:Int)) (fZ 0 ds))))).length=r.length:=aLg;generalize dc:r.set 1 (.be (.map true [.int .i64,.int .i64] (dy (.agg [.int .i64 bP,.int .i64 ah]) (.int .i64 (ds.length:Int)) (fZ 0 ds))))=aF at *;simp only[<-nJ]
   (repeat (first| (refine i ?_;simp only[go_sem,dH,dO,ee,ec,aKT,aKK,bQ sB,bQ ov,bQ qH,kC])|simp only[go_sem,dH,dO,ee,ec,aKT,aKK,bQ sB,bQ ov,bQ qH,kC]))
   refine⟨by omega,?_⟩;simp only[tF qH];obtain⟨cs,fS⟩:∃cs,cs=gq X ds++[[.int .i64 bP,.int .i64 ah,.bH]]:=⟨_,rfl⟩;have yt:cs.length=ds.length+1:=by rw[fS,aKK,kC];rfl
   have tO:cs.getD ds.length []=[.int .i64 bP,.int .i64 ah,.bH]:=by rw[fS,aLn,aNy (by rw[kC];exact aKM _),kC,aNe];rfl
   have H5:∀y,cs.set ds.length y=gq X ds++[y]:=λy=>by rw[fS,aOs _ _ (by rw[kC];exact aKM _),kC,aNe];rfl
   rw[<-fS];have yu: (aF.set 2 (.ag 157 3 cs))[0]? =some (.ag 32 2 [[.int .i64 M.off,.pure 2 (ai M.cS)]]):=by rw[aKQ,S (by omega)];exact sB
   have vd: (aF.set 2 (.ag 157 3 cs))[2]? =some (.ag 157 3 cs):=by rw[aKQ,Rc rfl,Rc (by omega)]
   have sC: (aF.set 2 (.ag 157 3 cs))[1]? =aF[1]? :=by rw[aKQ,S (by omega)]
   rw[ov] at sC;have Ag: (aF.set 2 (.ag 157 3 cs)).length=aF.length:=aLg;generalize du:aF.set 2 (.ag 157 3 cs)=Rd at *;simp only[<-Ag];have mZ: (ds.length:Int)<((ds.length+1:Nat):Int):=by omega
   have iN: (0:Int)<=(ds.length:Int):=by omega
   (repeat (first| (refine i ?_;simp only[go_sem,dH,dO,ee,ec,aKT,aKK,bQ yu,bQ sC,bQ vd,tO,yt,iN,mZ])|simp only[go_sem,dH,dO,ee,ec,aKT,aKK,bQ yu,bQ sC,bQ vd,tO,yt,iN,mZ]))
   refine bM (Ma p.ey (by omega)) (by simp only[bU,bJ,ck,aK4]) rfl ?_
   (repeat (first| (refine i ?_;simp only[go_sem,dH,dO,ee,ec,aKT,aKK,bQ yu,bQ sC,bQ vd,tO,yt,H5,iN,mZ,aKX,aP])|simp only[go_sem,dH,dO,ee,ec,aKT,aKK,bQ yu,bQ sC,bQ vd,tO,yt,H5,iN,mZ,aKX,aP]))
   have hne: (2==Rd.length+3)=false:=aPh (by omega);rw[hne];refine⟨trivial,?_⟩;rw[tF vd]
   (repeat (first| (refine i ?_;simp only[go_sem,aP])|simp only[go_sem,aP]))
   obtain⟨ly,yp⟩:=ZN (W:=Rd.set 2 (.ag 157 3 (gq X ds++[[.int .i64 bP,.int .i64 ah,.own (Rd.length+4) 1 0 1]]))++[.ag 88 3 [[.int .i64 p.R,.int .i64 p.ab,.pure 2 (ai p.ey)]],.ag 280 2 [[.int .i64 bP,.int .i64 ah]],.ag 157 3 [[.int .i64 bP,.int .i64 ah,.bH]],.ag 88 3 [[.int .i64 p.R,.int .i64 p.ab,.pure 2 (ai p.ey)]],.ag 88 3 [[.int .i64 p.R,.int .i64 p.ab,.pure 2 (ai p.ey)]]]) (p:=p) eZ Cv (Rd.length+4) (by omega) (by
    refine ZP (λz bG N=> ?_) ?_
    ·rw[aKQ] at N;split at N
     ·split at N
      ·cases N;have e:gq X ds++[[.int .i64 bP,.int .i64 ah,.own (Rd.length+4) 1 0 1]]=gq (λc=>if c<ds.length then X c else Rd.length+4) (ds++[⟨bP,ah,[p]⟩]):=by
        rw[RD];congr 1
        ·exact RE λc av=>by rw[Rc av]
        ·unfold qG;simp
       rw[e];refine L8 λc av=> ?_;rw[aKK,aL6] at av;simp only[aLg,aK8,aLQ];split
       ·have:=(sA eZ (by assumption)).2.2.2;omega
       ·omega
      ·cases N
     ·rename_i G;rw[<-du,aKQ,S G,<-dc,aKQ] at N;split at N
      ·split at N
       ·cases N;exact ZQ
       ·cases N
      ·exact Qx (by rw[aLg];omega) (eZ.all z bG N)
    ·intro bG hrow;simp only[fR] at hrow;rcases hrow with rfl|rfl|rfl|rfl|rfl
     all_goals exact kA (by simp only[dY,bU,bJ,ck,aK4,aK0])) (λz bG N d G=>by
    refine bQ ?_;rw[aKQ,S (λe=>G e.symm),<-du,aKQ,S (λe=>G e.symm),<-dc,aKQ,S (λe=>d e.symm)];exact N) (by
    refine bQ ?_;rw[aKQ,S (by omega)];exact sC) (by
    refine bQ ?_;rw[aKQ,Rc rfl,Rc (by omega)]) (by
    rw[aNy (by rw[aLg];omega),aLg,Nat.add_sub_cancel_left];rfl)
   exact⟨⟨c+1,ly,by omega,by rw[dV,E2 Cv,aKK];rfl,by rw[dV];exact yp⟩,by omega⟩
theorem awy {e cO:Int}(he:cO<=e):∀{l:List Pr.dF},Pr.io e l=true->Pr.io cO l=true
 | [],_=>rfl
 |p::z,h=>by
  simp only[Pr.io,Pr.tL,Pr.hR,aKJ,aKN] at h ⊢;exact⟨⟨⟨⟨by omega,h.1.1.1.2⟩,h.1.1.2⟩,h.1.2⟩,h.2⟩
theorem R9:∀{l cb:List Pr.dF} {e:Int},cb.Sublist l->Pr.io e l=true->Pr.io e cb=true
 |_,_,_,.slnil,_=>rfl
 |_,_,e,.cons (a:=p) ao,h=>by
  have cR:=h;simp only[Pr.io,Pr.tL,Pr.hR,aKJ,aKN] at cR;exact awy (e:=p.ab) (by omega) (R9 ao cR.2)
 |_,_,e,.cons_cons (a:=p) ao,h=>by
  simp only[Pr.io,aKJ] at h ⊢;exact⟨h.1,R9 ao h.2⟩
theorem awz {l cb:List Pr.dF}(ao:cb.Sublist l)(h:Pr.lx l=0):Pr.lx cb=0:=by
 have hl:=ao.length_le;have d:l.length<=1024/\Pr.io 0 l=true:=by
  unfold Pr.lx at h;split at h
  ·cases h
  ·split at h
   ·exact⟨by omega,by assumption⟩
   ·cases h
 unfold Pr.lx;rw[S (by omega),Rc (R9 ao d.2)]
theorem aai {a b:Int}{p:Pr.dF}{aY:List Pr.dF}{cs:Int}(aC:a<cs):∀{ds:List eX},(∀B∈ds,B.aa.Sublist aY/\B.bP<cs)-> ∀B∈fI a b p ds,B.aa.Sublist (aY++[p])/\B.bP<cs
 | [],_,B,ay=>by
  rw[fI,aK2] at ay;subst ay;exact⟨List.sublist_append_right aY [p],aC⟩
 |x::t,h,B,ay=>by
  have aj:=h x aLa;unfold fI at ay;split at ay
  ·rcases aKV.1 ay with rfl|ay
   ·exact⟨aj.1.append (List.Sublist.refl [p]),aj.2⟩
   ·have:=h B (aK1 _ ay);exact⟨this.1.trans (List.sublist_append_left aY [p]),this.2⟩
  ·rcases aKV.1 ay with rfl|ay
   ·exact⟨aj.1.trans (List.sublist_append_left aY [p]),aj.2⟩
   ·exact aai aC (λy bt=>h y (aK1 _ bt)) B ay
theorem aaj {M:cc}{ae:List cw}{e l:Int}{aa:List Pr.dF}:∀{c:Nat},c<=aa.length-> ∀B∈mY M ae e l (aa.take c),B.aa.Sublist (aa.take c)/\B.bP<ae.length
 |0,_,B,ay=>by simp[mY] at ay
 |c+1,h,B,ay=>by
  rw[RF (by omega)] at ay;rw[aLz (by omega)];refine aai ?_ (aaj (by omega)) B ay;have:=YP (aa[c]'(by omega)).R e l (ae.map (fW M));rw[aLe] at this;unfold Ct;omega
theorem awA {M:cc}{ae:List cw}{e l:Int}{aa:List Pr.dF}(h:Pr.lx aa=0):∀B∈mY M ae e l aa,Pr.lx B.aa=0/\B.bP<ae.length:=λB ay=>by
 have:=aaj (M:=M) (ae:=ae) (e:=e) (l:=l) (aa:=aa) (c:=aa.length) (aKM _) B (by rw[aLb];exact ay);rw[aLb] at this;exact⟨awz this.1 h,this.2⟩
theorem Sa:∀{dl:List Pr.lR} {k a m:Int} {w:List Pr.bx},Pr.lz a m dl=true->Pr.gz w->Pr.gz (Pr.pR dl k w)/\Pr.da (Pr.pR dl k w)<=Pr.da w
 | [],k,a,m,w,_,h=>⟨h,by simp[Pr.pR]⟩
 |b::dl,k,a,m,w,af,h=>by
  simp only[Pr.lz,aKJ] at af;rw[Pr.pR];split
  ·exact Sa af.2 h
  ·obtain⟨J,B⟩:=Pr.Sb (l:=w) (z:=[]) (a:=b.after) (k:=min (b.iP-k) (Pr.da w-b.after)) (by omega) h (by simp[Pr.gz]);obtain⟨e,f⟩:=Sa (k:=k+min (b.iP-k) (Pr.da w-b.after)) af.2 J;simp only[Pr.da] at B;exact⟨e,by omega⟩
theorem awB {z:Pr.gK}{ae:Pr.bx}{aa:List Pr.dF}(h:Pr.qD z ae aa=0):Pr.gz (Pr.pb z ae aa)/\Pr.da (Pr.pb z ae aa)<=100000:=by
 obtain⟨d,G,au,bv⟩:=Pr.Sc h;obtain⟨yn,kX,nK⟩:=Pr.LS d;have tG:=Pr.LU au;obtain⟨fK,E8⟩:=Pr.Sd (z:=[]) (Pr.Ig tG) (by omega) (Pr.Rf (Pr.HP (z:=z) (ae:=ae) (aa:=aa) (last:=0)) (by omega)) (by simp[Pr.gz]);unfold Pr.pb;simp only;split
 ·exact⟨by simp[Pr.gz],by simp[Pr.da]⟩
 ·obtain⟨J,B⟩:=Sa (k:=Pr.vg (Pr.mx (Pr.kB z ae 0 aa) (Pr.na aa) [])) kX fK;simp only[Pr.da] at E8;exact⟨J,by omega⟩
theorem awC {z:Pr.gK}{ae:Pr.bx}{aa:List Pr.dF}(h:Pr.qD z ae aa=0):Pr.dd 0 120968640 (Pr.pb z ae aa)=true/\(Pr.pb z ae aa).length<=100000:=by
 obtain⟨d,G,au,bv⟩:=Pr.Sc h;obtain⟨yn,kX,nK⟩:=Pr.LS d;obtain⟨av,ht⟩:=awB h;obtain⟨⟨el,ju⟩,_⟩:=Pr.awD (z:=z) (ae:=ae) (aa:=aa) kX (Pr.LU au);have hl:=Pr.nO av;refine⟨Se (λx aj=> ?_) (ju.Sf.imp λh=>by omega),by omega⟩;have:=av x aj;have:=ju.xR x aj;omega
def fg (l:List Pr.bx):List Int:=l.map (·.R)
def aLR (l:List Pr.bx):List Int:=l.map (·.ab)
theorem aSC (a b:List Pr.bx):fg (a++b)=fg a++fg b:=aLU
theorem aSD {l:List Pr.bx}{e:Int}(h:Pr.hY l e): (fg l).Nodup:=
 aMB.2 (h.Sf.imp_of_mem λ{a b} aC af pv=>by have:=h.xR a aC;omega)
theorem aQ2 {l:List Pr.bx}{e t:Int}(h:Pr.dd e t l=true): (fg l).Nodup:=
 aMB.2 ((Ix h).imp_of_mem λ{a b} aC af pv=>by have:=wG h a aC;omega)
theorem aQn {l:List Pr.bx}{v:Pr.bx}{x:Int}(h:x∈fg (Pr.jz l v)):x∈fg l\/x=v.R:=by
 by_cases aH:v.ab<=v.R
 ·rw[Pr.Ob aH] at h;exact .inl h
 ·rcases aNM l with rfl|⟨cb,u,rfl⟩
  ·rw[Pr.Oc (by omega)] at h
   right;simpa[fg] using h
  ·rw[aNN] at h ⊢;rw[Pr.Od (by omega)] at h;split at h
   ·left;simpa[fg] using h
   ·rw[aSC] at h;rcases aK3.1 h with h|h
    ·exact .inl h
    ·right;simpa[fg] using h
theorem aQ3 {l:List Pr.bx}{v:Pr.bx}: (Pr.jz l v).length<=l.length+(if v.R<v.ab then 1 else 0):=by
 by_cases aH:v.ab<=v.R
 ·rw[Pr.Ob aH];omega
 ·rw[Rc (by omega)];rcases aNM l with rfl|⟨cb,u,rfl⟩
  ·rw[Pr.Oc (by omega)];simp
  ·rw[aNN,Pr.Od (by omega)];split<;>simp
theorem aQ4:∀{os:List Pr.bx} {v:Pr.bx} {z:List Pr.bx} {x:Int},x∈fg (Pr.oG os v z)->x∈fg z\/x=v.R\/x∈aLR os
 | [],v,z,x,h=>by
  rw[Pr.oG] at h;rcases aQn h with h|h
  ·exact .inl h
  ·exact .inr (.inl h)
 |V::os,v,z,x,h=>by
  rw[Pr.oG] at h;split at h
  ·rcases aQ4 h with h|h|h
   ·rcases aQn h with h|h
    ·exact .inl h
    ·exact .inr (.inl h)
   ·exact .inr (.inr (by rw[h];simp[aLR]))
   ·exact .inr (.inr (by simp only[aLR,aKP];exact aK1 _ h))
  ·rcases aQn h with h|h
   ·exact .inl h
   ·exact .inr (.inl h)
theorem aQo {f:Int}:∀{os:List Pr.bx} {x:Int},x∈aLR (Pr.rS f os)->x∈aLR os
 | [],x,h=>h
 |V::os,x,h=>by
  rw[Pr.rS] at h;split at h
  ·simp only[aLR,aKP];exact aK1 _ (aQo h)
  ·exact h
theorem aQ5:∀{l os z:List Pr.bx} {x:Int},x∈fg (Pr.mx l os z)->x∈fg z\/x∈fg l\/x∈aLR os
 | [],os,z,x,h=> .inl h
 |v::l,os,z,x,h=>by
  rw[Pr.mx] at h;rcases aQ5 h with h|h|h
  ·rcases aQ4 h with h|h|h
   ·exact .inl h
   ·exact .inr (.inl (by rw[h];simp[fg]))
   ·exact .inr (.inr (aQo h))
  ·exact .inr (.inl (by simp only[fg,aKP];exact aK1 _ h))
  ·exact .inr (.inr (aQo h))
theorem aQ6:∀{l z:List Pr.bx} {a k:Int},0<=k->(∀v∈l,v.R<v.ab)->(Pr.rb l a k z).length<=z.length+l.length+(if 0<a+k then 1 else 0)
 | [],z,a,k,_,_=>by rw[Pr.rb,aLQ];omega
 |v::l,z,a,k,O,an=>by
  have jZ:=an v aLa;rw[Pr.rb];have ih:=aQ6 (l:=l) (z:=Pr.jz (Pr.jz z ⟨v.R,v.R+min (max a 0) (v.ab-v.R)⟩) ⟨v.R+min (max (a+k) 0) (v.ab-v.R),v.ab⟩) (a:=a-(v.ab-v.R)) O λx aj=>an x (aK1 _ aj);have rh:=aQ3 (l:=Pr.jz z ⟨v.R,v.R+min (max a 0) (v.ab-v.R)⟩) (v:=⟨v.R+min (max (a+k) 0) (v.ab-v.R),v.ab⟩);have aF1:=aQ3 (l:=z) (v:=⟨v.R,v.R+min (max a 0) (v.ab-v.R)⟩);simp only at rh aF1;rw[aK8];refine aLk ih ?_
  by_cases c0:0<a+k
  ·rw[Rc c0]
   by_cases c1:v.ab-v.R<=a+k
   ·rw[S (by omega)] at rh;have N5: (if v.R<v.R+min (max a 0) (v.ab-v.R) then 1 else 0)<=1:=by split<;>omega
    have aF2: (if 0<a-(v.ab-v.R)+k then 1 else 0)<=1:=by split<;>omega
    omega
   ·rw[S (c:=0<a-(v.ab-v.R)+k) (by omega)];have N5: (if v.R<v.R+min (max a 0) (v.ab-v.R) then 1 else 0)<=1:=by split<;>omega
    have aF2: (if v.R+min (max (a+k) 0) (v.ab-v.R)<v.ab then 1 else 0)<=1:=by split<;>omega
    omega
  ·rw[S c0,S (c:=0<a-(v.ab-v.R)+k) (by omega)];rw[S (by omega)] at aF1;have aF2: (if v.R+min (max (a+k) 0) (v.ab-v.R)<v.ab then 1 else 0)<=1:=by split<;>omega
   omega
theorem aQp:∀{dl:List Pr.lR} {k a m:Int} {w:List Pr.bx},Pr.lz a m dl=true->(∃el,Pr.hY w el)->(Pr.pR dl k w).length<=w.length+dl.length
 | [],_,_,_,_,_,_=>by rw[Pr.pR];simp
 |b::dl,k,a,m,w,af,ju=>by
  have jX:=af;simp only[Pr.lz,aKJ] at af;rw[Pr.pR,aK8];split
  ·have:=aQp (k:=k) af.2 ju;omega
  ·rename_i ad;obtain⟨el,ju⟩:=ju;have d:=aQ6 (l:=w) (z:=[]) (a:=b.after) (k:=min (b.iP-k) (Pr.da w-b.after)) (by omega) ju.xR;have Rt:∃el,Pr.hY (Pr.rb w b.after (min (b.iP-k) (Pr.da w-b.after)) []) el:=by
    have G:=(Pr.UC (dl:=[b]) (k:=k) (a:=a) (m:=m) (w:=w) (by simp only[Pr.lz,aKJ];exact⟨af.1,trivial⟩) ⟨el,ju⟩).1;rw[Pr.pR,S ad,Pr.pR] at G;exact G
   have au:=aQp (k:=k+min (b.iP-k) (Pr.da w-b.after)) af.2 Rt;have aF2: (if 0<b.after+min (b.iP-k) (Pr.da w-b.after) then 1 else 0)<=1:=by split<;>omega
   simp only[aLQ] at d;omega
theorem aQ7 {z:Pr.gK}{ae:Pr.bx}{aa:List Pr.dF}(kX:Pr.lz (-1) 0 z.iA=true)(ak:Pr.io 0 aa=true){t:Int}(h:Pr.fE (Pr.pb z ae aa) t=true):Pr.fE (Pr.kB z ae 0 aa) t=true/\Pr.fE (Pr.na aa) t=false:=by
 obtain⟨a,b⟩:=Pr.ajf (z:=[]) (e:=0) (Pr.Ig ak) (Pr.HP (z:=z) (ae:=ae) (aa:=aa) (last:=0)) (by omega) Pr.UA;have cR:Pr.fE (Pr.mx (Pr.kB z ae 0 aa) (Pr.na aa) []) t=true:=by
  unfold Pr.pb at h;simp only at h;split at h
  ·simp[Pr.fE] at h
  ·exact (Pr.UC kX ⟨_,a⟩).2 t h
 rw[b] at cR;simpa[Pr.fE] using cR
theorem aSE {z:Pr.gK}{ae:Pr.bx}{aa:List Pr.dF}(h:Pr.qD z ae aa=0): (Pr.pb z ae aa).length<=aa.length+(Pr.na aa).length+16:=by
 obtain⟨d,G,au,bv⟩:=Pr.Sc h;obtain⟨yn,kX,nK⟩:=Pr.LS d;have ak:=Pr.LU au;obtain⟨a,b⟩:=Pr.ajf (z:=[]) (e:=0) (Pr.Ig ak) (Pr.HP (z:=z) (ae:=ae) (aa:=aa) (last:=0)) (by omega) Pr.UA;have aP: (Pr.mx (Pr.kB z ae 0 aa) (Pr.na aa) []).length<=aa.length+(Pr.na aa).length:=by
  have ao:fg (Pr.mx (Pr.kB z ae 0 aa) (Pr.na aa) []) ⊆ fg (Pr.kB z ae 0 aa)++aLR (Pr.na aa):=λx aj=>by
   rcases aQ5 aj with h|h|h
   ·simp[fg] at h
   ·exact aMa _ h
   ·exact aNb _ h
  have:=(aSD a).length_le_of_subset ao;have hl:=Zo (z:=z) (ae:=ae) (aa:=aa) (last:=0);simp only[fg,aLR,aKK,aLe] at this;omega
 unfold Pr.pb;simp only;split
 ·simp
 ·have:=aQp (k:=Pr.vg (Pr.mx (Pr.kB z ae 0 aa) (Pr.na aa) [])) kX ⟨_,a⟩;omega
theorem aPs {z:Pr.gK}(hm:z.qh){ae:Pr.bx}{ft av:Int}(nu:0<=ft):∀{aa:List Pr.dF} {last:Int},(∀p∈aa,ft<=p.R/\p.R<p.ab/\p.ab<=av)-> ∀v∈Pr.kB z ae last aa,ft-120<=v.R/\v.ab<=av+120
 | [],last,_,v,an=>by simp[Pr.kB] at an
 |p::aa,last,h,v,an=>by
  have ak:=h p aLa;have ao:=hm.2;have ih:=λlast=>aPs hm (ae:=ae) nu (aa:=aa) (last:=last) λq aV=>h q (aK1 _ aV);have aKH:=Pr.ajo hm (t:=p.R) false (by omega);have bR:=Pr.ajo hm (t:=p.ab) true (by omega);rw[Pr.kB] at an;have cn:ft-120<=(Pr.mo z ae last p).R/\(Pr.mo z ae last p).ab<=av+120:=by
   unfold Pr.mo;simp only;constructor
   ·split
    ·rename_i J;omega
    ·omega
   ·split
    ·rename_i J;omega
    ·omega
  split at an
  ·rcases aKV.1 an with rfl|an
   ·exact cn
   ·exact ih _ v an
  ·exact ih _ v an
theorem aSF {z:Pr.gK}{ae:Pr.bx}{aa:List Pr.dF}(h:Pr.qD z ae aa=0){ft av:Int}(nu:0<=ft)(N:∀p∈aa,ft<=p.R/\p.R<p.ab/\p.ab<=av):∀x∈Pr.pb z ae aa,ft-120<=x.R/\x.ab<=av+120:=by
 obtain⟨d,G,au,bv⟩:=Pr.Sc h;obtain⟨yn,kX,nK⟩:=Pr.LS d;have ak:=Pr.LU au;intro x aj;have hne:=wG (awC h).1 x aj;obtain⟨v,an,cH,ff⟩:=Pr.Oa.1 (aQ7 kX ak (Pr.Oa.2 ⟨x,aj,aMe _,hne.2.1⟩)).1;obtain⟨w,aP,aKU,eJ⟩:=Pr.Oa.1 (aQ7 kX ak (Pr.Oa.2 ⟨x,aj,(by omega:x.R<=x.ab-1),(by omega:x.ab-1<x.ab)⟩)).1;have c1:=aPs yn nu N v an;have c2:=aPs yn nu N w aP;omega
end Go.Proofs.YtpincjkjoeopkaaGreatDoor
