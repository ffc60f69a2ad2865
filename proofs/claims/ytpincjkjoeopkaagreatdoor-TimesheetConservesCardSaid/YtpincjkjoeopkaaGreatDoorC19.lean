/- Presences and working time. -/
import Derived.Test.YtpincjkjoeopkaaGreatDoorC17
set_option linter.all false
namespace Go.Proofs.YtpincjkjoeopkaaGreatDoor.Pr
open Go Go.Abs
open Go.Proofs.Tryz
theorem aQY (f t:Int):aO prog 85 [.agg [.int .i64 f,.int .i64 t]] [] (λv rs=>v= .bool (hR ⟨f,t⟩ 0 120968640)/\rs=[]):=by
 refine cu func85 aAd (by simp[adc,aHU]) ?_;simp only[go_sem,adc,aHU]
 repeat' ((first|refine gv ?_ ?_|refine gw ?_ ?_|refine cf ?_ ?_|refine dj ?_ ?_)<;>intro aw<;>(have ak:=aw;try simp only[bC] at ak)<;>(first|omega| (simp only[go_sem,aw,adc,aHU];clear aw)))
 all_goals (refine aKG rfl ⟨aKI F.bool ?_,rfl⟩;rw[hR,aL0];simp only[bC,aLK,aMI];omega)
theorem aTS (p:dF):aO prog 90 [.agg (aJ.J p)] [] (λv rs=>v= .bool (tL 0 p)/\rs=[]):=by
 refine cu func90 aAi (by simp[adi,aHV]) ?_;simp only[go_sem,adi,aHV,H3];refine bM (aQY p.R p.ab) rfl rfl ?_;simp only[go_sem]
 repeat' ((first|refine gv ?_ ?_|refine gw ?_ ?_|refine cf ?_ ?_|refine dj ?_ ?_)<;>intro aw<;>(have ak:=aw;try simp only[bC] at ak)<;>(first|omega| (simp only[go_sem,aw,adi,aHV];clear aw)))
 ·exact aKG rfl ⟨by rw[tL,ak];simp,rfl⟩
 ·exact aKG rfl ⟨by rw[tL,aLh (p:=p.ey.length<=1024) (by omega)];simp,rfl⟩
 rename_i vP;have Cv:tL 0 p=dd p.R p.ab p.ey:=by rw[tL,vP,aLf (p:=p.ey.length<=1024) (by omega)];simp
 have HL:=vP;simp only[hR,aKN] at HL;refine dN (λD r=> ∃(k:Nat) (e:Int),k<=p.ey.length/\0<=e/\dd p.R p.ab p.ey=dd e p.ab (p.ey.drop k)/\D=[(1,.bd 0 1 0 0),(3,.int .i64 e),(4,.int .i64 k)]/\r=[.ag 88 3 [[.int .i64 p.R,.int .i64 p.ab,.pure 2 (ai p.ey)]]])
  (λD _=>match bs D 4 with| .int _ j=>(p.ey.length-j).toNat|_=>0) ?_ ?_
 ·exact i ⟨0,p.R,by omega,by omega,by simp,rfl,rfl⟩
 ·rintro D r ⟨k,e,O,he,pP,rfl,rfl⟩;simp only[go_sem,adi,aHV];refine cf ?_ ?_<;>intro fH<;>simp only[bC] at fH<;>simp only[go_sem,adi,aHV]
  ·have Aa:k<p.ey.length:=by omega
   refine⟨by omega,by omega,?_⟩
   try simp only[aKX]
   rw[cT Aa,eY];rw[oF Aa,dd] at pP;generalize p.ey[k]=b at pP ⊢;simp only[go_sem,adi,aHV];refine bM (aQY b.R b.ab) rfl rfl ?_;simp only[go_sem];have aP:=dB (c:=k) (by omega)
   repeat' ((first|refine gv ?_ ?_|refine gw ?_ ?_|refine cf ?_ ?_|refine dj ?_ ?_)<;>intro aw<;>(have ak:=aw;try simp only[bC] at ak)<;>(first|omega| (simp only[go_sem,aw,adi,aHV,aP];clear aw)))
   any_goals
    refine aKG rfl ⟨?_,rfl⟩;rw[Cv,pP,show hR b e p.ab=false from by simp only[hR,aLX,aKN] at *;omega];rfl
   (refine E.bB [some 0] ?_;simp only[go_sem])
   have aku:hR b e p.ab=true:=by simp only[hR,aLX,aKN] at *;omega
   refine i ⟨⟨k+1,b.ab,by omega,by simp only[hR,aKN] at aku;omega,by rw[pP,aku,aLw],rfl,rfl⟩,?_⟩;simp only[go_sem];omega
  ·have yF:k=p.ey.length:=by omega
   rw[yF,aLF,dd] at pP;exact aKG rfl ⟨by rw[Cv,pP],rfl⟩
theorem aTp (p:dF):aO prog 30 [.agg (aJ.J p)] [] (λv rs=>v= .int .i64 (aMv p)/\rs=[]):=by
 refine cu func30 azB (by simp[acv,aHN]) ?_;simp only[go_sem,acv,aHN,H3];refine bM (aTS p) rfl rfl ?_;simp only[go_sem];refine cf ?_ ?_<;>intro dI<;>simp only[bC] at dI<;>simp only[go_sem,acv,aHN]
 ·exact aKG rfl ⟨by rw[aMv,S (by rw[aPP,dI];simp)],rfl⟩
 have an:=dI;simp only[tL,hR,aKJ,aKN] at an;have aDF:=aOU an.2 (by omega);rw[show aMv p=p.ab-p.R-aMs p.ey from by rw[aMv,Rc (aPP.2 dI)]];rw[bl];refine dN (λD r=> ∃(k:Nat) (e m:Int),k<=p.ey.length/\p.R<=e/\e<=p.ab/\dd e p.ab (p.ey.drop k)=true/\m-aMs (p.ey.drop k)=p.ab-p.R-aMs p.ey/\D=[(1,.bd 0 1 0 0),(3,.int .i64 m),(4,.int .i64 k)]/\r=[.ag 88 3 [[.int .i64 p.R,.int .i64 p.ab,.pure 2 (ai p.ey)]]])
  (λD _=>match bs D 4 with| .int _ j=>(p.ey.length-j).toNat|_=>0) ?_ ?_
 ·exact i ⟨0,p.R,_,by omega,by omega,by omega,by simp[an.2],by simp,rfl,rfl⟩
 ·rintro D r ⟨k,e,m,O,aSr,aQZ,kX,hm,rfl,rfl⟩;simp only[go_sem,acv,aHN];refine cf ?_ ?_<;>intro fH<;>simp only[bC] at fH<;>simp only[go_sem,acv,aHN]
  ·have Aa:k<p.ey.length:=by omega
   have so:=aOU kX aQZ;rw[oF Aa,dd] at kX;rw[aTT Aa] at hm so;simp only[aKJ,hR,aKN] at kX;have Cm: (0:Int)<=k:=by omega
   have kL: (k:Int)<p.ey.length:=by omega
   have OU: (ai p.ey).getD k []=[.int .i64 p.ey[k].R,.int .i64 p.ey[k].ab]:=by rw[cT Aa,eY]
   generalize p.ey[k]=b at kX hm so OU;have aUj:=aOU kX.2 (by omega);have aP:=dB (c:=k) (by omega);simp only[go_sem,acv,aHN,Cm,kL,OU,aP];rw[bl (x:=b.ab-b.R),bl];refine i ⟨⟨k+1,b.ab,_,by omega,by omega,by omega,kX.2,by omega,rfl,rfl⟩,?_⟩;simp only[go_sem];omega
  ·have yF:k=p.ey.length:=by omega
   rw[yF,aLF,aMs] at hm;exact aKG rfl ⟨by rw[show p.ab-p.R-aMs p.ey=m from by omega],rfl⟩
structure lR where
 after:Int
 iP:Int
def lR.cells (e:lR):List F:=[.int .i64 e.after,.int .i64 e.iP]
instance:aJ lR:=⟨lR.cells,2,λ_=>rfl,λ_=>rfl,λ_=>rfl⟩
theorem ajm (e:lR):aJ.J e=[.int .i64 e.after,.int .i64 e.iP]:=rfl
theorem aGF:aJ.U lR=2:=rfl
theorem aGG (e:lR):List.take 2 (aJ.J e)=aJ.J e:=rfl
attribute [go_sem] aGF aGG
structure gK where
 eI:Int
 lw:Int
 lP:Int
 iA:List lR
def gK.cells (p:gK):List F:=[.int .i64 p.eI,.int .i64 p.lw,.int .i64 p.lP,.pure 2 (ai p.iA)]
instance:aJ gK:=⟨gK.cells,4,λ_=>rfl,λp=>by simp[gK.cells,bU,bJ],λp=>by simp[gK.cells,Abs.cV]⟩
theorem Ab (p:gK):aJ.J p=[.int .i64 p.eI,.int .i64 p.lw,.int .i64 p.lP,.pure 2 (ai p.iA)]:=rfl
def da:List bx->Int
 | []=>0
 |v::z=>(v.ab-v.R)+da z
theorem UM:∀{l z:List bx},da (l++z)=da l+da z
 | [],z=>by simp[da]
 |v::l,z=>by rw[aLx,da,da,UM];omega
def jz (l:List bx)(v:bx):List bx:=
 if v.ab<=v.R then l else match l.getLast? with
  |some u=>if u.ab=v.R then l.dropLast++[⟨u.R,v.ab⟩] else l++[v]
  |none=> [v]
theorem Ob {l:List bx}{v:bx}(h:v.ab<=v.R):jz l v=l:=by rw[jz,Rc h]
theorem Oc {v:bx}(h:v.R<v.ab):jz [] v=[v]:=by rw[jz,S (by omega)];rfl
theorem Od {l:List bx}{u v:bx}(h:v.R<v.ab):jz (l++[u]) v=if u.ab=v.R then l++[⟨u.R,v.ab⟩] else l++[u]++[v]:=by
 rw[jz,S (by omega)];simp
def gz (l:List bx):Prop:= ∀v∈l,0<=v.R/\v.R<v.ab/\v.ab<=120968640
theorem Og {l:List bx}{v:bx}:gz (l++[v])↔gz l/\0<=v.R/\v.R<v.ab/\v.ab<=120968640:=by
 simp only[gz,aK3,aK2];exact⟨λh=>⟨λx aj=>h x (.inl aj),h v (.inr rfl)⟩,λh x aj=>aj.elim (h.1 x) (λe=>e▸h.2)⟩
theorem nO:∀{l:List bx},gz l->(l.length:Int)<=da l
 | [],_=>by simp[da]
 |v::z,h=>by
  have d:=h v (by simp);have G:=nO (l:=z) (λx aj=>h x (by simp[aj]));rw[da,aK8];omega
theorem sS {l:List bx}{v:bx}(h:gz l)(h0:0<=v.R)(d:v.ab<=120968640):gz (jz l v)/\da (jz l v)=da l+max (v.ab-v.R) 0:=by
 by_cases an:v.ab<=v.R
 ·rw[Ob an];exact⟨h,by omega⟩
 ·rcases aNM l with rfl|⟨cb,u,rfl⟩
  ·rw[Oc (by omega)];exact⟨by simp only[gz,aK2];rintro x rfl;omega,by simp only[da];omega⟩
  ·rw[aNN] at h ⊢;rw[Od (by omega)];rw[Og] at h;split
   ·exact⟨by rw[Og];exact⟨h.1,by simp only;omega,by simp only;omega,by simp only;omega⟩,by simp only[UM,da];omega⟩
   ·exact⟨by rw[Og,Og];exact⟨h,by omega,by omega,by omega⟩,by simp only[UM,da];omega⟩
def lz:Int->Int->List lR->Bool
 |_,_,[]=>true
 |a,m,b::z=>decide (a<b.after/\b.after<=1440/\m<b.iP/\b.iP<=1440)&&lz b.after b.iP z
def gK.qh (z:gK):Prop:=(z.lw=0/\z.eI=0\/1<=z.lw/\z.lw<=3/\1<=z.eI/\z.eI<=60)/\0<=z.lP/\z.lP<=120
instance (z:gK):Decidable z.qh:=by unfold gK.qh;infer_instance
def mq (z:gK):Int:=if 16<z.iA.length then 3 else if z.qh/\lz (-1) 0 z.iA=true then 0 else 1
def um (z:gK)(t:Int)(e:Bool):Int:=
 if z.lw=0 then t else if t / z.eI*z.eI=t then t
 else if (z.lw=1/\e=false)\/(z.lw=2/\e=true)\/(z.lw=3/\z.eI<=2*(t-t / z.eI*z.eI)) then t / z.eI*z.eI+z.eI else t / z.eI*z.eI
def mo (z:gK)(ae:bx)(last:Int)(p:dF):bx:=
 ⟨max (if ¬(ae.R=0/\ae.ab=0)/\p.R-ae.R<=z.lP/\ae.R-p.R<=z.lP then ae.R else um z p.R false) last,
  min (if ¬(ae.R=0/\ae.ab=0)/\p.ab-ae.ab<=z.lP/\ae.ab-p.ab<=z.lP then ae.ab else um z p.ab true) 120968640⟩
def kB (z:gK)(ae:bx):Int->List dF->List bx
 |_,[]=> []
 |last,p::aa=>if (mo z ae last p).R<(mo z ae last p).ab then mo z ae last p::kB z ae (max last (mo z ae last p).ab) aa else kB z ae (max last (mo z ae last p).ab) aa
def na (aa:List dF):List bx:=aa.flatMap (·.ey)
def oG:List bx->bx->List bx->List bx
 | [],v,z=>jz z v
 |V::os,v,z=>if V.R<v.ab then oG os ⟨V.ab,v.ab⟩ (jz z ⟨v.R,V.R⟩) else jz z v
def rS (f:Int):List bx->List bx
 | []=> []
 |V::os=>if V.ab<=f then rS f os else V::os
def mx:List bx->List bx->List bx->List bx
 | [],_,z=>z
 |v::l,os,z=>mx l (rS v.R os) (oG (rS v.R os) v z)
def rb:List bx->Int->Int->List bx->List bx
 | [],_,_,z=>z
 |v::l,a,k,z=>rb l (a-(v.ab-v.R)) k (jz (jz z ⟨v.R,v.R+min (max a 0) (v.ab-v.R)⟩) ⟨v.R+min (max (a+k) 0) (v.ab-v.R),v.ab⟩)
def pR:List lR->Int->List bx->List bx
 | [],_,w=>w
 |b::dl,k,w=>if da w<=b.after\/b.iP<=k then pR dl k w else pR dl (k+min (b.iP-k) (da w-b.after)) (rb w b.after (min (b.iP-k) (da w-b.after)) [])
def vg (w:List bx):Int:=(w.getLast?.elim 0 (·.ab))-(w.head?.elim 0 (·.R))-da w
def pb (z:gK)(ae:bx)(aa:List dF):List bx:=
 let w:=mx (kB z ae 0 aa) (na aa) []
 if w.isEmpty then [] else pR z.iA (vg w) w
def qD (z:gK)(ae:bx)(aa:List dF):Int:=
 if mq z≠0 then mq z else if ¬(ae.R=0/\ae.ab=0)/\hR ae 0 120968640=false then 1 else if lx aa≠0 then lx aa else if 100000<da (kB z ae 0 aa) then 3 else 0
def aMk:List bx->Int
 | []=>0
 |v::z=>(if hR v 0 120968640 then v.ab-v.R else 0)+aMk z
theorem xe:∀{l:List bx} {e t:Int},dd e t l=true-> ∀v∈l,e<=v.R/\v.R<v.ab/\v.ab<=t
 | [],_,_,_,v,h=>by simp at h
 |x::z,e,t,h,v,an=>by
  simp only[dd,hR,aKJ,aKN] at h;rcases aKV.1 an with rfl|an
  ·exact h.1
  ·have:=xe h.2 v an;omega
theorem Rf {l:List bx}{e:Int}(h:dd e 120968640 l=true)(he:0<=e):gz l:=λv an=>by have:=xe h v an;omega
theorem F5:∀{l:List bx} {e cO t:Int},dd e t l=true->cO<=e->dd cO t l=true
 | [],_,_,_,_,_=>rfl
 |b::z,e,cO,t,h,he=>by
  simp only[dd,hR,aKJ,aKN] at h ⊢;exact⟨by omega,h.2⟩
theorem Jt:∀{os:List bx} {e t f:Int},dd e t os=true->dd e t (rS f os)=true/\ ∀V∈rS f os,f<V.ab
 | [],_,_,_,_=>⟨rfl,by simp[rS]⟩
 |V::os,e,t,f,h=>by
  have cR:=h;simp only[dd,hR,aKJ,aKN] at h;rw[rS];split
  ·obtain⟨d,G⟩:=Jt (f:=f) h.2;exact⟨F5 d (by omega),G⟩
  ·refine⟨cR,λx aj=> ?_⟩;rcases aKV.1 aj with rfl|aj
   ·omega
   ·have:=xe h.2 x aj;omega
theorem ajr:∀{os:List bx} {e:Int} {v:bx} {z:List bx},dd e 120968640 os=true->0<=e->(∀V∈os,v.R<V.ab)->gz z->0<=v.R->v.ab<=120968640->gz (oG os v z)/\da (oG os v z)<=da z+max (v.ab-v.R) 0
 | [],e,v,z,_,_,_,N,h0,d=>by
  rw[oG];obtain⟨a,b⟩:=sS N h0 d;exact⟨a,by omega⟩
 |V::os,e,v,z,h,he,bp,N,h0,d=>by
  simp only[dd,hR,aKJ,aKN] at h;have up:=bp V (by simp);rw[oG];split
  ·obtain⟨a,b⟩:=sS (v:=⟨v.R,V.R⟩) N h0 (by simp only;omega);obtain⟨J,B⟩:=ajr (v:=⟨V.ab,v.ab⟩) h.2 (by omega) (λx aj=>by have:=xe h.2 x aj;simp only;omega) a (by simp only;omega) d;simp only at b B;exact⟨J,by omega⟩
  ·obtain⟨a,b⟩:=sS N h0 d;exact⟨a,by omega⟩
theorem Sd:∀{l os z:List bx} {e:Int},dd e 120968640 os=true->0<=e->gz l->gz z->gz (mx l os z)/\da (mx l os z)<=da z+da l
 | [],os,z,e,_,_,_,N=>⟨N,by simp[mx,da]⟩
 |v::l,os,z,e,h,he,hl,N=>by
  have an:=hl v (by simp);obtain⟨d,G⟩:=Jt (f:=v.R) h;obtain⟨a,b⟩:=ajr d he G N an.1 an.2.2;obtain⟨J,B⟩:=Sd (l:=l) d he (λx aj=>hl x (by simp[aj])) a;rw[mx,da];exact⟨J,by omega⟩
theorem Sb:∀{l z:List bx} {a k:Int},0<=k->gz l->gz z->gz (rb l a k z)/\da (rb l a k z)<=da z+da l
 | [],z,a,k,_,_,N=>⟨N,by simp[rb,da]⟩
 |v::l,z,a,k,O,hl,N=>by
  have an:=hl v (by simp);obtain⟨cH,aKU⟩:=sS (v:=⟨v.R,v.R+min (max a 0) (v.ab-v.R)⟩) N an.1 (by simp only;omega);obtain⟨ff,eJ⟩:=sS (v:=⟨v.R+min (max (a+k) 0) (v.ab-v.R),v.ab⟩) cH (by simp only;omega) an.2.2;obtain⟨J,B⟩:=Sb (l:=l) (a:=a-(v.ab-v.R)) O (λx aj=>hl x (by simp[aj])) ff;rw[rb,da];simp only at aKU eJ;exact⟨J,by omega⟩
theorem Jz {l:List bx}(h:gz l):0<=da l:=by have:=nO h;omega
theorem Zr (f t:Int):aO prog 227 [.agg [.int .i64 f,.int .i64 t]] [] (λv rs=>v= .bool (hR ⟨f,t⟩ 0 120968640)/\rs=[]):=by
 refine cu func227 afk (by simp[IJ,Oe]) ?_;simp only[go_sem,IJ,Oe]
 repeat' ((first|refine gv ?_ ?_|refine gw ?_ ?_|refine cf ?_ ?_|refine dj ?_ ?_)<;>intro aw<;>(have ak:=aw;try simp only[bC] at ak)<;>(first|omega| (simp only[go_sem,aw,IJ,Oe];clear aw)))
 all_goals (refine aKG rfl ⟨aKI F.bool ?_,rfl⟩;rw[hR,aL0];simp only[bC,aLK,aMI];omega)
theorem aji (a b I:Int)(d:0<=a/\a<=200000000)(G:0<=b/\b<=200000000):aO prog 286 [.int .i64 a,.int .i64 b,.int .i64 I] [] (λv rs=>v= .bool (decide (a-b<=I/\b-a<=I))/\rs=[]):=by
 refine cu func286 afS (by simp[IL,Of]) ?_;have dn:IntKind.i64.wrap (a-b)=a-b:=bl;have gI:IntKind.i64.wrap (b-a)=b-a:=bl;simp only[go_sem,IL,Of,dn,gI]
 repeat' ((first|refine gv ?_ ?_|refine gw ?_ ?_|refine cf ?_ ?_|refine dj ?_ ?_)<;>intro aw<;>(have ak:=aw;try simp only[bC] at ak)<;>(first|omega| (simp only[go_sem,aw,IL,Of,dn,gI];clear aw)))
 all_goals (refine aKG rfl ⟨aKI F.bool ?_,rfl⟩;rw[aL0];simp only[bC,aLK,aMI];omega)
theorem UD {l:List bx}{k:Nat}(h:k<l.length):da (l.drop k)=(l[k].ab-l[k].R)+da (l.drop (k+1)):=by
 rw[oF h,da]
theorem aT0 {l:List bx}{k:Nat}(h:k<l.length):aMk (l.drop k)=(if hR l[k] 0 120968640 then l[k].ab-l[k].R else 0)+aMk (l.drop (k+1)):=by
 rw[oF h,aMk]
theorem aQ0:∀{l:List bx},0<=aMk l/\aMk l<=120968640*l.length
 | []=>by simp[aMk]
 |v::z=>by
  have h:=aQ0 (l:=z);rw[aMk,aK8];split
  ·rename_i d;simp only[hR,aKN] at d;omega
  ·omega
theorem UE:∀{l:List bx},gz l->0<=da l/\da l<=120968640*l.length
 | [],_=>by simp[da]
 |v::z,h=>by
  have d:=h v (by simp);have G:=UE (l:=z) (λx aj=>h x (by simp[aj]));rw[da,aK8];omega
theorem LX (l:List bx)(av:gz l)(hl:l.length<=1000000000):aO prog 229 [.pure 2 (ai l)] [] (λv rs=>v= .int .i64 (da l)/\rs=[]):=by
 refine cu func229 afm (by simp[a229,Ju]) ?_;simp only[go_sem,a229,Ju];refine dN (λD r=> ∃(k:Nat) (m:Int),k<=l.length/\m+da (l.drop k)=da l/\0<=m/\D=[(3,.int .i64 m),(6,.pure 2 (ai l)),(7,.int .i64 l.length),(8,.int .i64 k)]/\r=[])
  (λD _=>match bs D 8 with| .int _ j=>(l.length-j).toNat|_=>0) ?_ ?_
 ·exact i ⟨0,0,by omega,by simp,by omega,rfl,rfl⟩
 ·rintro D r ⟨k,m,O,hm,tz,rfl,rfl⟩;simp only[go_sem,a229,Ju];refine cf ?_ ?_<;>intro dI<;>simp only[bC] at dI<;>simp only[go_sem,a229,Ju]
  ·have aI:k<l.length:=by omega
   have Cm: (0:Int)<=k:=by omega
   have kL: (k:Int)<l.length:=by omega
   have eR: (ai l).getD k []=[.int .i64 l[k].R,.int .i64 l[k].ab]:=by rw[cT aI,eY]
   have an:=av _ (aLc aI);have so:=UE (l:=l.drop (k+1)) (λx aj=>av x (aMV aj));have nK:=UE av;rw[UD aI] at hm;generalize l[k]=v at eR an hm;have dn:=dB (c:=k) (by omega);have gI:IntKind.i64.wrap (v.ab-v.R)=v.ab-v.R:=bl;have ik:IntKind.i64.wrap (m+(v.ab-v.R))=m+(v.ab-v.R):=bl;simp only[go_sem,Cm,kL,eR,gI,ik,dn]
   (refine E.bB [] ?_;simp only[go_sem])
   refine i ⟨⟨k+1,_,by omega,by omega,by omega,rfl,rfl⟩,?_⟩;simp only[go_sem];omega
  ·have yF:k=l.length:=by omega
   rw[yF,aLF,da] at hm;exact aKG rfl ⟨by rw[<-hm];simp,rfl⟩
theorem aRR (l:List bx)(hl:l.length<=1000000000):aO prog 27 [.pure 2 (ai l)] [] (λv rs=>v= .int .i64 (aMk l)/\rs=[]):=by
 refine cu func27 azy (by simp[a27,N0]) ?_;simp only[go_sem,a27,N0];generalize l=q at hl ⊢;refine dN (λD r=> ∃(k:Nat) (m:Int),k<=q.length/\m+aMk (q.drop k)=aMk q/\0<=m/\D=[(0,.pure 2 (ai q)),(3,.int .i64 m),(4,.int .i64 k)]/\r=[])
  (λD _=>match bs D 4 with| .int _ j=>(q.length-j).toNat|_=>0) ?_ ?_
 ·exact i ⟨0,0,by omega,by simp,by omega,rfl,rfl⟩
 ·rintro D r ⟨k,m,O,hm,tz,rfl,rfl⟩;simp only[go_sem,a27,N0];refine cf ?_ ?_<;>intro dI<;>simp only[bC] at dI<;>simp only[go_sem,a27,N0]
  ·have aI:k<q.length:=by omega
   have Cm: (0:Int)<=k:=by omega
   have kL: (k:Int)<q.length:=by omega
   have eR: (ai q).getD k []=[.int .i64 q[k].R,.int .i64 q[k].ab]:=by rw[cT aI,eY]
   have so:=aQ0 (l:=q.drop (k+1));have nK:=aQ0 (l:=q);rw[aT0 aI] at hm;generalize q[k]=v at eR hm;have dn:=dB (c:=k) (by omega);simp only[go_sem,Cm,kL,eR];refine bM (aQY v.R v.ab) rfl rfl ?_;simp only[go_sem];refine cf ?_ ?_<;>intro ct<;>(try simp only[bC] at ct)<;>simp only[go_sem,a27,N0,Cm,kL,eR,dn]
   ·rw[show hR v 0 120968640=true from ct,Rc rfl] at hm;simp only[hR,aKN] at ct;have gI:IntKind.i64.wrap (v.ab-v.R)=v.ab-v.R:=bl;have ik:IntKind.i64.wrap (m+(v.ab-v.R))=m+(v.ab-v.R):=bl;rw[gI,ik];refine i ⟨⟨k+1,_,by omega,by omega,by omega,rfl,rfl⟩,?_⟩;simp only[go_sem];omega
   ·rw[show hR v 0 120968640=false from ct,S (by simp)] at hm;refine i ⟨⟨k+1,_,by omega,by omega,by omega,rfl,rfl⟩,?_⟩;simp only[go_sem];omega
  ·have yF:k=q.length:=by omega
   rw[yF,aLF,aMk] at hm;exact aKG rfl ⟨by rw[<-hm];simp,rfl⟩
theorem Ba (l:List bx)(f t:Int)(hl:l.length<=1000000000):aO prog 288 [.own 0 l.length 0 l.length,.agg [.int .i64 f,.int .i64 t]] [.ag 64 2 (ai l)]
 (λv rs=>v= .own 0 (jz l ⟨f,t⟩).length 0 (jz l ⟨f,t⟩).length/\rs=[.ag 64 2 (ai (jz l ⟨f,t⟩))]):=by
 refine cu func288 afU (by simp[Fz,Jv]) ?_;simp only[go_sem,Fz,Jv];refine cf ?_ ?_<;>intro dI<;>simp only[bC] at dI<;>simp only[go_sem,Fz,Jv]
 ·(refine E.bB [some 0] ?_;simp only[go_sem])
  exact i ⟨by rw[Ob dI];rfl,by rw[Ob dI]⟩
 rcases aNM l with rfl|⟨cb,u,rfl⟩
 ·simp only[go_sem,aLQ]
  (refine E.bB [some 0] ?_;simp only[go_sem])
  exact i ⟨by rw[Oc dI];rfl,by rw[Oc dI]⟩
 ·rw[aNN] at *;have cK: (cb++[u]).length=cb.length+1:=by simp
  rw[cK] at hl;have ay:decide ((0:Int)<((cb.length+1:Nat):Int))=true:=aLv;have xf:IntKind.i64.wrap (((cb.length+1:Nat):Int)-1)=(cb.length:Int):=by rw[bl];omega
  have ud: (0:Int)<=cb.length:=by omega
  have Te: (cb.length:Int)<((cb.length+1:Nat):Int):=by omega
  have eR: (ai (cb++[u])).getD cb.length []=[.int .i64 u.R,.int .i64 u.ab]:=by rw[cT (by omega),eY];simp
  rw[cK];simp only[go_sem,cK,ay,xf,ud,Te,eR]
  repeat' ((first|refine gv ?_ ?_|refine gw ?_ ?_|refine cf ?_ ?_|refine dj ?_ ?_)<;>intro aw<;>(have ak:=aw;try simp only[bC] at ak)<;>(first|omega| (simp only[go_sem,aw,Fz,Jv,cK,ay,xf,ud,Te,eR];clear aw)))
  ·have mc: (ai (cb++[u])).set cb.length [F.int IntKind.i64 u.R,F.int IntKind.i64 t]=ai (cb++[⟨u.R,t⟩]):=by
    rw[<-eY ⟨u.R,t⟩,xS];simp
   rw[mc]
   (refine E.bB [some 0] ?_;simp only[go_sem])
   have hj:jz (cb++[u]) ⟨f,t⟩=cb++[⟨u.R,t⟩]:=by rw[Od dI,Rc ak]
   exact i ⟨by rw[hj];simp[bs],by rw[hj]⟩
  ·refine⟨by omega,?_⟩
   (refine E.bB [some 0] ?_;simp only[go_sem])
   have hj:jz (cb++[u]) ⟨f,t⟩=cb++[u]++[⟨f,t⟩]:=by rw[Od dI,S ak]
   exact i ⟨by rw[hj];simp[bs],by rw[hj]⟩
theorem ajj (z:gK)(N:z.qh)(t:Int)(e:Bool)(h0:0<=t)(d:t<=120968640):aO prog 285 [.agg (aJ.J z),.int .i64 t,.bool e] [] (λv rs=>v= .int .i64 (um z t e)/\rs=[]):=by
 refine cu func285 afR (by simp[wO,yU]) ?_;simp only[go_sem,wO,yU,Ab];refine cf ?_ ?_<;>intro dI<;>simp only[bC] at dI<;>simp only[go_sem,wO,yU]
 ·exact aKG rfl ⟨by rw[um,Rc dI],rfl⟩
 have hm:1<=z.lw/\z.lw<=3/\1<=z.eI/\z.eI<=60:=by unfold gK.qh at N;omega
 refine⟨by omega,?_⟩;have iN:0<=t / z.eI:=Int.ediv_nonneg h0 (by omega);have mZ:t / z.eI<=t:=Int.ediv_le_self _ h0;have oY:0<=t / z.eI*z.eI:=Int.mul_nonneg iN (by omega);have jK:t / z.eI*z.eI<=t:=Int.ediv_mul_le _ (by omega);have FG:um z t e=if t / z.eI*z.eI=t then t else if (z.lw=1/\e=false)\/(z.lw=2/\e=true)\/(z.lw=3/\z.eI<=2*(t-t / z.eI*z.eI)) then t / z.eI*z.eI+z.eI else t / z.eI*z.eI:=by
  rw[um,S dI]
 rw[aMn h0,bl (x:=t / z.eI),bl (x:=t / z.eI*z.eI)];generalize t / z.eI*z.eI=low at oY jK FG ⊢;rw[FG];refine cf ?_ ?_<;>intro ct<;>simp only[bC] at ct<;>simp only[go_sem,wO,yU]
 ·exact aKG rfl ⟨by rw[Rc ct],rfl⟩
 have dn:IntKind.i64.wrap (t-low)=t-low:=bl;have gI:IntKind.i64.wrap (2*(t-low))=2*(t-low):=bl;have ik:IntKind.i64.wrap (low+z.eI)=low+z.eI:=bl;rw[S ct];obtain F4|F4|F4:z.lw=1\/z.lw=2\/z.lw=3:=by omega
 ·cases e<;>simp only[go_sem,wO,yU,F4,dn,gI,ik]
  all_goals exact aKG rfl ⟨by simp,rfl⟩
 ·cases e<;>simp only[go_sem,wO,yU,F4,dn,gI,ik]
  all_goals exact aKG rfl ⟨by simp,rfl⟩
 ·simp only[go_sem,wO,yU,F4,dn,gI,ik]
  repeat' ((first|refine gv ?_ ?_|refine gw ?_ ?_|refine cf ?_ ?_|refine dj ?_ ?_)<;>intro aw<;>(have ak:=aw;try simp only[bC] at ak)<;>(first|omega| (simp only[go_sem,aw,wO,yU,F4,dn,gI,ik];clear aw)))
  ·exact aKG rfl ⟨by rw[Rc (by omega)],rfl⟩
  ·exact aKG rfl ⟨by rw[S (by omega)],rfl⟩
theorem aGm (l:List bx)(a k:Int)(av:gz l)(ht:da l<=100000)(aC:0<=a)(uC:a<=1440)(O:0<=k)(gj:k<=1000000):aO prog 287 [.pure 2 (ai l),.int .i64 a,.int .i64 k] [] (λv rs=>v= .pure 2 (ai (rb l a k []))/\rs=[]):=by
 refine hJ func287 afT (by simp[Fy,Jw]) ?_;have aGn:=nO av;simp only[go_sem,Fy,Jw]
 repeat (refine i ?_;simp only[go_sem])
 refine hv (λD r=> ∃(c:Nat) (b:Int) (z:List bx),c<=l.length/\gz z/\da z+da (l.drop c)<=100000/\a-b+da (l.drop c)=da l/\rb l a k []=rb (l.drop c) b k z/\
  D=[(1,.int .i64 b),(2,.int .i64 k),(7,.own 0 z.length 0 z.length),(13,.pure 2 (ai l)),(14,.int .i64 l.length),(15,.int .i64 c)]/\r=[.ag 64 2 (ai z)])
  (λD _=>match bs D 15 with| .int _ j=>(l.length-j).toNat|_=>0) ?_ ?_
 ·(refine E.iv 7 64 2 rfl (E.eW [1,2,7,13,14,15] ?_);simp only[go_sem])
  exact i ⟨0,a,[],by omega,by simp[gz],by simp[da];omega,by simp,by simp,rfl,rfl⟩
 ·rintro D r ⟨c,b,z,kv,N,Jx,pv,Jy,rfl,rfl⟩;simp only[go_sem,Fy,Jw]
  (refine i ?_;simp only[go_sem])
  refine dj ?_ ?_<;>intro dI<;>simp only[bC] at dI<;>simp only[go_sem,Fy,Jw]
  ·have aI:c<l.length:=by omega
   have nT: (0:Int)<=c:=by omega
   have vB: (c:Int)<l.length:=by omega
   have eR: (ai l).getD c []=[.int .i64 l[c].R,.int .i64 l[c].ab]:=by rw[cT aI,eY]
   have an:=av _ (aLc aI);have zu:gz (l.drop (c+1)):=λx aj=>av x (aMV aj);have EN:=Jz zu;have iV:=nO N;have dn:=dB (c:=c) (by omega);rw[oF aI,rb] at Jy;rw[UD aI] at Jx pv;generalize l[c]=v at eR an Jy Jx pv;have oY:=Jz av;have gI:IntKind.i64.wrap (v.ab-v.R)=v.ab-v.R:=bl;have ik:IntKind.i64.wrap (v.R+min (max b 0) (v.ab-v.R))=v.R+min (max b 0) (v.ab-v.R):=bl;have Cr:IntKind.i64.wrap (b+k)=b+k:=bl;have aGo:IntKind.i64.wrap (v.R+min (max (b+k) 0) (v.ab-v.R))=v.R+min (max (b+k) 0) (v.ab-v.R):=bl;have aGp:IntKind.i64.wrap (b-(v.ab-v.R))=b-(v.ab-v.R):=bl;obtain⟨cH,aKU⟩:=sS (v:=⟨v.R,v.R+min (max b 0) (v.ab-v.R)⟩) N an.1 (by simp only;omega);obtain⟨ff,eJ⟩:=sS (v:=⟨v.R+min (max (b+k) 0) (v.ab-v.R),v.ab⟩) cH (by simp only;omega) an.2.2;have jS:=nO cH;simp only at aKU eJ;generalize hF:v.R+min (max b 0) (v.ab-v.R)=bm at *;generalize hG:v.R+min (max (b+k) 0) (v.ab-v.R)=iZ at *;generalize aGq:jz z ⟨v.R,bm⟩=aKO at *;generalize Rt:jz aKO ⟨iZ,v.ab⟩=cY at *
   (refine i ?_;simp only[go_sem])
   simp only[go_sem,nT,vB,eR]
   (refine i ?_;simp only[go_sem])
   simp only[go_sem,gI]
   (refine i ?_;simp only[go_sem])
   simp only[go_sem,hF,ik]
   (refine i ?_;simp only[go_sem])
   simp only[go_sem,Cr,hG,aGo]
   (refine i ?_;simp only[go_sem])
   (refine fy [0] (Ba z v.R bm (by omega)) ?_;rintro _ _ ⟨rfl,rfl⟩;simp only[go_sem])
   rw[aGq]
   (refine i ?_;simp only[go_sem])
   (refine fy [0] (Ba aKO iZ v.ab (by omega)) ?_;rintro _ _ ⟨rfl,rfl⟩;simp only[go_sem])
   rw[Rt]
   (refine i ?_;simp only[go_sem])
   rw[aGp]
   (refine i ?_;simp only[go_sem])
   rw[dn]
   (refine E.bB [some 0] ?_;simp only[go_sem])
   refine i ⟨⟨c+1,_,cY,by omega,ff,by omega,by omega,Jy,rfl,rfl⟩,?_⟩;simp only[go_sem];omega
  ·have vC:c=l.length:=by omega
   subst vC;rw[aLF,rb] at Jy
   (refine aL1 [] [0] ?_;simp only[go_sem])
   (refine i ?_;simp only[go_sem])
   (refine i ?_;simp only[go_sem])
   refine i ⟨?_,rfl⟩;rw[Jy];rfl
theorem aGr (aa:List dF)(hl:aa.length<=1024)(af:∀p∈aa,p.ey.length<=1024):aO prog 232 [.pure 3 (ai aa)] [] (λv rs=>v= .pure 2 (ai (na aa))/\rs=[]):=by
 refine hJ func232 afp (by simp[Fw,JA]) ?_;simp only[go_sem,Fw,JA]
 repeat (refine i ?_;simp only[go_sem])
 refine hv (λD r=> ∃(c:Nat) (z:List bx),c<=aa.length/\z=na (aa.take c)/\z.length<=1024*c/\
  D=[(3,.own 0 z.length 0 z.length),(6,.pure 3 (ai aa)),(7,.int .i64 aa.length),(8,.int .i64 c)]/\r=[.ag 64 2 (ai z)])
  (λD _=>match bs D 8 with| .int _ j=>(aa.length-j).toNat|_=>0) ?_ ?_
 ·(refine E.iv 3 64 2 rfl (E.eW [3,6,7,8] ?_);simp only[go_sem])
  exact i ⟨0,[],by omega,by simp[na],by simp,rfl,rfl⟩
 ·rintro D r ⟨c,z,kv,N,fA,rfl,rfl⟩;simp only[go_sem,Fw,JA]
  (refine i ?_;simp only[go_sem])
  refine dj ?_ ?_<;>intro dI<;>simp only[bC] at dI<;>simp only[go_sem,Fw,JA]
  ·have aI:c<aa.length:=by omega
   have nT: (0:Int)<=c:=by omega
   have vB: (c:Int)<aa.length:=by omega
   have eR: (ai aa).getD c []=[.int .i64 aa[c].R,.int .i64 aa[c].ab,.pure 2 (ai aa[c].ey)]:=by rw[cT aI,H3]
   have aGs:=af _ (aLc aI);have AU:na (aa.take (c+1))=z++aa[c].ey:=by rw[N,na,na,aMP,aKS aI,aNu,aMS,aMR,List.flatMap_nil,aLY]
   have dn:=dB (c:=c) (by omega);generalize aa[c]=p at eR aGs AU
   (refine i ?_;simp only[go_sem])
   simp only[go_sem,nT,vB,eR]
   (refine i ?_;simp only[go_sem])
   refine⟨by omega,?_⟩
   (refine i ?_;simp only[go_sem])
   rw[dn]
   (refine E.bB [some 0] ?_;simp only[go_sem])
   refine i ⟨⟨c+1,z++p.ey,by omega,AU.symm,by rw[aKK];omega,by rw[aKK],rfl⟩,?_⟩;simp only[go_sem];omega
  ·have vC:c=aa.length:=by omega
   subst vC;rw[aLb] at N
   (refine aL1 [] [0] ?_;simp only[go_sem])
   (refine i ?_;simp only[go_sem])
   (refine i ?_;simp only[go_sem])
   refine i ⟨?_,rfl⟩;rw[<-N];rfl
theorem JB:∀{l:List bx} {e t:Int} (n:Nat),dd e t l=true->dd e t (l.drop n)=true
 | [],_,_,n,_=>by simp[dd]
 |v::l,e,t,0,h=>h
 |v::l,e,t,n+1,h=>by
  simp only[dd,hR,aKJ,aKN] at h;exact JB n (F5 h.2 (by omega))
theorem aGt (l os:List bx)(av:gz l)(ht:da l<=100000)(bp:dd 0 120968640 os=true)(ta:os.length<=1100000):aO prog 231 [.pure 2 (ai l),.pure 2 (ai os)] [] (λv rs=>v= .pure 2 (ai (mx l os []))/\rs=[]):=by
 refine hJ func231 afo (by simp[qP,rT]) ?_;have aGn:=nO av;have zG:=xe bp;simp only[go_sem,qP,rT]
 repeat (refine i ?_;simp only[go_sem])
 refine hv (λD r=> ∃(c n:Nat) (z:List bx),c<=l.length/\n<=os.length/\gz z/\da z+da (l.drop c)<=100000/\mx l os []=mx (l.drop c) (os.drop n) z/\
  D=[(1,.pure 2 (ai os)),(5,.own 0 z.length 0 z.length),(6,.int .i64 n),(10,.pure 2 (ai l)),(11,.int .i64 l.length),(12,.int .i64 c)]/\r=[.ag 64 2 (ai z)])
  (λD _=>match bs D 12 with| .int _ j=>(l.length-j).toNat|_=>0) ?_ ?_
 ·(refine E.iv 5 64 2 rfl (E.eW [1,5,6,10,11,12] ?_);simp only[go_sem])
  exact i ⟨0,0,[],by omega,by omega,by simp[gz],by simp[da];omega,by simp,rfl,rfl⟩
 ·rintro D r ⟨c,n,z,kv,oa,N,Jx,nd,rfl,rfl⟩;simp only[go_sem,qP,rT]
  (refine i ?_;simp only[go_sem])
  refine dj ?_ ?_<;>intro dI<;>simp only[bC] at dI<;>simp only[go_sem,qP,rT]
  ·have aI:c<l.length:=by omega
   have nT: (0:Int)<=c:=by omega
   have vB: (c:Int)<l.length:=by omega
   have eR: (ai l).getD c []=[.int .i64 l[c].R,.int .i64 l[c].ab]:=by rw[cT aI,eY]
   have an:=av _ (aLc aI);have zu:gz (l.drop (c+1)):=λx aj=>av x (aMV aj);have EN:=Jz zu;have iV:=nO N;have dn:=dB (c:=c) (by omega);rw[oF aI,mx] at nd;rw[UD aI] at Jx;generalize l[c]=v at eR an nd Jx
   (refine i ?_;simp only[go_sem])
   simp only[go_sem,nT,vB,eR]
   (refine i ?_;simp only[go_sem])
   refine hv (λD r=> ∃(m:Nat),m<=os.length/\rS v.R (os.drop n)=rS v.R (os.drop m)/\
    D=[(1,.pure 2 (ai os)),(5,.own 0 z.length 0 z.length),(6,.int .i64 m),(8,.bd 1 1 0 0),(10,.pure 2 (ai l)),(11,.int .i64 l.length),(12,.int .i64 c)]/\r=[.ag 64 2 (ai z),.ag 64 2 [[.int .i64 v.R,.int .i64 v.ab]]])
    (λD _=>match bs D 6 with| .int _ j=>(os.length-j).toNat|_=>0) ?_ ?_
   ·exact i ⟨n,oa,rfl,rfl,rfl⟩
   ·rintro D r ⟨m,zh,De,rfl,rfl⟩;rcases aNa m os.length with UF|aGu
    ·have tz: (0:Int)<=m:=by omega
     have qO: (m:Int)<os.length:=by omega
     have sN:decide ((m:Int)<os.length)=true:=aLf qO;have un: (ai os).getD m []=[.int .i64 os[m].R,.int .i64 os[m].ab]:=by rw[cT UF,eY]
     have xf:=dB (c:=m) (by omega);have ajk:os.drop m=os[m]::os.drop (m+1):=oF UF;rw[oF UF,rS] at De;generalize os[m]=V at un De ajk;simp only[go_sem,qP,rT,sN,tz,qO,un]
     (refine i ?_;simp only[go_sem])
     refine dj ?_ ?_<;>intro ct<;>simp only[bC] at ct<;>simp only[go_sem,qP,rT]
     ·rw[Rc ct] at De
      (refine i ?_;simp only[go_sem])
      rw[xf];refine i ⟨⟨m+1,by omega,De,rfl,rfl⟩,?_⟩;simp only[go_sem];omega
     ·rw[S (by omega),<-ajk] at De;have UG:rS v.R (os.drop n)=os.drop m:=De;have JC:=Jt (f:=v.R) (JB n bp);rw[UG] at JC nd
      (refine i ?_;simp only[go_sem])
      (refine i ?_;simp only[go_sem])
      refine hv (λD r=> ∃(q:Nat) (f:Int) (cG:List bx),q<=os.length/\oG (os.drop m) v z=oG (os.drop q) ⟨f,v.ab⟩ cG/\gz cG/\0<=f/\f<=120968640/\(∀V∈os.drop q,f<V.ab)/\da cG+max (v.ab-f) 0+da (l.drop (c+1))<=100000/\
       D=[(1,.pure 2 (ai os)),(5,.own 0 cG.length 0 cG.length),(6,.int .i64 m),(8,.bd 1 1 0 0),(9,.int .i64 q),(10,.pure 2 (ai l)),(11,.int .i64 l.length),(12,.int .i64 c)]/\r=[.ag 64 2 (ai cG),.ag 64 2 [[.int .i64 f,.int .i64 v.ab]]])
       (λD _=>match bs D 9 with| .int _ j=>(os.length-j).toNat|_=>0) ?_ ?_
      ·exact i ⟨m,v.R,z,by omega,rfl,N,by omega,by omega,JC.2,by omega,rfl,rfl⟩
      ·rintro D r ⟨q,f,cG,Y0,fK,cq,vD,yG,iH,aGv,rfl,rfl⟩;have aGw:=nO cq;rcases aNa q os.length with vE|UH
       ·have tz: (0:Int)<=q:=by omega
        have qO: (q:Int)<os.length:=by omega
        have sN:decide ((q:Int)<os.length)=true:=aLf qO;have un: (ai os).getD q []=[.int .i64 os[q].R,.int .i64 os[q].ab]:=by rw[cT vE,eY]
        have xf:=dB (c:=q) (by omega);have UI:=zG _ (aLc vE);have Df:=JB q bp;rw[oF vE,dd,aKJ] at Df;rw[oF vE] at iH;rw[oF vE,oG] at fK;generalize os[q]=V at un fK UI Df iH;have aGx:=iH V (by simp);simp only[go_sem,qP,rT,sN,tz,qO,un]
        (refine i ?_;simp only[go_sem])
        refine dj ?_ ?_<;>intro fH<;>simp only[bC] at fH<;>simp only[go_sem,qP,rT]
        ·rw[Rc fH] at fK;obtain⟨cH,aKU⟩:=sS (v:=⟨f,V.R⟩) cq vD (by simp only;omega);simp only at aKU;have ju:=Ba cG f V.R (by omega);have jS:=nO cH;generalize jz cG ⟨f,V.R⟩=aKO at cH aKU ju fK jS
         (refine i ?_;simp only[go_sem])
         simp only[go_sem,tz,qO,un]
         (refine D4 [0] (ju) ?_;rintro _ _ ⟨rfl,rfl⟩;simp only[go_sem])
         (refine i ?_;simp only[go_sem])
         simp only[go_sem,tz,qO,un]
         (refine i ?_;simp only[go_sem])
         rw[xf]
         (refine E.bB [some 0,some 1] ?_;simp only[go_sem])
         refine i ⟨⟨q+1,V.ab,aKO,by omega,fK,cH,by omega,by omega,λx aj=>by have:=xe Df.2 x aj;omega,by omega,rfl,rfl⟩,?_⟩;simp only[go_sem];omega
        ·rw[S (show ¬V.R<v.ab by omega)] at fK;obtain⟨cH,aKU⟩:=sS (v:=⟨f,v.ab⟩) cq vD (by simp only;omega);simp only at aKU;have ju:=Ba cG f v.ab (by omega);have jS:=nO cH;generalize jz cG ⟨f,v.ab⟩=aKO at cH aKU ju fK jS;rw[fK] at nd
         (refine i ?_;simp only[go_sem])
         (refine fy [0] (ju) ?_;rintro _ _ ⟨rfl,rfl⟩;simp only[go_sem])
         (refine i ?_;simp only[go_sem])
         rw[dn]
         (refine E.bB [some 0] ?_;simp only[go_sem])
         refine i ⟨⟨c+1,m,aKO,by omega,by omega,cH,by omega,nd,rfl,rfl⟩,?_⟩;simp only[go_sem];omega
       ·have sN:decide ((q:Int)<os.length)=false:=aK7;rw[aNq UH,oG] at fK;simp only[go_sem,qP,rT,sN]
        (refine i ?_;simp only[go_sem])
        obtain⟨cH,aKU⟩:=sS (v:=⟨f,v.ab⟩) cq vD (by simp only;omega);simp only at aKU;have ju:=Ba cG f v.ab (by omega);have jS:=nO cH;generalize jz cG ⟨f,v.ab⟩=aKO at cH aKU ju fK jS;rw[fK] at nd
        (refine i ?_;simp only[go_sem])
        (refine fy [0] (ju) ?_;rintro _ _ ⟨rfl,rfl⟩;simp only[go_sem])
        (refine i ?_;simp only[go_sem])
        rw[dn]
        (refine E.bB [some 0] ?_;simp only[go_sem])
        refine i ⟨⟨c+1,m,aKO,by omega,by omega,cH,by omega,nd,rfl,rfl⟩,?_⟩;simp only[go_sem];omega
    ·have sN:decide ((m:Int)<os.length)=false:=aK7;have UG:rS v.R (os.drop n)=os.drop m:=by rw[De,aNq aGu];rfl
     simp only[go_sem,qP,rT,sN]
     (refine i ?_;simp only[go_sem])
     have JC:=Jt (f:=v.R) (JB n bp);rw[UG] at JC nd
     (refine i ?_;simp only[go_sem])
     (refine i ?_;simp only[go_sem])
     refine hv (λD r=> ∃(q:Nat) (f:Int) (cG:List bx),q<=os.length/\oG (os.drop m) v z=oG (os.drop q) ⟨f,v.ab⟩ cG/\gz cG/\0<=f/\f<=120968640/\(∀V∈os.drop q,f<V.ab)/\da cG+max (v.ab-f) 0+da (l.drop (c+1))<=100000/\
      D=[(1,.pure 2 (ai os)),(5,.own 0 cG.length 0 cG.length),(6,.int .i64 m),(8,.bd 1 1 0 0),(9,.int .i64 q),(10,.pure 2 (ai l)),(11,.int .i64 l.length),(12,.int .i64 c)]/\r=[.ag 64 2 (ai cG),.ag 64 2 [[.int .i64 f,.int .i64 v.ab]]])
      (λD _=>match bs D 9 with| .int _ j=>(os.length-j).toNat|_=>0) ?_ ?_
     ·exact i ⟨m,v.R,z,by omega,rfl,N,by omega,by omega,JC.2,by omega,rfl,rfl⟩
     ·rintro D r ⟨q,f,cG,Y0,fK,cq,vD,yG,iH,aGv,rfl,rfl⟩;have aGw:=nO cq;rcases aNa q os.length with vE|UH
      ·have tz: (0:Int)<=q:=by omega
       have qO: (q:Int)<os.length:=by omega
       have sN:decide ((q:Int)<os.length)=true:=aLf qO;have un: (ai os).getD q []=[.int .i64 os[q].R,.int .i64 os[q].ab]:=by rw[cT vE,eY]
       have xf:=dB (c:=q) (by omega);have UI:=zG _ (aLc vE);have Df:=JB q bp;rw[oF vE,dd,aKJ] at Df;rw[oF vE] at iH;rw[oF vE,oG] at fK;generalize os[q]=V at un fK UI Df iH;have aGx:=iH V (by simp);simp only[go_sem,qP,rT,sN,tz,qO,un]
       (refine i ?_;simp only[go_sem])
       refine dj ?_ ?_<;>intro fH<;>simp only[bC] at fH<;>simp only[go_sem,qP,rT]
       ·rw[Rc fH] at fK;obtain⟨cH,aKU⟩:=sS (v:=⟨f,V.R⟩) cq vD (by simp only;omega);simp only at aKU;have ju:=Ba cG f V.R (by omega);have jS:=nO cH;generalize jz cG ⟨f,V.R⟩=aKO at cH aKU ju fK jS
        (refine i ?_;simp only[go_sem])
        simp only[go_sem,tz,qO,un]
        (refine D4 [0] (ju) ?_;rintro _ _ ⟨rfl,rfl⟩;simp only[go_sem])
        (refine i ?_;simp only[go_sem])
        simp only[go_sem,tz,qO,un]
        (refine i ?_;simp only[go_sem])
        rw[xf]
        (refine E.bB [some 0,some 1] ?_;simp only[go_sem])
        refine i ⟨⟨q+1,V.ab,aKO,by omega,fK,cH,by omega,by omega,λx aj=>by have:=xe Df.2 x aj;omega,by omega,rfl,rfl⟩,?_⟩;simp only[go_sem];omega
       ·rw[S (show ¬V.R<v.ab by omega)] at fK;obtain⟨cH,aKU⟩:=sS (v:=⟨f,v.ab⟩) cq vD (by simp only;omega);simp only at aKU;have ju:=Ba cG f v.ab (by omega);have jS:=nO cH;generalize jz cG ⟨f,v.ab⟩=aKO at cH aKU ju fK jS;rw[fK] at nd
        (refine i ?_;simp only[go_sem])
        (refine fy [0] (ju) ?_;rintro _ _ ⟨rfl,rfl⟩;simp only[go_sem])
        (refine i ?_;simp only[go_sem])
        rw[dn]
        (refine E.bB [some 0] ?_;simp only[go_sem])
        refine i ⟨⟨c+1,m,aKO,by omega,by omega,cH,by omega,nd,rfl,rfl⟩,?_⟩;simp only[go_sem];omega
      ·have sN:decide ((q:Int)<os.length)=false:=aK7;rw[aNq UH,oG] at fK;simp only[go_sem,qP,rT,sN]
       (refine i ?_;simp only[go_sem])
       obtain⟨cH,aKU⟩:=sS (v:=⟨f,v.ab⟩) cq vD (by simp only;omega);simp only at aKU;have ju:=Ba cG f v.ab (by omega);have jS:=nO cH;generalize jz cG ⟨f,v.ab⟩=aKO at cH aKU ju fK jS;rw[fK] at nd
       (refine i ?_;simp only[go_sem])
       (refine fy [0] (ju) ?_;rintro _ _ ⟨rfl,rfl⟩;simp only[go_sem])
       (refine i ?_;simp only[go_sem])
       rw[dn]
       (refine E.bB [some 0] ?_;simp only[go_sem])
       refine i ⟨⟨c+1,m,aKO,by omega,by omega,cH,by omega,nd,rfl,rfl⟩,?_⟩;simp only[go_sem];omega
  ·have vC:c=l.length:=by omega
   subst vC;rw[aLF,mx] at nd
   (refine aL1 [] [0] ?_;simp only[go_sem])
   (refine i ?_;simp only[go_sem])
   (refine i ?_;simp only[go_sem])
   refine i ⟨?_,rfl⟩;rw[nd];rfl
theorem Re (z:gK):aO prog 142 [.agg (aJ.J z)] [] (λv rs=>v= .int .i64 (mq z)/\rs=[]):=by
 refine cu func142 adW (by simp[wL,yV]) ?_;simp only[go_sem,wL,yV,Ab];refine cf ?_ ?_<;>intro dI<;>simp only[bC] at dI<;>simp only[go_sem,wL,yV]
 ·exact aKG rfl ⟨by rw[mq,Rc (by omega)],rfl⟩
 have Lr:mq z=if z.qh/\lz (-1) 0 z.iA=true then 0 else 1:=by rw[mq,S (by omega)]
 have qR:¬z.qh->mq z=1:=λh=>by rw[Lr,S (λcR=>h cR.1)]
 repeat' ((first|refine gv ?_ ?_|refine gw ?_ ?_|refine cf ?_ ?_|refine dj ?_ ?_)<;>intro aw<;>(have ak:=aw;try simp only[bC] at ak)<;>(first|omega| (simp only[go_sem,aw,wL,yV];clear aw)))
 any_goals exact aKG rfl ⟨by rw[qR (by unfold gK.qh;omega)],rfl⟩
 all_goals
  have yn:z.qh:=by unfold gK.qh;omega
  have ajl:mq z=if lz (-1) 0 z.iA=true then 0 else 1:=by rw[Lr];simp[yn]
  refine dN (λD r=> ∃(c:Nat) (a m:Int),c<=z.iA.length/\lz (-1) 0 z.iA=lz a m (z.iA.drop c)/\D=[(3,.bd 0 1 0 0),(39,.pure 2 (ai z.iA)),(40,.int .i64 z.iA.length),(41,.int .i64 c)]/\r=[.ag 261 2 [[.int .i64 a,.int .i64 m]]])
   (λD _=>match bs D 41 with| .int _ j=>(z.iA.length-j).toNat|_=>0) ?_ ?_
  ·(refine E.bB [some 1] ?_;simp only[go_sem])
   exact i ⟨0,-1,0,by omega,by simp,rfl,rfl⟩
  ·rintro D r ⟨c,a,m,av,af,rfl,rfl⟩;simp only[go_sem,wL,yV];refine cf ?_ ?_<;>intro ct<;>simp only[bC] at ct<;>simp only[go_sem,wL,yV]
   ·have aI:c<z.iA.length:=by omega
    have nT: (0:Int)<=c:=by omega
    have vB: (c:Int)<z.iA.length:=by omega
    have eR: (ai z.iA).getD c []=[.int .i64 z.iA[c].after,.int .i64 z.iA[c].iP]:=by rw[cT aI,ajm]
    have aP:=dB (c:=c) (by omega);rw[oF aI,lz] at af;generalize z.iA[c]=b at eR af;simp only[go_sem,wL,yV,nT,vB,eR]
    repeat' ((first|refine gv ?_ ?_|refine gw ?_ ?_|refine cf ?_ ?_|refine dj ?_ ?_)<;>intro aw<;>(have ak:=aw;try simp only[bC] at ak)<;>(first|omega| (simp only[go_sem,aw,wL,yV,aP];clear aw)))
    any_goals (refine aKG rfl ⟨?_,rfl⟩;rw[ajl,S];rw[af];simp only[aKJ,aKN];omega)
    (refine E.bB [some 0] ?_;simp only[go_sem])
    refine i ⟨⟨c+1,b.after,b.iP,by omega,?_,rfl,rfl⟩,?_⟩
    ·rw[af,aLv,aLw]
    ·simp only[go_sem];omega
   ·have vC:c=z.iA.length:=by omega
    rw[vC,aLF,lz] at af;exact aKG rfl ⟨by rw[ajl,Rc af],rfl⟩
theorem aGy {w:List bx}(h:0<w.length):vg w=w[w.length-1].ab-w[0].R-da w:=by
 rw[vg,aPl,aKS (by omega),List.head?_eq_getElem?,aKS h];rfl
theorem aGz (dl:List lR)(w:List bx)(nK:dl.length<=16)(pP:lz (-1) 0 dl=true)(av:gz w)(ht:da w<=100000):aO prog 230 [.pure 2 (ai dl),.pure 2 (ai w)] []
 (λv rs=>v= .pure 2 (ai (if w.isEmpty then [] else pR dl (vg w) w))/\rs=[]):=by
 refine hJ func230 afn (by simp[yE,Bb]) ?_;simp only[go_sem,yE,Bb]
 repeat (refine i ?_;simp only[go_sem])
 have sF:=nO av;have FD:=Jz av;refine dj ?_ ?_<;>intro dI<;>simp only[bC] at dI<;>simp only[go_sem,yE,Bb]
 ·have:w=[]:=aNm (by omega);subst this
  (refine i ?_;simp only[go_sem])
  exact i ⟨by simp[bs],rfl⟩
 have hne:0<w.length:=by omega
 have Ut:w.isEmpty=false:=by cases w<;>simp_all
 rw[Ut];have oY: (0:Int)<=((w.length-1:Nat):Int):=by omega
 have jK: ((w.length-1:Nat):Int)<w.length:=by omega
 have ba: (0:Int)<w.length:=by omega
 have xf:IntKind.i64.wrap ((w.length:Int)-1)=((w.length-1:Nat):Int):=by rw[bl];omega
 have ajn: (ai w).getD (w.length-1) []=[.int .i64 w[w.length-1].R,.int .i64 w[w.length-1].ab]:=by rw[cT (by omega),eY]
 have wm: (ai w).getD 0 []=[.int .i64 w[0].R,.int .i64 w[0].ab]:=by rw[cT hne,eY]
 have nF:=aGy hne;have nD:=av _ (aLc (l:=w) (n:=w.length-1) (by omega));have jZ:=av _ (aLc (l:=w) (n:=0) hne);generalize w[w.length-1]=UJ at ajn nF nD;generalize w[0]=UK at wm nF jZ;have aGA:IntKind.i64.wrap (UJ.ab-UK.R)=UJ.ab-UK.R:=bl;have Is:IntKind.i64.wrap (UJ.ab-UK.R-da w)=vg w:=by rw[bl];omega
 (refine i ?_;simp only[go_sem])
 simp only[go_sem,xf,oY,jK,ajn,ba,wm,aGA];refine gG (LX w av (by omega)) rfl rfl ?_;simp only[go_sem,Is];have aKx: -1000000000<=vg w/\vg w<=1000000000:=by omega
 (refine i ?_;simp only[go_sem])
 (refine i ?_;simp only[go_sem])
 refine hv (λD r=> ∃(c:Nat) (tk a m:Int) (u:List bx),c<=dl.length/\pR dl (vg w) w=pR (dl.drop c) tk u/\gz u/\da u<=100000/\ -1000000000<=tk/\tk<=1000000000/\ -1<=a/\0<=m/\lz a m (dl.drop c)=true/\
  D=[(1,.pure 2 (ai u)),(5,.int .i64 tk),(29,.pure 2 (ai dl)),(30,.int .i64 dl.length),(31,.int .i64 c)]/\r=[])
  (λD _=>match bs D 31 with| .int _ j=>(dl.length-j).toNat|_=>0) ?_ ?_
 ·exact i ⟨0,vg w,-1,0,w,by omega,by simp,av,ht,by omega,by omega,by omega,by omega,by simpa using pP,rfl,rfl⟩
 ·rintro D r ⟨c,tk,a,m,u,kv,he,bc,By,Lz,EH,aC,hm,kX,rfl,rfl⟩;have aCx:=nO bc;have aKy:=Jz bc;simp only[go_sem,yE,Bb]
  (refine i ?_;simp only[go_sem])
  refine dj ?_ ?_<;>intro ct<;>simp only[bC] at ct<;>simp only[go_sem,yE,Bb]
  ·have aI:c<dl.length:=by omega
   have nT: (0:Int)<=c:=by omega
   have vB: (c:Int)<dl.length:=by omega
   have eR: (ai dl).getD c []=[.int .i64 dl[c].after,.int .i64 dl[c].iP]:=by rw[cT aI,ajm]
   have aP:=dB (c:=c) (by omega);rw[oF aI,lz,aKJ,aKN] at kX;rw[oF aI,pR] at he;generalize dl[c]=b at eR kX he
   (refine i ?_;simp only[go_sem])
   simp only[go_sem,nT,vB,eR]
   (refine i ?_;simp only[go_sem])
   refine bM (LX u bc (by omega)) rfl rfl ?_;simp only[go_sem]
   (refine i ?_;simp only[go_sem])
   repeat' ((first|refine gv ?_ ?_|refine gw ?_ ?_|refine cf ?_ ?_|refine dj ?_ ?_)<;>intro aw<;>(have ak:=aw;try simp only[bC] at ak)<;>(first|omega| (simp only[go_sem,aw,yE,Bb];clear aw)))
   ·rw[Rc (by omega)] at he
    (refine i ?_;simp only[go_sem])
    (refine i ?_;simp only[go_sem])
    rw[aP]
    (refine E.bB [] ?_;simp only[go_sem])
    refine i ⟨⟨c+1,tk,b.after,b.iP,u,by omega,he,bc,By,by omega,by omega,by omega,by omega,kX.2,rfl,rfl⟩,?_⟩;simp only[go_sem];omega
   ·(refine i ?_;simp only[go_sem])
    refine dj ?_ ?_<;>intro fH<;>simp only[bC] at fH<;>simp only[go_sem,yE,Bb]
    ·rw[Rc (by omega)] at he
     (refine i ?_;simp only[go_sem])
     rw[aP]
     (refine E.bB [] ?_;simp only[go_sem])
     refine i ⟨⟨c+1,tk,b.after,b.iP,u,by omega,he,bc,By,by omega,by omega,by omega,by omega,kX.2,rfl,rfl⟩,?_⟩;simp only[go_sem];omega
    ·rw[S (by omega)] at he;have Cm:0<=min (b.iP-tk) (da u-b.after):=by omega
     have kL:min (b.iP-tk) (da u-b.after)<=1000000:=by omega
     have aGB:IntKind.i64.wrap (b.iP-tk)=b.iP-tk:=bl;have aGC:IntKind.i64.wrap (da u-b.after)=da u-b.after:=bl;have aGD:IntKind.i64.wrap (tk+min (b.iP-tk) (da u-b.after))=tk+min (b.iP-tk) (da u-b.after):=bl;obtain⟨c1,c2⟩:=Sb (a:=b.after) (z:=[]) Cm bc (by simp[gz]);have lI:=aGm u b.after (min (b.iP-tk) (da u-b.after)) bc By (by omega) (by omega) Cm kL;generalize cA:min (b.iP-tk) (da u-b.after)=K at *;generalize aKz:rb u b.after K []=OF at *;simp only[da] at c2
     (refine i ?_;simp only[go_sem])
     simp only[go_sem,aGB,aGC,cA]
     (refine i ?_;simp only[go_sem])
     refine bM lI rfl rfl ?_;simp only[go_sem]
     (refine i ?_;simp only[go_sem])
     rw[aGD]
     (refine i ?_;simp only[go_sem])
     rw[aP]
     (refine E.bB [] ?_;simp only[go_sem])
     refine i ⟨⟨c+1,tk+K,b.after,b.iP,OF,by omega,he,c1,by omega,by omega,by omega,by omega,by omega,kX.2,rfl,rfl⟩,?_⟩;simp only[go_sem];omega
  ·have vC:c=dl.length:=by omega
   rw[vC,aLF,pR] at he
   (refine i ?_;simp only[go_sem])
   (refine i ?_;simp only[go_sem])
   exact i ⟨by simp[bs,he],rfl⟩
def aiX:Int->List Stamp->Int
 |b,[]=>b
 |_,I::z=>aiX I.time z
def rP (l:List Stamp)(t k:Int):Bool:=l.any λI=>decide (I.time=t)&&decide (I.cB=k)
def rQ:Int->List bx->Int
 |e,[]=>e
 |_,b::z=>rQ b.ab z
theorem Uu:∀{l:List bx} {e:Int} {b:bx},rQ e (l++[b])=b.ab
 | [],_,_=>rfl
 |x::z,_,b=>by rw[aLx,rQ,Uu]
theorem yS:∀{l:List bx} {e t tC:Int},dd e t l=true->t<=tC->dd e tC l=true
 | [],_,_,_,_,_=>rfl
 |b::z,e,t,tC,h,ht=>by
  simp only[dd,hR,aKJ,aKN] at h ⊢;exact⟨by omega,yS h.2 ht⟩
theorem Uv:∀{l:List bx} {e t:Int} {b:bx},dd e t l=true->rQ e l<=b.R->b.R<b.ab->b.ab<=t->dd e t (l++[b])=true
 | [],e,t,b,_,d,G,au=>by
  simp only[rQ] at d;simp only[aLV,dd,hR,aK0,aKN];omega
 |x::z,e,t,b,h,d,G,au=>by
  simp only[dd,aKJ] at h;simp only[aLx,dd,aKJ];exact⟨h.1,Uv h.2 d G au⟩
def lH:Int->List dF->Int
 |e,[]=>e
 |_,p::z=>lH p.ab z
theorem aiY:∀{l:List dF} {e:Int} {p:dF},lH e (l++[p])=p.ab
 | [],_,_=>rfl
 |x::z,_,p=>by rw[aLx,lH,aiY]
theorem aiZ:∀{l:List dF} {e:Int} {p:dF},io e l=true->tL (lH e l) p=true->io e (l++[p])=true
 | [],e,p,_,h=>by simp only[aLV,io,aK0];exact h
 |x::z,e,p,h,d=>by
  simp only[io,aKJ] at h;simp only[aLx,io,aKJ];exact⟨h.1,aiZ h.2 d⟩
structure Uw (aY:List Stamp) (n:Int) (p:dF):Prop where
 len:p.ab-p.R<=n
 R:rP aY p.R 1=true
 ab:rP aY p.ab 2=true
 ey:∀b∈p.ey,rP aY b.R 3=true/\(rP aY b.ab 4=true\/b.ab=p.ab)
structure Jq (aY:List Stamp) (n:Int) (k:Nat) (t:Int) (p:bN):Prop where
 aKs:p.vy=n
 bw:p.state=0\/p.state=1\/p.state=2
 t0:0<=t
 ok:io 0 p.fM=true
 rR:∀q∈p.fM,Uw aY n q
 bg:lH 0 p.fM<=t
 HS:p.fM.length+p.np.length+(if p.state=0 then 0 else 1)<=k
 fM:p.state≠0->lH 0 p.fM<=p.gu/\p.gu<=t/\0<=p.gu/\rP aY p.gu 1=true/\dd p.gu t p.ks=true/\p.ks.length<=k/\p.gu<=rQ p.gu p.ks/\rQ p.gu p.ks<=t/\ ∀b∈p.ks,rP aY b.R 3=true/\rP aY b.ab 4=true
 aKt:p.state=2->rQ p.gu p.ks<=p.lg/\p.lg<=t/\rP aY p.lg 3=true
theorem Ux {aY:List Stamp}{n:Int}{k:Nat}{t:Int}{p:bN}(O:k+1<=1024)(ps:p.vy=n)(aA:io 0 p.fM=true)(mD:∀q∈p.fM,Uw aY n q)(yT:p.fM.length+p.np.length<=k)
 (mX:lH 0 p.fM<=p.gu) (ht:p.gu<=t) (EH:t<=120968639) (h0:0<=p.gu) (aGf:rP aY p.gu 1=true) (aGg:rP aY t 2=true) (pP:dd p.gu t p.ks=true) (nK:p.ks.length<=1024)
 (aGh:∀b∈p.ks,rP aY b.R 3=true/\(rP aY b.ab 4=true\/b.ab=t)):Jq aY n (k+1) t (p.qY t):=by
 unfold bN.qY bN.ea;split
 ·exact⟨ps,.inl rfl,by omega,aA,mD,by show lH 0 p.fM<=t;omega,by simp[bN.eP];omega,λh=>(h rfl).elim,λh=>by simp at h⟩
 ·split
  ·refine⟨ps,.inl rfl,by omega,?_,?_,?_,by simp;omega,λh=>(h rfl).elim,λh=>by simp at h⟩
   ·refine aiZ aA ?_;simp only[tL,hR,aKJ,aKN];exact⟨⟨by omega,nK⟩,pP⟩
   ·intro q aV;simp only[aK3,aK2] at aV;rcases aV with aV|rfl
    ·exact mD q aV
    ·exact⟨by simp only;omega,aGf,aGg,aGh⟩
   ·show lH 0 (p.fM++[_])<=t;rw[aiY];exact aMe _
  ·exact⟨ps,.inl rfl,by omega,aA,mD,by show lH 0 p.fM<=t;omega,by simp;omega,λh=>(h rfl).elim,λh=>by simp at h⟩
theorem aGi {aY:List Stamp}{I:Stamp}(h:I∈aY):rP aY I.time I.cB=true:=by
 simp only[rP,aNp,aKJ,aKN];exact⟨I,h,rfl,rfl⟩
theorem aGj {aY:List Stamp}{n:Int}{k:Nat}{t:Int}{p:bN}(h:Jq aY n k t p)(O:k+1<=1024){I:Stamp}(ao:I∈aY)(ht:t<=I.time)(EH:I.time<=120968639)(aKu:1<=I.cB/\I.cB<=4):Jq aY n (k+1) I.time (p.ji I):=by
 have hm:=aGi ao;obtain⟨vy,state,gu,lg,ks,fM,np⟩:=p;obtain⟨ps,cn,zR,aA,mD,mX,yT,Uy,aja⟩:=h;simp only at ps cn aA mD mX yT Uy aja;unfold bN.ji;rcases cn with rfl|rfl|rfl
 ·simp only[aK5] at yT;simp only[aK5];split
  ·rename_i kL;rw[kL] at hm;exact⟨ps,.inr (.inl rfl),by omega,aA,mD,by show lH 0 fM<=I.time;omega,by simp[bN.enter];omega,
    λ_=>⟨by show lH 0 fM<=I.time;omega,aMe _,by show 0<=I.time;omega,hm,rfl,by simp[bN.enter],by simp[bN.enter,rQ],by simp[bN.enter,rQ],by simp[bN.enter]⟩,λh=>by simp[bN.enter] at h⟩
  ·exact⟨ps,.inl rfl,by omega,aA,mD,by show lH 0 fM<=I.time;omega,by simp[bN.eP];omega,λh=>(h rfl).elim,λh=>by simp[bN.eP] at h⟩
 ·obtain⟨cH,ff,a3,a4,a5,MV,Az,Au,a9⟩:=Uy (by decide);have ad:fM.length+np.length+1<=k:=by simpa using yT
  simp only[show ¬((1:Int)=0) by decide,aLi,aK5];split
  ·rename_i kL;rw[kL] at hm;exact⟨ps,.inr (.inl rfl),by omega,aA,mD,by show lH 0 fM<=I.time;omega,by simp[bN.enter,bN.eP];omega,
    λ_=>⟨by show lH 0 fM<=I.time;omega,aMe _,by show 0<=I.time;omega,hm,rfl,by simp[bN.enter],by simp[bN.enter,rQ],by simp[bN.enter,rQ],by simp[bN.enter]⟩,λh=>by simp[bN.enter,bN.eP] at h⟩
  ·split
   ·rename_i sf;rw[sf] at hm;exact Ux O ps aA mD (by simp only;omega) cH (by simp only;omega) EH a3 a4 hm (yS a5 ht) (by simp only;omega) (λb af=>⟨(a9 b af).1,.inl (a9 b af).2⟩)
   ·split
    ·rename_i wD;rw[wD] at hm;exact⟨ps,.inr (.inr rfl),by omega,aA,mD,by show lH 0 fM<=I.time;omega,by simp;omega,
      λ_=>⟨cH,by simp only;omega,a3,a4,yS a5 ht,by simp only;omega,Az,by simp only;omega,a9⟩,λ_=>⟨by simp only;omega,aMe _,hm⟩⟩
    ·exact⟨ps,.inr (.inl rfl),by omega,aA,mD,by show lH 0 fM<=I.time;omega,by simp[bN.eP];omega,
      λ_=>⟨cH,by simp only[bN.eP];omega,a3,a4,yS a5 ht,by simp only[bN.eP];omega,Az,by simp only[bN.eP];omega,a9⟩,λh=>by simp[bN.eP] at h⟩
 ·obtain⟨cH,ff,a3,a4,a5,MV,Az,Au,a9⟩:=Uy (by decide);obtain⟨aKU,eJ,lX⟩:=aja rfl;have ad:fM.length+np.length+1<=k:=by simpa using yT
  simp only[show ¬((2:Int)=0) by decide,show ¬((2:Int)=1) by decide,aLi];split
  ·rename_i kL;rw[kL] at hm;exact⟨ps,.inr (.inl rfl),by omega,aA,mD,by show lH 0 fM<=I.time;omega,by simp[bN.enter,bN.eP];omega,
    λ_=>⟨by show lH 0 fM<=I.time;omega,aMe _,by show 0<=I.time;omega,hm,rfl,by simp[bN.enter],by simp[bN.enter,rQ],by simp[bN.enter,rQ],by simp[bN.enter]⟩,λh=>by simp[bN.enter,bN.eP] at h⟩
  ·split
   ·rename_i sf;rw[sf] at hm;unfold bN.qg bN.eP;simp only;split
    ·refine Ux O ps aA mD (by simp only[aKK,aK8,aLQ];omega) cH (by simp only;omega) EH a3 a4 hm (Uv (yS a5 ht) (by simp only;omega) (by simp only;omega) (by simp only;omega)) (by simp only[aKK,aK8,aLQ];omega) (λb af=> ?_);simp only[aK3,aK2] at af;rcases af with af|rfl
     ·exact⟨(a9 b af).1,.inl (a9 b af).2⟩
     ·exact⟨lX,.inr rfl⟩
    ·exact Ux O ps aA mD (by simp only[aKK,aK8,aLQ];omega) cH (by simp only;omega) EH a3 a4 hm (yS a5 ht) (by simp only;omega) (λb af=>⟨(a9 b af).1,.inl (a9 b af).2⟩)
   ·split
    ·rename_i wD;rw[wD] at hm;exact⟨ps,.inr (.inr rfl),by omega,aA,mD,by show lH 0 fM<=I.time;omega,by simp[bN.eP];omega,
      λ_=>⟨cH,by simp only[bN.eP];omega,a3,a4,yS a5 ht,by simp only[bN.eP];omega,Az,by simp only[bN.eP];omega,a9⟩,λ_=>⟨by simp only[bN.eP];omega,aMe _,hm⟩⟩
    ·have Rz:I.cB=4:=by omega
     rw[Rz] at hm;unfold bN.qg;simp only;split
     ·refine⟨ps,.inr (.inl rfl),by omega,aA,mD,by show lH 0 fM<=I.time;omega,by simp;omega,
       λ_=>⟨cH,by simp only;omega,a3,a4,Uv (yS a5 ht) (by simp only;omega) (by simp only;omega) (by simp only;omega),by simp only[aKK,aK8,aLQ];omega,by simp only[Uu];omega,by simp only[Uu];omega,λb af=> ?_⟩,λh=>by simp at h⟩
      simp only[aK3,aK2] at af;rcases af with af|rfl
      ·exact a9 b af
      ·exact⟨lX,hm⟩
     ·exact⟨ps,.inr (.inl rfl),by omega,aA,mD,by show lH 0 fM<=I.time;omega,by simp;omega,
       λ_=>⟨cH,by simp only;omega,a3,a4,yS a5 ht,by simp only;omega,Az,by simp only;omega,a9⟩,λh=>by simp at h⟩
theorem ajb {aY:List Stamp}{n:Int}:∀{l:List Stamp} {k:Nat} {t:Int} {p:bN},Jq aY n k t p->(∀I∈l,I∈aY)->qM t l=true->k+l.length<=1024->Jq aY n (k+l.length) (aiX t l) (l.foldl bN.ji p)
 | [],_,_,_,h,_,_,_=>h
 |I::z,k,t,p,h,hL,ao,O=>by
  simp only[qM,aKJ,aKN] at ao;simp only[aK8] at O ⊢;have:=ajb (l:=z) (aGj h (by omega) (hL I (by simp)) (by omega) (by omega) ⟨by omega,by omega⟩) (λx aj=>hL x (by simp[aj])) ao.2 (by omega);rw[show k+(z.length+1)=k+1+z.length from by omega];exact this
theorem aaI {aY:List Stamp}{n:Int}(hL:qM 0 aY=true)(cK:aY.length<=1024)(aH:1<=n)(GS:n<=10080):
 lb aY n=0/\lx (nQ aY n)=0/\(∀p∈nQ aY n,Uw aY n p)/\(nQ aY n).length+(tY aY n).length<=aY.length:=by
 have ad:lb aY n=0:=by rw[lb,S (by omega),S (by omega),Rc hL]
 have h:=ajb (aY:=aY) (n:=n) (l:=aY) (k:=0) (t:=0) (p:=qZ n) ⟨rfl,.inl rfl,by omega,rfl,by simp[qZ],by simp[qZ,lH],by simp[qZ],λh=>(h rfl).elim,λh=>by simp[qZ] at h⟩ (λ_ h=>h) hL (by omega);have bF: (ra aY n).bg.fM=(ra aY n).fM:=by unfold bN.bg;split<;>rfl
 have yT:=h.HS;have iI:aY.foldl bN.ji (qZ n)=ra aY n:=rfl;rw[iI] at h yT;have bK: (ra aY n).fM.length+(ra aY n).bg.np.length<=aY.length:=by
  unfold bN.bg;split
  ·rename_i ba;rw[Rc ba] at yT;omega
  ·rename_i ba;rw[S ba] at yT;simp[bN.eP];omega
 refine⟨ad,?_,?_,?_⟩
 ·rw[nQ,Rc ad,bF,lx,S (by omega),Rc h.ok]
 ·rw[nQ,Rc ad,bF];exact h.rR
 ·rw[nQ,Rc ad,tY,Rc ad,bF];exact bK
theorem LV:∀{l:List dF} {e:Int},io e l=true->0<=e-> ∀p∈l,0<=p.R/\p.R<p.ab/\p.ab<=120968640/\p.ey.length<=1024/\dd p.R p.ab p.ey=true
 | [],_,_,_,p,ak=>by simp at ak
 |x::z,e,h,he,p,ak=>by
  simp only[io,tL,hR,aKJ,aKN] at h;rcases aKV.1 ak with rfl|ak
  ·exact⟨by omega,by omega,by omega,h.1.1.2,h.1.2⟩
  ·exact LV h.2 (by omega) p ak
theorem LU {l:List dF}(h:lx l=0):io 0 l=true:=by
 unfold lx at h;split at h
 ·omega
 ·split at h
  ·assumption
  ·omega
theorem ajo {z:gK}(N:z.qh){t:Int}(e:Bool)(h0:0<=t):0<=um z t e/\t-60<=um z t e/\um z t e<=t+60:=by
 rw[um];split
 ·omega
 ·have hm:1<=z.eI/\z.eI<=60:=by unfold gK.qh at N;omega
  have iN:0<=t / z.eI:=Int.ediv_nonneg h0 (by omega);have oY:0<=t / z.eI*z.eI:=Int.mul_nonneg iN (by omega);have jK:t / z.eI*z.eI<=t:=Int.ediv_mul_le _ (by omega);have lp:t<(t / z.eI+1)*z.eI:=Int.lt_ediv_add_one_mul_self _ (by omega);rw[Int.add_mul,Int.one_mul] at lp;split
  ·omega
  ·split<;>omega
def HM (ae:bx):Prop:=(ae.R=0/\ae.ab=0)\/hR ae 0 120968640=true
theorem Zp (z:gK)(N:z.qh)(ae:bx)(Bx:HM ae)(aa:List dF)(kk:io 0 aa=true)(gy:aa.length<=1024):aO prog 228 [.agg (aJ.J z),.agg (aJ.J ae),.pure 3 (ai aa)] []
 (λv rs=>v= .pure 2 (ai (kB z ae 0 aa))/\rs=[]):=by
 refine hJ func228 afl (by simp[a228,xg]) ?_;have hC:=LV kk (by omega);simp only[go_sem,a228,xg,Ab,eY]
 repeat (refine i ?_;simp only[go_sem])
 have UL: (!(ae.R==0&&ae.ab==0))=true↔ ¬(ae.R=0/\ae.ab=0):=by simp;omega
 generalize (!(ae.R==0&&ae.ab==0))=tj at UL ⊢;refine hv (λD r=> ∃(c:Nat) (last:Int) (bw:List bx),c<=aa.length/\kB z ae 0 aa=bw++kB z ae last (aa.drop c)/\0<=last/\last<=120968640/\bw.length<=c/\
  D=[(3,.bd 0 1 0 0),(4,.bd 1 1 0 0),(7,.own 2 bw.length 0 bw.length),(8,.bool tj),(9,.int .i64 last),(16,.pure 3 (ai aa)),(17,.int .i64 aa.length),(18,.int .i64 c)]/\
  r=[.ag 35 4 [[.int .i64 z.eI,.int .i64 z.lw,.int .i64 z.lP,.pure 2 (ai z.iA)]],.ag 64 2 [[.int .i64 ae.R,.int .i64 ae.ab]],.ag 64 2 (ai bw)])
  (λD _=>match bs D 18 with| .int _ j=>(aa.length-j).toNat|_=>0) ?_ ?_
 ·(refine E.iv 7 64 2 rfl (E.eW [3,4,7,8,9,16,17,18] ?_);simp only[go_sem])
  exact i ⟨0,0,[],by omega,by simp,by omega,by omega,by simp,rfl,rfl⟩
 ·rintro D r ⟨c,last,bw,kv,cn,oY,jK,fF,rfl,rfl⟩;simp only[go_sem,a228,xg]
  (refine i ?_;simp only[go_sem])
  refine dj ?_ ?_<;>intro dI<;>simp only[bC] at dI<;>simp only[go_sem,a228,xg]
  ·have aI:c<aa.length:=by omega
   have nT: (0:Int)<=c:=by omega
   have vB: (c:Int)<aa.length:=by omega
   have eR: (ai aa).getD c []=[.int .i64 aa[c].R,.int .i64 aa[c].ab,.pure 2 (ai aa[c].ey)]:=by rw[cT aI,H3]
   have ak:=hC _ (aLc aI);have dn:=dB (c:=c) (by omega);rw[oF aI,kB] at cn;generalize aa[c]=p at eR ak cn;obtain⟨aKH,bR,dq⟩:=ajo N (t:=p.R) false (by omega);obtain⟨gP,uN,aKA⟩:=ajo N (t:=p.ab) true (by omega);have aGE:=ajj z N p.R false (by omega) (by omega);have SV:=ajj z N p.ab true (by omega) (by omega);generalize vD:um z p.R false=AZ at *;generalize zR:um z p.ab true=t0 at *
   (refine i ?_;simp only[go_sem])
   simp only[go_sem,nT,vB,eR]
   (refine i ?_;simp only[go_sem])
   refine gG aGE rfl rfl ?_;simp only[go_sem];refine gG SV rfl rfl ?_;simp only[go_sem]
   (refine i ?_;simp only[go_sem])
   cases tj with
   |false=>
    have Dg:ae.R=0/\ae.ab=0:=by simpa using UL
    try simp only[go_sem]
    repeat (refine i ?_;try simp only[go_sem])
    have ho:mo z ae last p=⟨max AZ last,min t0 120968640⟩:=by rw[mo];simp[vD,zR,Dg]
    rw[ho] at cn;simp only at cn
    repeat (refine i ?_;try simp only[go_sem])
    refine dj ?_ ?_<;>intro ct<;>simp only[bC] at ct<;>simp only[go_sem,a228,xg]
    ·rw[Rc ct] at cn;refine⟨by omega,?_⟩
     (refine i ?_;simp only[go_sem])
     rw[dn]
     (refine E.bB [some 0,some 1,some 2] ?_;simp only[go_sem])
     refine i ⟨⟨c+1,_,bw++[⟨max AZ last,min t0 120968640⟩],by omega,by rw[cn,aKT];rfl,by omega,by omega,by simp;omega,by simp,by simp⟩,?_⟩;simp only[go_sem];omega
    ·rw[S (by omega)] at cn
     (refine i ?_;simp only[go_sem])
     rw[dn]
     (refine E.bB [some 0,some 1,some 2] ?_;simp only[go_sem])
     refine i ⟨⟨c+1,_,bw,by omega,cn,by omega,by omega,by omega,rfl,rfl⟩,?_⟩;simp only[go_sem];omega
   |true=>
    have Dg:¬(ae.R=0/\ae.ab=0):=UL.1 rfl;have aKB:0<=ae.R/\ae.R<ae.ab/\ae.ab<=120968640:=by
     rcases Bx with h|h
     ·exact absurd h Dg
     ·simpa[hR] using h
    simp only[go_sem];refine bM (aji p.R ae.R z.lP (by omega) (by omega)) rfl rfl ?_;have ajp:=aji p.ab ae.ab z.lP (by omega) (by omega)
    by_cases F6:p.R-ae.R<=z.lP/\ae.R-p.R<=z.lP
    ·rw[aLf F6];simp only[go_sem]
     repeat (refine i ?_;try simp only[go_sem])
     refine bM ajp rfl rfl ?_
     by_cases yW:p.ab-ae.ab<=z.lP/\ae.ab-p.ab<=z.lP
     ·rw[aLf yW];simp only[go_sem];have ho:mo z ae last p=⟨max ae.R last,min ae.ab 120968640⟩:=by rw[mo];simp[Dg,F6,yW]
      rw[ho] at cn;simp only at cn
      repeat (refine i ?_;try simp only[go_sem])
      refine dj ?_ ?_<;>intro ct<;>simp only[bC] at ct<;>simp only[go_sem,a228,xg]
      ·rw[Rc ct] at cn;refine⟨by omega,?_⟩
       (refine i ?_;simp only[go_sem])
       rw[dn]
       (refine E.bB [some 0,some 1,some 2] ?_;simp only[go_sem])
       refine i ⟨⟨c+1,_,bw++[⟨max ae.R last,min ae.ab 120968640⟩],by omega,by rw[cn,aKT];rfl,by omega,by omega,by simp;omega,by simp,by simp⟩,?_⟩;simp only[go_sem];omega
      ·rw[S (by omega)] at cn
       (refine i ?_;simp only[go_sem])
       rw[dn]
       (refine E.bB [some 0,some 1,some 2] ?_;simp only[go_sem])
       refine i ⟨⟨c+1,_,bw,by omega,cn,by omega,by omega,by omega,rfl,rfl⟩,?_⟩;simp only[go_sem];omega
     ·rw[aLh yW];simp only[go_sem];have ho:mo z ae last p=⟨max ae.R last,min t0 120968640⟩:=by rw[mo];simp[Dg,F6,yW,zR]
      rw[ho] at cn;simp only at cn
      repeat (refine i ?_;try simp only[go_sem])
      refine dj ?_ ?_<;>intro ct<;>simp only[bC] at ct<;>simp only[go_sem,a228,xg]
      ·rw[Rc ct] at cn;refine⟨by omega,?_⟩
       (refine i ?_;simp only[go_sem])
       rw[dn]
       (refine E.bB [some 0,some 1,some 2] ?_;simp only[go_sem])
       refine i ⟨⟨c+1,_,bw++[⟨max ae.R last,min t0 120968640⟩],by omega,by rw[cn,aKT];rfl,by omega,by omega,by simp;omega,by simp,by simp⟩,?_⟩;simp only[go_sem];omega
      ·rw[S (by omega)] at cn
       (refine i ?_;simp only[go_sem])
       rw[dn]
       (refine E.bB [some 0,some 1,some 2] ?_;simp only[go_sem])
       refine i ⟨⟨c+1,_,bw,by omega,cn,by omega,by omega,by omega,rfl,rfl⟩,?_⟩;simp only[go_sem];omega
    ·rw[aLh F6];simp only[go_sem]
     repeat (refine i ?_;try simp only[go_sem])
     refine bM ajp rfl rfl ?_
     by_cases yW:p.ab-ae.ab<=z.lP/\ae.ab-p.ab<=z.lP
     ·rw[aLf yW];simp only[go_sem];have ho:mo z ae last p=⟨max AZ last,min ae.ab 120968640⟩:=by rw[mo];simp[Dg,F6,yW,vD]
      rw[ho] at cn;simp only at cn
      repeat (refine i ?_;try simp only[go_sem])
      refine dj ?_ ?_<;>intro ct<;>simp only[bC] at ct<;>simp only[go_sem,a228,xg]
      ·rw[Rc ct] at cn;refine⟨by omega,?_⟩
       (refine i ?_;simp only[go_sem])
       rw[dn]
       (refine E.bB [some 0,some 1,some 2] ?_;simp only[go_sem])
       refine i ⟨⟨c+1,_,bw++[⟨max AZ last,min ae.ab 120968640⟩],by omega,by rw[cn,aKT];rfl,by omega,by omega,by simp;omega,by simp,by simp⟩,?_⟩;simp only[go_sem];omega
      ·rw[S (by omega)] at cn
       (refine i ?_;simp only[go_sem])
       rw[dn]
       (refine E.bB [some 0,some 1,some 2] ?_;simp only[go_sem])
       refine i ⟨⟨c+1,_,bw,by omega,cn,by omega,by omega,by omega,rfl,rfl⟩,?_⟩;simp only[go_sem];omega
     ·rw[aLh yW];simp only[go_sem];have ho:mo z ae last p=⟨max AZ last,min t0 120968640⟩:=by rw[mo];simp[Dg,F6,yW,vD,zR]
      rw[ho] at cn;simp only at cn
      repeat (refine i ?_;try simp only[go_sem])
      refine dj ?_ ?_<;>intro ct<;>simp only[bC] at ct<;>simp only[go_sem,a228,xg]
      ·rw[Rc ct] at cn;refine⟨by omega,?_⟩
       (refine i ?_;simp only[go_sem])
       rw[dn]
       (refine E.bB [some 0,some 1,some 2] ?_;simp only[go_sem])
       refine i ⟨⟨c+1,_,bw++[⟨max AZ last,min t0 120968640⟩],by omega,by rw[cn,aKT];rfl,by omega,by omega,by simp;omega,by simp,by simp⟩,?_⟩;simp only[go_sem];omega
      ·rw[S (by omega)] at cn
       (refine i ?_;simp only[go_sem])
       rw[dn]
       (refine E.bB [some 0,some 1,some 2] ?_;simp only[go_sem])
       refine i ⟨⟨c+1,_,bw,by omega,cn,by omega,by omega,by omega,rfl,rfl⟩,?_⟩;simp only[go_sem];omega
  ·have vC:c=aa.length:=by omega
   rw[vC,aLF,kB,aLY] at cn
   (refine aL1 [] [2] ?_;simp only[go_sem])
   (refine i ?_;simp only[go_sem])
   (refine i ?_;simp only[go_sem])
   refine i ⟨?_,rfl⟩;rw[cn];rfl
theorem HP {z:gK}{ae:bx}:∀{aa:List dF} {last:Int},dd last 120968640 (kB z ae last aa)=true
 | [],_=>rfl
 |p::aa,last=>by
  have ih:=HP (z:=z) (ae:=ae) (aa:=aa) (last:=max last (mo z ae last p).ab);have d:last<=(mo z ae last p).R:=by simp only[mo];omega
  have G: (mo z ae last p).ab<=120968640:=by simp only[mo];omega
  rw[kB];split
  ·rw[dd,aKJ];exact⟨by simp only[hR,aKN];omega,F5 ih (by omega)⟩
  ·exact F5 ih (by omega)
theorem yz:∀{l z:List bx} {e t aW:Int},dd e t l=true->dd t aW z=true->e<=t->t<=aW->dd e aW (l++z)=true
 | [],z,e,t,aW,_,h,he,_=>F5 h he
 |b::l,z,e,t,aW,h,G,he,hN=>by
  simp only[dd,hR,aKJ,aKN] at h;rw[aLx,dd,aKJ];exact⟨by simp only[hR,aKN];omega,yz h.2 G (by omega) hN⟩
theorem Ig:∀{aa:List dF} {e:Int},io e aa=true->dd e 120968640 (na aa)=true
 | [],_,_=>rfl
 |p::aa,e,h=>by
  simp only[io,tL,hR,aKJ,aKN] at h;have ih:=Ig h.2;show dd e 120968640 (p.ey++na aa)=true;exact yz (t:=p.ab) (F5 h.1.2 (by omega)) ih (by omega) (by omega)
theorem ajq:∀{aa:List dF},(∀p∈aa,p.ey.length<=1024)->(na aa).length<=1024*aa.length
 | [],_=>by simp[na]
 |p::aa,h=>by
  have ih:=ajq (aa:=aa) (λq aV=>h q (by simp[aV]));have ak:=h p (by simp);show (p.ey++na aa).length<=_;rw[aKK,aK8];omega
theorem LS {z:gK}(h:mq z=0):z.qh/\lz (-1) 0 z.iA=true/\z.iA.length<=16:=by
 unfold mq at h;split at h
 ·omega
 ·split at h
  ·rename_i d;exact⟨d.1,d.2,by omega⟩
  ·omega
theorem Sc {z:gK}{ae:bx}{aa:List dF}(h:qD z ae aa=0):mq z=0/\HM ae/\lx aa=0/\da (kB z ae 0 aa)<=100000:=by
 unfold qD at h;split at h
 ·omega
 ·rename_i d;split at h
  ·omega
  ·rename_i G;split at h
   ·omega
   ·rename_i au;split at h
    ·omega
    ·refine⟨by omega,?_,by omega,by omega⟩;unfold HM
     by_cases ba:ae.R=0/\ae.ab=0
     ·exact .inl ba
     ·right
      cases qE:hR ae 0 120968640
      ·exact absurd ⟨ba,qE⟩ G
      ·rfl
theorem avm (z:gK)(ae:bx)(bP ah:Int)(aa:List dF)(h:qD z ae aa=0):aO prog 156 [.agg (aJ.J z),.agg (aJ.J ae),.agg [.int .i64 bP,.int .i64 ah,.pure 3 (ai aa)]] []
 (λv rs=>v= .bo [.agg [.int .i64 ah,.pure 2 (ai (pb z ae aa))],.int .i64 0]/\rs=[]):=by
 obtain⟨d,G,au,bv⟩:=Sc h;obtain⟨yn,kX,nK⟩:=LS d;have tG:=LU au;have hC:=LV tG (by omega);have cK:aa.length<=1024:=by unfold lx at au;split at au<;>omega
 refine cu func156 Rb (by simp[EZ,HO]) ?_;simp only[go_sem,EZ,HO,Ab,eY];refine bM (Re z) rfl rfl ?_;rw[d];simp only[go_sem];have hA:=Zp z yn ae G aa tG cK;have pv:=HP (z:=z) (ae:=ae) (aa:=aa) (last:=0);have E0:=Rf pv (by omega);have LW:=nO E0;have hN:=LX _ E0 (by omega);have hp:=Ig tG;have cU:=aGr aa cK (λp ak=>(hC p ak).2.2.2.1);have aKC:=ajq (aa:=aa) (λp ak=>(hC p ak).2.2.2.1);have hW:=aGt _ _ E0 bv hp (by omega);obtain⟨fK,E8⟩:=Sd (z:=[]) hp (by omega) E0 (by simp[gz]);have dp:=aGz z.iA _ nK kX fK (by simp only[da] at E8;omega);have nH:pb z ae aa=if (mx (kB z ae 0 aa) (na aa) []).isEmpty then [] else pR z.iA (vg (mx (kB z ae 0 aa) (na aa) [])) (mx (kB z ae 0 aa) (na aa) []):=rfl
 generalize kB z ae 0 aa=bw at *;generalize na aa=Ot at *;generalize mx bw Ot []=aKD at *;have ay:decide (100000<da bw)=false:=aK7
 by_cases ba:ae.R=0/\ae.ab=0
 ·have af: (!(ae.R==0&&ae.ab==0))=false:=by simp[ba.1,ba.2]
  simp only[go_sem,af];refine bM (lQ aa (by omega)) rfl rfl ?_;rw[au];simp only[go_sem];refine bM hA rfl rfl ?_;simp only[go_sem];refine bM hN rfl rfl ?_;simp only[go_sem,ay];refine gG cU rfl rfl ?_;simp only[go_sem];refine gG hW rfl rfl ?_;simp only[go_sem];refine gG dp rfl rfl ?_;simp only[go_sem];exact aKG rfl ⟨by rw[nH],rfl⟩
 ·have af: (!(ae.R==0&&ae.ab==0))=true:=by simp;omega
  have qE:hR ⟨ae.R,ae.ab⟩ 0 120968640=true:=by rcases G with G|G;exact absurd G ba;exact G
  simp only[go_sem,af];refine bM (Zr ae.R ae.ab) rfl rfl ?_;rw[qE];simp only[go_sem];refine bM (lQ aa (by omega)) rfl rfl ?_;rw[au];simp only[go_sem];refine bM hA rfl rfl ?_;simp only[go_sem];refine bM hN rfl rfl ?_;simp only[go_sem,ay];refine gG cU rfl rfl ?_;simp only[go_sem];refine gG hW rfl rfl ?_;simp only[go_sem];refine gG dp rfl rfl ?_;simp only[go_sem];exact aKG rfl ⟨by rw[nH],rfl⟩
end Go.Proofs.YtpincjkjoeopkaaGreatDoor.Pr
