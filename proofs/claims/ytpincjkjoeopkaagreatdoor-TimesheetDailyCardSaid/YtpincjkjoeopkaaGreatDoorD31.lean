/- Presences and working time. -/
import Derived.Test.YtpincjkjoeopkaaGreatDoorD30
import Derived.Test.YtpincjkjoeopkaaGreatDoorD4
import Derived.Test.YtpincjkjoeopkaaGreatDoorD15
set_option linter.all false
namespace Go.Proofs.YtpincjkjoeopkaaGreatDoor.Pr
open Go Go.Abs
structure lR where
 after:Int
 iP:Int
def lR.cells (e:lR):List F:= [.int .i64 e.after,.int .i64 e.iP]
instance:aJ lR:=⟨lR.cells,2,fun _=>rfl,fun _=>rfl,fun _=>rfl⟩
theorem ajm (e:lR):aJ.J e= [.int .i64 e.after,.int .i64 e.iP]:=rfl
theorem aGF:aJ.U lR=2:=rfl
theorem aGG (e:lR):List.take 2 (aJ.J e)=aJ.J e:=rfl
attribute [go_sem] aGF aGG
structure gK where
 eI:Int
 lw:Int
 lP:Int
 iA:List lR
def gK.cells (p:gK):List F:= [.int .i64 p.eI,.int .i64 p.lw,.int .i64 p.lP,.pure 2 (ai p.iA)]
instance:aJ gK:=⟨gK.cells,4,fun _=>rfl,fun p=>by simp[gK.cells,bU,bJ],fun p=>by simp[gK.cells,Abs.cV]⟩
theorem Ab (p:gK):aJ.J p= [.int .i64 p.eI,.int .i64 p.lw,.int .i64 p.lP,.pure 2 (ai p.iA)]:=rfl
def da:List bx→Int
 | []=>0
 |v::z=>(v.ab-v.R)+da z
theorem UM: ∀ {l z:List bx},da (l++z)=da l+da z
 | [],z=>by simp[da]
 |v::l,z=>by rw[List.cons_append,da,da,UM];omega
def jz (l:List bx)(v:bx):List bx:=
 if v.ab≤v.R then l else match l.getLast? with
  |some u=>if u.ab=v.R then l.dropLast++ [⟨u.R,v.ab⟩] else l++ [v]
  |none=> [v]
theorem Ob {l:List bx}{v:bx}(h:v.ab≤v.R):jz l v=l:=by rw[jz,if_pos h]
theorem Oc {v:bx}(h:v.R < v.ab):jz [] v= [v]:=by rw[jz,if_neg (by omega)];rfl
theorem Od {l:List bx}{u v:bx}(h:v.R < v.ab):jz (l++ [u]) v=if u.ab=v.R then l++ [⟨u.R,v.ab⟩] else l++ [u]++ [v]:=by
 rw[jz,if_neg (by omega)];simp
def gz (l:List bx):Prop:= ∀ v∈l,0≤v.R∧v.R < v.ab∧v.ab≤120968640
theorem Og {l:List bx}{v:bx}:gz (l++ [v])↔gz l∧0≤v.R∧v.R < v.ab∧v.ab≤120968640:=by
 simp only[gz,List.mem_append,List.mem_singleton];exact⟨fun h=>⟨fun x aj=>h x (.inl aj),h v (.inr rfl)⟩,fun h x aj=>aj.elim (h.1 x) (fun e=>e▸h.2)⟩
theorem nO: ∀ {l:List bx},gz l→(l.length:Int)≤da l
 | [],_=>by simp[da]
 |v::z,h=>by
  have h1:=h v (by simp);have G:=nO (l:=z) (fun x aj=>h x (by simp[aj]));rw[da,List.length_cons];omega
theorem sS {l:List bx}{v:bx}(h:gz l)(h0:0≤v.R)(h1:v.ab≤120968640):gz (jz l v)∧da (jz l v)=da l+max (v.ab-v.R) 0:=by
 by_cases an:v.ab≤v.R
 ·rw[Ob an];exact⟨h,by omega⟩
 ·rcases List.eq_nil_or_concat l with rfl|⟨cb,u,rfl⟩
  ·rw[Oc (by omega)];exact⟨by simp only[gz,List.mem_singleton];rintro x rfl;omega,by simp only[da];omega⟩
  ·rw[List.concat_eq_append] at h ⊢;rw[Od (by omega)];rw[Og] at h;split
   ·exact⟨by rw[Og];exact⟨h.1,by simp only;omega,by simp only;omega,by simp only;omega⟩,by simp only[UM,da];omega⟩
   ·exact⟨by rw[Og,Og];exact⟨h,by omega,by omega,by omega⟩,by simp only[UM,da];omega⟩
def lz:Int→Int→List lR→Bool
 |_,_,[]=>true
 |a,m,b::z=>decide (a < b.after∧b.after≤1440∧m < b.iP∧b.iP≤1440)&&lz b.after b.iP z
def gK.qh (z:gK):Prop:=(z.lw=0∧z.eI=0∨1≤z.lw∧z.lw≤3∧1≤z.eI∧z.eI≤60)∧0≤z.lP∧z.lP≤120
instance (z:gK):Decidable z.qh:=by unfold gK.qh;infer_instance
def mq (z:gK):Int:=if 16 < z.iA.length then 3 else if z.qh∧lz (-1) 0 z.iA=true then 0 else 1
def um (z:gK)(t:Int)(e:Bool):Int:=
 if z.lw=0 then t else if t / z.eI*z.eI=t then t
 else if (z.lw=1∧e=false)∨(z.lw=2∧e=true)∨(z.lw=3∧z.eI≤2*(t-t / z.eI*z.eI)) then t / z.eI*z.eI+z.eI else t / z.eI*z.eI
def mo (z:gK)(ae:bx)(last:Int)(p:dF):bx:=
 ⟨max (if ¬(ae.R=0∧ae.ab=0)∧p.R-ae.R≤z.lP∧ae.R-p.R≤z.lP then ae.R else um z p.R false) last,
  min (if ¬(ae.R=0∧ae.ab=0)∧p.ab-ae.ab≤z.lP∧ae.ab-p.ab≤z.lP then ae.ab else um z p.ab true) 120968640⟩
def kB (z:gK)(ae:bx):Int→List dF→List bx
 |_,[]=> []
 |last,p::aa=>if (mo z ae last p).R < (mo z ae last p).ab then mo z ae last p::kB z ae (max last (mo z ae last p).ab) aa else kB z ae (max last (mo z ae last p).ab) aa
def na (aa:List dF):List bx:=aa.flatMap (·.ey)
def oG:List bx→bx→List bx→List bx
 | [],v,z=>jz z v
 |V::os,v,z=>if V.R < v.ab then oG os ⟨V.ab,v.ab⟩ (jz z ⟨v.R,V.R⟩) else jz z v
def rS (f:Int):List bx→List bx
 | []=> []
 |V::os=>if V.ab≤f then rS f os else V::os
def mx:List bx→List bx→List bx→List bx
 | [],_,z=>z
 |v::l,os,z=>mx l (rS v.R os) (oG (rS v.R os) v z)
def rb:List bx→Int→Int→List bx→List bx
 | [],_,_,z=>z
 |v::l,a,k,z=>rb l (a-(v.ab-v.R)) k (jz (jz z ⟨v.R,v.R+min (max a 0) (v.ab-v.R)⟩) ⟨v.R+min (max (a+k) 0) (v.ab-v.R),v.ab⟩)
def pR:List lR→Int→List bx→List bx
 | [],_,w=>w
 |b::dl,k,w=>if da w≤b.after∨b.iP≤k then pR dl k w else pR dl (k+min (b.iP-k) (da w-b.after)) (rb w b.after (min (b.iP-k) (da w-b.after)) [])
def vg (w:List bx):Int:=(w.getLast?.elim 0 (·.ab))-(w.head?.elim 0 (·.R))-da w
def pb (z:gK)(ae:bx)(aa:List dF):List bx:=
 let w:=mx (kB z ae 0 aa) (na aa) []
 if w.isEmpty then [] else pR z.iA (vg w) w
def qD (z:gK)(ae:bx)(aa:List dF):Int:=
 if mq z≠0 then mq z else if ¬(ae.R=0∧ae.ab=0)∧hR ae 0 120968640=false then 1 else if lx aa≠0 then lx aa else if 100000 < da (kB z ae 0 aa) then 3 else 0
theorem xe: ∀ {l:List bx} {e t:Int},dd e t l=true→ ∀ v∈l,e≤v.R∧v.R < v.ab∧v.ab≤t
 | [],_,_,_,v,h=>by simp at h
 |x::z,e,t,h,v,an=>by
  simp only[dd,hR,Bool.and_eq_true,decide_eq_true_eq] at h;rcases List.mem_cons.1 an with rfl|an
  ·exact h.1
  ·have:=xe h.2 v an;omega
theorem Rf {l:List bx}{e:Int}(h:dd e 120968640 l=true)(he:0≤e):gz l:=fun v an=>by have:=xe h v an;omega
theorem F5: ∀ {l:List bx} {e cO t:Int},dd e t l=true→cO≤e→dd cO t l=true
 | [],_,_,_,_,_=>rfl
 |b::z,e,cO,t,h,he=>by
  simp only[dd,hR,Bool.and_eq_true,decide_eq_true_eq] at h ⊢;exact⟨by omega,h.2⟩
theorem Jt: ∀ {os:List bx} {e t f:Int},dd e t os=true→dd e t (rS f os)=true∧ ∀ V∈rS f os,f < V.ab
 | [],_,_,_,_=>⟨rfl,by simp[rS]⟩
 |V::os,e,t,f,h=>by
  have cR:=h;simp only[dd,hR,Bool.and_eq_true,decide_eq_true_eq] at h;rw[rS];split
  ·obtain⟨h1,G⟩:=Jt (f:=f) h.2;exact⟨F5 h1 (by omega),G⟩
  ·refine⟨cR,fun x aj=> ?_⟩;rcases List.mem_cons.1 aj with rfl|aj
   ·omega
   ·have:=xe h.2 x aj;omega
theorem ajr: ∀ {os:List bx} {e:Int} {v:bx} {z:List bx},dd e 120968640 os=true→0≤e→(∀ V∈os,v.R < V.ab)→gz z→0≤v.R→v.ab≤120968640→gz (oG os v z)∧da (oG os v z)≤da z+max (v.ab-v.R) 0
 | [],e,v,z,_,_,_,N,h0,h1=>by
  rw[oG];obtain⟨a,b⟩:=sS N h0 h1;exact⟨a,by omega⟩
 |V::os,e,v,z,h,he,bp,N,h0,h1=>by
  simp only[dd,hR,Bool.and_eq_true,decide_eq_true_eq] at h;have up:=bp V (by simp);rw[oG];split
  ·obtain⟨a,b⟩:=sS (v:=⟨v.R,V.R⟩) N h0 (by simp only;omega);obtain⟨J,B⟩:=ajr (v:=⟨V.ab,v.ab⟩) h.2 (by omega) (fun x aj=>by have:=xe h.2 x aj;simp only;omega) a (by simp only;omega) h1;simp only at b B;exact⟨J,by omega⟩
  ·obtain⟨a,b⟩:=sS N h0 h1;exact⟨a,by omega⟩
theorem Sd: ∀ {l os z:List bx} {e:Int},dd e 120968640 os=true→0≤e→gz l→gz z→gz (mx l os z)∧da (mx l os z)≤da z+da l
 | [],os,z,e,_,_,_,N=>⟨N,by simp[mx,da]⟩
 |v::l,os,z,e,h,he,hl,N=>by
  have an:=hl v (by simp);obtain⟨h1,G⟩:=Jt (f:=v.R) h;obtain⟨a,b⟩:=ajr h1 he G N an.1 an.2.2;obtain⟨J,B⟩:=Sd (l:=l) h1 he (fun x aj=>hl x (by simp[aj])) a;rw[mx,da];exact⟨J,by omega⟩
theorem Sb: ∀ {l z:List bx} {a k:Int},0≤k→gz l→gz z→gz (rb l a k z)∧da (rb l a k z)≤da z+da l
 | [],z,a,k,_,_,N=>⟨N,by simp[rb,da]⟩
 |v::l,z,a,k,O,hl,N=>by
  have an:=hl v (by simp);obtain⟨cH,b1⟩:=sS (v:=⟨v.R,v.R+min (max a 0) (v.ab-v.R)⟩) N an.1 (by simp only;omega);obtain⟨ff,eJ⟩:=sS (v:=⟨v.R+min (max (a+k) 0) (v.ab-v.R),v.ab⟩) cH (by simp only;omega) an.2.2;obtain⟨J,B⟩:=Sb (l:=l) (a:=a-(v.ab-v.R)) O (fun x aj=>hl x (by simp[aj])) ff;rw[rb,da];simp only at b1 eJ;exact⟨J,by omega⟩
theorem Jz {l:List bx}(h:gz l):0≤da l:=by have:=nO h;omega
open Go.Proofs.Tryz
theorem Zr (f t:Int):aO prog 227 [.agg [.int .i64 f,.int .i64 t]] [] (fun v rs=>v= .bool (hR ⟨f,t⟩ 0 120968640)∧rs= []):=by
 refine cu func227 afk (by simp[IJ,Oe]) ?_;simp only[go_sem,IJ,Oe]
 repeat' ((first|refine gv ?_ ?_|refine gw ?_ ?_|refine cf ?_ ?_|refine dj ?_ ?_)<;>intro aw<;>(have ak:=aw;try simp only[bC] at ak)<;>(first|omega| (simp only[go_sem,aw,IJ,Oe];clear aw)))
 all_goals (refine E.bg rfl ⟨congrArg F.bool ?_,rfl⟩;rw[hR,Bool.eq_iff_iff];simp only[bC,Bool.false_eq_true,false_iff];omega)
theorem aji (a b I:Int)(h1:0≤a∧a≤200000000)(G:0≤b∧b≤200000000):aO prog 286 [.int .i64 a,.int .i64 b,.int .i64 I] [] (fun v rs=>v= .bool (decide (a-b≤I∧b-a≤I))∧rs= []):=by
 refine cu func286 afS (by simp[IL,Of]) ?_;have dn:IntKind.i64.wrap (a-b)=a-b:=bl (by omega) (by omega);have gI:IntKind.i64.wrap (b-a)=b-a:=bl (by omega) (by omega);simp only[go_sem,IL,Of,dn,gI]
 repeat' ((first|refine gv ?_ ?_|refine gw ?_ ?_|refine cf ?_ ?_|refine dj ?_ ?_)<;>intro aw<;>(have ak:=aw;try simp only[bC] at ak)<;>(first|omega| (simp only[go_sem,aw,IL,Of,dn,gI];clear aw)))
 all_goals (refine E.bg rfl ⟨congrArg F.bool ?_,rfl⟩;rw[Bool.eq_iff_iff];simp only[bC,Bool.false_eq_true,false_iff];omega)
theorem UD {l:List bx}{k:Nat}(h:k < l.length):da (l.drop k)=(l[k].ab-l[k].R)+da (l.drop (k+1)):=by
 rw[oF h,da]
theorem UE: ∀ {l:List bx},gz l→0≤da l∧da l≤120968640*l.length
 | [],_=>by simp[da]
 |v::z,h=>by
  have h1:=h v (by simp);have G:=UE (l:=z) (fun x aj=>h x (by simp[aj]));rw[da,List.length_cons];omega
theorem LX (l:List bx)(av:gz l)(hl:l.length≤1000000000):aO prog 229 [.pure 2 (ai l)] [] (fun v rs=>v= .int .i64 (da l)∧rs= []):=by
 refine cu func229 afm (by simp[a229,Ju]) ?_;simp only[go_sem,a229,Ju];refine dN (fun D r=> ∃ (k:Nat) (m:Int),k≤l.length∧m+da (l.drop k)=da l∧0≤m∧D= [(3,.int .i64 m),(6,.pure 2 (ai l)),(7,.int .i64 l.length),(8,.int .i64 k)]∧r= [])
  (fun D _=>match bs D 8 with| .int _ j=>(l.length-j).toNat|_=>0) ?_ ?_
 ·exact E.ac ⟨0,0,by omega,by simp,by omega,rfl,rfl⟩
 ·rintro D r ⟨k,m,O,hm,tz,rfl,rfl⟩;simp only[go_sem,a229,Ju];refine cf ?_ ?_<;>intro dI<;>simp only[bC] at dI<;>simp only[go_sem,a229,Ju]
  ·have aI:k < l.length:=by omega
   have Cm: (0:Int)≤k:=by omega
   have kL: (k:Int) < l.length:=by omega
   have eR: (ai l).getD k []= [.int .i64 l[k].R,.int .i64 l[k].ab]:=by rw[cT aI,eY]
   have an:=av _ (List.getElem_mem aI);have so:=UE (l:=l.drop (k+1)) (fun x aj=>av x (List.mem_of_mem_drop aj));have nK:=UE av;rw[UD aI] at hm;generalize l[k]=v at eR an hm;have dn:=dB (c:=k) (by omega);have gI:IntKind.i64.wrap (v.ab-v.R)=v.ab-v.R:=bl (by omega) (by omega);have ik:IntKind.i64.wrap (m+(v.ab-v.R))=m+(v.ab-v.R):=bl (by omega) (by omega);simp only[go_sem,Cm,kL,eR,gI,ik,dn]
   (refine E.bB [] ?_;simp only[go_sem])
   refine E.ac ⟨⟨k+1,_,by omega,by omega,by omega,rfl,rfl⟩,?_⟩;simp only[go_sem];omega
  ·have yF:k=l.length:=by omega
   rw[yF,List.drop_length,da] at hm;exact E.bg rfl ⟨by rw[←hm];simp,rfl⟩
theorem Ba (l:List bx)(f t:Int)(hl:l.length≤1000000000):aO prog 288 [.own 0 l.length 0 l.length,.agg [.int .i64 f,.int .i64 t]] [.ag 64 2 (ai l)]
 (fun v rs=>v= .own 0 (jz l ⟨f,t⟩).length 0 (jz l ⟨f,t⟩).length∧rs= [.ag 64 2 (ai (jz l ⟨f,t⟩))]):=by
 refine cu func288 afU (by simp[Fz,Jv]) ?_;simp only[go_sem,Fz,Jv];refine cf ?_ ?_<;>intro dI<;>simp only[bC] at dI<;>simp only[go_sem,Fz,Jv]
 ·(refine E.bB [some 0] ?_;simp only[go_sem])
  exact E.ac ⟨by rw[Ob dI];rfl,by rw[Ob dI]⟩
 rcases List.eq_nil_or_concat l with rfl|⟨cb,u,rfl⟩
 ·simp only[go_sem,List.length_nil]
  (refine E.bB [some 0] ?_;simp only[go_sem])
  exact E.ac ⟨by rw[Oc dI];rfl,by rw[Oc dI]⟩
 ·rw[List.concat_eq_append] at *;have cK: (cb++ [u]).length=cb.length+1:=by simp
  rw[cK] at hl;have ay:decide ((0:Int) < ((cb.length+1:Nat):Int))=true:=decide_eq_true (by omega);have xf:IntKind.i64.wrap (((cb.length+1:Nat):Int)-1)=(cb.length:Int):=by rw[bl (by omega) (by omega)];omega
  have ud: (0:Int)≤cb.length:=by omega
  have Te: (cb.length:Int) < ((cb.length+1:Nat):Int):=by omega
  have eR: (ai (cb++ [u])).getD cb.length []= [.int .i64 u.R,.int .i64 u.ab]:=by rw[cT (by omega),eY];simp
  rw[cK];simp only[go_sem,cK,ay,xf,ud,Te,eR]
  repeat' ((first|refine gv ?_ ?_|refine gw ?_ ?_|refine cf ?_ ?_|refine dj ?_ ?_)<;>intro aw<;>(have ak:=aw;try simp only[bC] at ak)<;>(first|omega| (simp only[go_sem,aw,Fz,Jv,cK,ay,xf,ud,Te,eR];clear aw)))
  ·have mc: (ai (cb++ [u])).set cb.length [F.int IntKind.i64 u.R,F.int IntKind.i64 t]=ai (cb++ [⟨u.R,t⟩]):=by
    rw[←eY ⟨u.R,t⟩,xS];simp
   rw[mc]
   (refine E.bB [some 0] ?_;simp only[go_sem])
   have aX:jz (cb++ [u]) ⟨f,t⟩=cb++ [⟨u.R,t⟩]:=by rw[Od dI,if_pos ak]
   exact E.ac ⟨by rw[aX];simp[bs],by rw[aX]⟩
  ·refine⟨by omega,?_⟩
   (refine E.bB [some 0] ?_;simp only[go_sem])
   have aX:jz (cb++ [u]) ⟨f,t⟩=cb++ [u]++ [⟨f,t⟩]:=by rw[Od dI,if_neg ak]
   exact E.ac ⟨by rw[aX];simp[bs],by rw[aX]⟩
theorem ajj (z:gK)(N:z.qh)(t:Int)(e:Bool)(h0:0≤t)(h1:t≤120968640):aO prog 285 [.agg (aJ.J z),.int .i64 t,.bool e] [] (fun v rs=>v= .int .i64 (um z t e)∧rs= []):=by
 refine cu func285 afR (by simp[wO,yU]) ?_;simp only[go_sem,wO,yU,Ab];refine cf ?_ ?_<;>intro dI<;>simp only[bC] at dI<;>simp only[go_sem,wO,yU]
 ·exact E.bg rfl ⟨by rw[um,if_pos dI],rfl⟩
 have hm:1≤z.lw∧z.lw≤3∧1≤z.eI∧z.eI≤60:=by unfold gK.qh at N;omega
 refine⟨by omega,?_⟩;have iN:0≤t / z.eI:=Int.ediv_nonneg h0 (by omega);have mZ:t / z.eI≤t:=Int.ediv_le_self _ h0;have oY:0≤t / z.eI*z.eI:=Int.mul_nonneg iN (by omega);have jK:t / z.eI*z.eI≤t:=Int.ediv_mul_le _ (by omega);have FG:um z t e=if t / z.eI*z.eI=t then t else if (z.lw=1∧e=false)∨(z.lw=2∧e=true)∨(z.lw=3∧z.eI≤2*(t-t / z.eI*z.eI)) then t / z.eI*z.eI+z.eI else t / z.eI*z.eI:=by
  rw[um,if_neg dI]
 rw[Int.tdiv_eq_ediv_of_nonneg h0,bl (x:=t / z.eI) (by omega) (by omega),bl (x:=t / z.eI*z.eI) (by omega) (by omega)];generalize t / z.eI*z.eI=low at oY jK FG ⊢;rw[FG];refine cf ?_ ?_<;>intro ct<;>simp only[bC] at ct<;>simp only[go_sem,wO,yU]
 ·exact E.bg rfl ⟨by rw[if_pos ct],rfl⟩
 have dn:IntKind.i64.wrap (t-low)=t-low:=bl (by omega) (by omega);have gI:IntKind.i64.wrap (2*(t-low))=2*(t-low):=bl (by omega) (by omega);have ik:IntKind.i64.wrap (low+z.eI)=low+z.eI:=bl (by omega) (by omega);rw[if_neg ct];obtain F4|F4|F4:z.lw=1∨z.lw=2∨z.lw=3:=by omega
 ·cases e<;>simp only[go_sem,wO,yU,F4,dn,gI,ik]
  all_goals exact E.bg rfl ⟨by simp,rfl⟩
 ·cases e<;>simp only[go_sem,wO,yU,F4,dn,gI,ik]
  all_goals exact E.bg rfl ⟨by simp,rfl⟩
 ·simp only[go_sem,wO,yU,F4,dn,gI,ik]
  repeat' ((first|refine gv ?_ ?_|refine gw ?_ ?_|refine cf ?_ ?_|refine dj ?_ ?_)<;>intro aw<;>(have ak:=aw;try simp only[bC] at ak)<;>(first|omega| (simp only[go_sem,aw,wO,yU,F4,dn,gI,ik];clear aw)))
  ·exact E.bg rfl ⟨by rw[if_pos (by omega)],rfl⟩
  ·exact E.bg rfl ⟨by rw[if_neg (by omega)],rfl⟩
theorem aGm (l:List bx)(a k:Int)(av:gz l)(ht:da l≤100000)(aC:0≤a)(uC:a≤1440)(O:0≤k)(gj:k≤1000000):aO prog 287 [.pure 2 (ai l),.int .i64 a,.int .i64 k] [] (fun v rs=>v= .pure 2 (ai (rb l a k []))∧rs= []):=by
 refine hJ func287 afT (by simp[Fy,Jw]) ?_;have aGn:=nO av;simp only[go_sem,Fy,Jw]
 repeat (refine E.ac ?_;simp only[go_sem])
 refine hv (fun D r=> ∃ (c:Nat) (b:Int) (z:List bx),c≤l.length∧gz z∧da z+da (l.drop c)≤100000∧a-b+da (l.drop c)=da l∧rb l a k []=rb (l.drop c) b k z∧
  D= [(1,.int .i64 b),(2,.int .i64 k),(7,.own 0 z.length 0 z.length),(13,.pure 2 (ai l)),(14,.int .i64 l.length),(15,.int .i64 c)]∧r= [.ag 64 2 (ai z)])
  (fun D _=>match bs D 15 with| .int _ j=>(l.length-j).toNat|_=>0) ?_ ?_
 ·(refine E.iv 7 64 2 rfl (E.eW [1,2,7,13,14,15] ?_);simp only[go_sem])
  exact E.ac ⟨0,a,[],by omega,by simp[gz],by simp[da];omega,by simp,by simp,rfl,rfl⟩
 ·rintro D r ⟨c,b,z,kv,N,Jx,pv,Jy,rfl,rfl⟩;simp only[go_sem,Fy,Jw]
  (refine E.ac ?_;simp only[go_sem])
  refine dj ?_ ?_<;>intro dI<;>simp only[bC] at dI<;>simp only[go_sem,Fy,Jw]
  ·have aI:c < l.length:=by omega
   have nT: (0:Int)≤c:=by omega
   have vB: (c:Int) < l.length:=by omega
   have eR: (ai l).getD c []= [.int .i64 l[c].R,.int .i64 l[c].ab]:=by rw[cT aI,eY]
   have an:=av _ (List.getElem_mem aI);have zu:gz (l.drop (c+1)):=fun x aj=>av x (List.mem_of_mem_drop aj);have EN:=Jz zu;have iV:=nO N;have dn:=dB (c:=c) (by omega);rw[oF aI,rb] at Jy;rw[UD aI] at Jx pv;generalize l[c]=v at eR an Jy Jx pv;have oY:=Jz av;have gI:IntKind.i64.wrap (v.ab-v.R)=v.ab-v.R:=bl (by omega) (by omega);have ik:IntKind.i64.wrap (v.R+min (max b 0) (v.ab-v.R))=v.R+min (max b 0) (v.ab-v.R):=bl (by omega) (by omega);have Cr:IntKind.i64.wrap (b+k)=b+k:=bl (by omega) (by omega);have aGo:IntKind.i64.wrap (v.R+min (max (b+k) 0) (v.ab-v.R))=v.R+min (max (b+k) 0) (v.ab-v.R):=bl (by omega) (by omega);have aGp:IntKind.i64.wrap (b-(v.ab-v.R))=b-(v.ab-v.R):=bl (by omega) (by omega);obtain⟨cH,b1⟩:=sS (v:=⟨v.R,v.R+min (max b 0) (v.ab-v.R)⟩) N an.1 (by simp only;omega);obtain⟨ff,eJ⟩:=sS (v:=⟨v.R+min (max (b+k) 0) (v.ab-v.R),v.ab⟩) cH (by simp only;omega) an.2.2;have jS:=nO cH;simp only at b1 eJ;generalize hF:v.R+min (max b 0) (v.ab-v.R)=bm at *;generalize hG:v.R+min (max (b+k) 0) (v.ab-v.R)=iZ at *;generalize aGq:jz z ⟨v.R,bm⟩=r1 at *;generalize Rt:jz r1 ⟨iZ,v.ab⟩=cY at *
   (refine E.ac ?_;simp only[go_sem])
   simp only[go_sem,nT,vB,eR]
   (refine E.ac ?_;simp only[go_sem])
   simp only[go_sem,gI]
   (refine E.ac ?_;simp only[go_sem])
   simp only[go_sem,hF,ik]
   (refine E.ac ?_;simp only[go_sem])
   simp only[go_sem,Cr,hG,aGo]
   (refine E.ac ?_;simp only[go_sem])
   (refine fy [0] (Ba z v.R bm (by omega)) ?_;rintro _ _ ⟨rfl,rfl⟩;simp only[go_sem])
   rw[aGq]
   (refine E.ac ?_;simp only[go_sem])
   (refine fy [0] (Ba r1 iZ v.ab (by omega)) ?_;rintro _ _ ⟨rfl,rfl⟩;simp only[go_sem])
   rw[Rt]
   (refine E.ac ?_;simp only[go_sem])
   rw[aGp]
   (refine E.ac ?_;simp only[go_sem])
   rw[dn]
   (refine E.bB [some 0] ?_;simp only[go_sem])
   refine E.ac ⟨⟨c+1,_,cY,by omega,ff,by omega,by omega,Jy,rfl,rfl⟩,?_⟩;simp only[go_sem];omega
  ·have vC:c=l.length:=by omega
   subst vC;rw[List.drop_length,rb] at Jy
   (refine E.kK [] [0] ?_;simp only[go_sem])
   (refine E.ac ?_;simp only[go_sem])
   (refine E.ac ?_;simp only[go_sem])
   refine E.ac ⟨?_,rfl⟩;rw[Jy];rfl
theorem aGr (aa:List dF)(hl:aa.length≤1024)(hb: ∀ p∈aa,p.ey.length≤1024):aO prog 232 [.pure 3 (ai aa)] [] (fun v rs=>v= .pure 2 (ai (na aa))∧rs= []):=by
 refine hJ func232 afp (by simp[Fw,JA]) ?_;simp only[go_sem,Fw,JA]
 repeat (refine E.ac ?_;simp only[go_sem])
 refine hv (fun D r=> ∃ (c:Nat) (z:List bx),c≤aa.length∧z=na (aa.take c)∧z.length≤1024*c∧
  D= [(3,.own 0 z.length 0 z.length),(6,.pure 3 (ai aa)),(7,.int .i64 aa.length),(8,.int .i64 c)]∧r= [.ag 64 2 (ai z)])
  (fun D _=>match bs D 8 with| .int _ j=>(aa.length-j).toNat|_=>0) ?_ ?_
 ·(refine E.iv 3 64 2 rfl (E.eW [3,6,7,8] ?_);simp only[go_sem])
  exact E.ac ⟨0,[],by omega,by simp[na],by simp,rfl,rfl⟩
 ·rintro D r ⟨c,z,kv,N,fA,rfl,rfl⟩;simp only[go_sem,Fw,JA]
  (refine E.ac ?_;simp only[go_sem])
  refine dj ?_ ?_<;>intro dI<;>simp only[bC] at dI<;>simp only[go_sem,Fw,JA]
  ·have aI:c < aa.length:=by omega
   have nT: (0:Int)≤c:=by omega
   have vB: (c:Int) < aa.length:=by omega
   have eR: (ai aa).getD c []= [.int .i64 aa[c].R,.int .i64 aa[c].ab,.pure 2 (ai aa[c].ey)]:=by rw[cT aI,H3]
   have aGs:=hb _ (List.getElem_mem aI);have AU:na (aa.take (c+1))=z++aa[c].ey:=by rw[N,na,na,List.take_add_one,List.getElem?_eq_getElem aI,Option.toList_some,List.flatMap_append,List.flatMap_cons,List.flatMap_nil,List.append_nil]
   have dn:=dB (c:=c) (by omega);generalize aa[c]=p at eR aGs AU
   (refine E.ac ?_;simp only[go_sem])
   simp only[go_sem,nT,vB,eR]
   (refine E.ac ?_;simp only[go_sem])
   refine⟨by omega,?_⟩
   (refine E.ac ?_;simp only[go_sem])
   rw[dn]
   (refine E.bB [some 0] ?_;simp only[go_sem])
   refine E.ac ⟨⟨c+1,z++p.ey,by omega,AU.symm,by rw[List.length_append];omega,by rw[List.length_append],rfl⟩,?_⟩;simp only[go_sem];omega
  ·have vC:c=aa.length:=by omega
   subst vC;rw[List.take_length] at N
   (refine E.kK [] [0] ?_;simp only[go_sem])
   (refine E.ac ?_;simp only[go_sem])
   (refine E.ac ?_;simp only[go_sem])
   refine E.ac ⟨?_,rfl⟩;rw[←N];rfl
theorem JB: ∀ {l:List bx} {e t:Int} (n:Nat),dd e t l=true→dd e t (l.drop n)=true
 | [],_,_,n,_=>by simp[dd]
 |v::l,e,t,0,h=>h
 |v::l,e,t,n+1,h=>by
  simp only[dd,hR,Bool.and_eq_true,decide_eq_true_eq] at h;exact JB n (F5 h.2 (by omega))
theorem aGt (l os:List bx)(av:gz l)(ht:da l≤100000)(bp:dd 0 120968640 os=true)(ta:os.length≤1100000):aO prog 231 [.pure 2 (ai l),.pure 2 (ai os)] [] (fun v rs=>v= .pure 2 (ai (mx l os []))∧rs= []):=by
 refine hJ func231 afo (by simp[qP,rT]) ?_;have aGn:=nO av;have zG:=xe bp;simp only[go_sem,qP,rT]
 repeat (refine E.ac ?_;simp only[go_sem])
 refine hv (fun D r=> ∃ (c n:Nat) (z:List bx),c≤l.length∧n≤os.length∧gz z∧da z+da (l.drop c)≤100000∧mx l os []=mx (l.drop c) (os.drop n) z∧
  D= [(1,.pure 2 (ai os)),(5,.own 0 z.length 0 z.length),(6,.int .i64 n),(10,.pure 2 (ai l)),(11,.int .i64 l.length),(12,.int .i64 c)]∧r= [.ag 64 2 (ai z)])
  (fun D _=>match bs D 12 with| .int _ j=>(l.length-j).toNat|_=>0) ?_ ?_
 ·(refine E.iv 5 64 2 rfl (E.eW [1,5,6,10,11,12] ?_);simp only[go_sem])
  exact E.ac ⟨0,0,[],by omega,by omega,by simp[gz],by simp[da];omega,by simp,rfl,rfl⟩
 ·rintro D r ⟨c,n,z,kv,oa,N,Jx,nd,rfl,rfl⟩;simp only[go_sem,qP,rT]
  (refine E.ac ?_;simp only[go_sem])
  refine dj ?_ ?_<;>intro dI<;>simp only[bC] at dI<;>simp only[go_sem,qP,rT]
  ·have aI:c < l.length:=by omega
   have nT: (0:Int)≤c:=by omega
   have vB: (c:Int) < l.length:=by omega
   have eR: (ai l).getD c []= [.int .i64 l[c].R,.int .i64 l[c].ab]:=by rw[cT aI,eY]
   have an:=av _ (List.getElem_mem aI);have zu:gz (l.drop (c+1)):=fun x aj=>av x (List.mem_of_mem_drop aj);have EN:=Jz zu;have iV:=nO N;have dn:=dB (c:=c) (by omega);rw[oF aI,mx] at nd;rw[UD aI] at Jx;generalize l[c]=v at eR an nd Jx
   (refine E.ac ?_;simp only[go_sem])
   simp only[go_sem,nT,vB,eR]
   (refine E.ac ?_;simp only[go_sem])
   refine hv (fun D r=> ∃ (m:Nat),m≤os.length∧rS v.R (os.drop n)=rS v.R (os.drop m)∧
    D= [(1,.pure 2 (ai os)),(5,.own 0 z.length 0 z.length),(6,.int .i64 m),(8,.bd 1 1 0 0),(10,.pure 2 (ai l)),(11,.int .i64 l.length),(12,.int .i64 c)]∧r= [.ag 64 2 (ai z),.ag 64 2 [[.int .i64 v.R,.int .i64 v.ab]]])
    (fun D _=>match bs D 6 with| .int _ j=>(os.length-j).toNat|_=>0) ?_ ?_
   ·exact E.ac ⟨n,oa,rfl,rfl,rfl⟩
   ·rintro D r ⟨m,zh,De,rfl,rfl⟩;rcases Nat.lt_or_ge m os.length with UF|aGu
    ·have tz: (0:Int)≤m:=by omega
     have qO: (m:Int) < os.length:=by omega
     have sN:decide ((m:Int) < os.length)=true:=decide_eq_true qO;have un: (ai os).getD m []= [.int .i64 os[m].R,.int .i64 os[m].ab]:=by rw[cT UF,eY]
     have xf:=dB (c:=m) (by omega);have ajk:os.drop m=os[m]::os.drop (m+1):=oF UF;rw[oF UF,rS] at De;generalize os[m]=V at un De ajk;simp only[go_sem,qP,rT,sN,tz,qO,un]
     (refine E.ac ?_;simp only[go_sem])
     refine dj ?_ ?_<;>intro ct<;>simp only[bC] at ct<;>simp only[go_sem,qP,rT]
     ·rw[if_pos ct] at De
      (refine E.ac ?_;simp only[go_sem])
      rw[xf];refine E.ac ⟨⟨m+1,by omega,De,rfl,rfl⟩,?_⟩;simp only[go_sem];omega
     ·rw[if_neg (by omega),←ajk] at De;have UG:rS v.R (os.drop n)=os.drop m:=De;have JC:=Jt (f:=v.R) (JB n bp);rw[UG] at JC nd
      (refine E.ac ?_;simp only[go_sem])
      (refine E.ac ?_;simp only[go_sem])
      refine hv (fun D r=> ∃ (q:Nat) (f:Int) (cG:List bx),q≤os.length∧oG (os.drop m) v z=oG (os.drop q) ⟨f,v.ab⟩ cG∧gz cG∧0≤f∧f≤120968640∧(∀ V∈os.drop q,f < V.ab)∧da cG+max (v.ab-f) 0+da (l.drop (c+1))≤100000∧
       D= [(1,.pure 2 (ai os)),(5,.own 0 cG.length 0 cG.length),(6,.int .i64 m),(8,.bd 1 1 0 0),(9,.int .i64 q),(10,.pure 2 (ai l)),(11,.int .i64 l.length),(12,.int .i64 c)]∧r= [.ag 64 2 (ai cG),.ag 64 2 [[.int .i64 f,.int .i64 v.ab]]])
       (fun D _=>match bs D 9 with| .int _ j=>(os.length-j).toNat|_=>0) ?_ ?_
      ·exact E.ac ⟨m,v.R,z,by omega,rfl,N,by omega,by omega,JC.2,by omega,rfl,rfl⟩
      ·rintro D r ⟨q,f,cG,Y0,fK,cq,vD,yG,iH,aGv,rfl,rfl⟩;have aGw:=nO cq;rcases Nat.lt_or_ge q os.length with vE|UH
       ·have tz: (0:Int)≤q:=by omega
        have qO: (q:Int) < os.length:=by omega
        have sN:decide ((q:Int) < os.length)=true:=decide_eq_true qO;have un: (ai os).getD q []= [.int .i64 os[q].R,.int .i64 os[q].ab]:=by rw[cT vE,eY]
        have xf:=dB (c:=q) (by omega);have UI:=zG _ (List.getElem_mem vE);have Df:=JB q bp;rw[oF vE,dd,Bool.and_eq_true] at Df;rw[oF vE] at iH;rw[oF vE,oG] at fK;generalize os[q]=V at un fK UI Df iH;have aGx:=iH V (by simp);simp only[go_sem,qP,rT,sN,tz,qO,un]
        (refine E.ac ?_;simp only[go_sem])
        refine dj ?_ ?_<;>intro fH<;>simp only[bC] at fH<;>simp only[go_sem,qP,rT]
        ·rw[if_pos fH] at fK;obtain⟨cH,b1⟩:=sS (v:=⟨f,V.R⟩) cq vD (by simp only;omega);simp only at b1;have ju:=Ba cG f V.R (by omega);have jS:=nO cH;generalize jz cG ⟨f,V.R⟩=r1 at cH b1 ju fK jS
         (refine E.ac ?_;simp only[go_sem])
         simp only[go_sem,tz,qO,un]
         (refine D4 [0] (ju) ?_;rintro _ _ ⟨rfl,rfl⟩;simp only[go_sem])
         (refine E.ac ?_;simp only[go_sem])
         simp only[go_sem,tz,qO,un]
         (refine E.ac ?_;simp only[go_sem])
         rw[xf]
         (refine E.bB [some 0,some 1] ?_;simp only[go_sem])
         refine E.ac ⟨⟨q+1,V.ab,r1,by omega,fK,cH,by omega,by omega,fun x aj=>by have:=xe Df.2 x aj;omega,by omega,rfl,rfl⟩,?_⟩;simp only[go_sem];omega
        ·rw[if_neg (show ¬V.R < v.ab by omega)] at fK;obtain⟨cH,b1⟩:=sS (v:=⟨f,v.ab⟩) cq vD (by simp only;omega);simp only at b1;have ju:=Ba cG f v.ab (by omega);have jS:=nO cH;generalize jz cG ⟨f,v.ab⟩=r1 at cH b1 ju fK jS;rw[fK] at nd
         (refine E.ac ?_;simp only[go_sem])
         (refine fy [0] (ju) ?_;rintro _ _ ⟨rfl,rfl⟩;simp only[go_sem])
         (refine E.ac ?_;simp only[go_sem])
         rw[dn]
         (refine E.bB [some 0] ?_;simp only[go_sem])
         refine E.ac ⟨⟨c+1,m,r1,by omega,by omega,cH,by omega,nd,rfl,rfl⟩,?_⟩;simp only[go_sem];omega
       ·have sN:decide ((q:Int) < os.length)=false:=decide_eq_false (by omega);rw[List.drop_of_length_le UH,oG] at fK;simp only[go_sem,qP,rT,sN]
        (refine E.ac ?_;simp only[go_sem])
        obtain⟨cH,b1⟩:=sS (v:=⟨f,v.ab⟩) cq vD (by simp only;omega);simp only at b1;have ju:=Ba cG f v.ab (by omega);have jS:=nO cH;generalize jz cG ⟨f,v.ab⟩=r1 at cH b1 ju fK jS;rw[fK] at nd
        (refine E.ac ?_;simp only[go_sem])
        (refine fy [0] (ju) ?_;rintro _ _ ⟨rfl,rfl⟩;simp only[go_sem])
        (refine E.ac ?_;simp only[go_sem])
        rw[dn]
        (refine E.bB [some 0] ?_;simp only[go_sem])
        refine E.ac ⟨⟨c+1,m,r1,by omega,by omega,cH,by omega,nd,rfl,rfl⟩,?_⟩;simp only[go_sem];omega
    ·have sN:decide ((m:Int) < os.length)=false:=decide_eq_false (by omega);have UG:rS v.R (os.drop n)=os.drop m:=by rw[De,List.drop_of_length_le aGu];rfl
     simp only[go_sem,qP,rT,sN]
     (refine E.ac ?_;simp only[go_sem])
     have JC:=Jt (f:=v.R) (JB n bp);rw[UG] at JC nd
     (refine E.ac ?_;simp only[go_sem])
     (refine E.ac ?_;simp only[go_sem])
     refine hv (fun D r=> ∃ (q:Nat) (f:Int) (cG:List bx),q≤os.length∧oG (os.drop m) v z=oG (os.drop q) ⟨f,v.ab⟩ cG∧gz cG∧0≤f∧f≤120968640∧(∀ V∈os.drop q,f < V.ab)∧da cG+max (v.ab-f) 0+da (l.drop (c+1))≤100000∧
      D= [(1,.pure 2 (ai os)),(5,.own 0 cG.length 0 cG.length),(6,.int .i64 m),(8,.bd 1 1 0 0),(9,.int .i64 q),(10,.pure 2 (ai l)),(11,.int .i64 l.length),(12,.int .i64 c)]∧r= [.ag 64 2 (ai cG),.ag 64 2 [[.int .i64 f,.int .i64 v.ab]]])
      (fun D _=>match bs D 9 with| .int _ j=>(os.length-j).toNat|_=>0) ?_ ?_
     ·exact E.ac ⟨m,v.R,z,by omega,rfl,N,by omega,by omega,JC.2,by omega,rfl,rfl⟩
     ·rintro D r ⟨q,f,cG,Y0,fK,cq,vD,yG,iH,aGv,rfl,rfl⟩;have aGw:=nO cq;rcases Nat.lt_or_ge q os.length with vE|UH
      ·have tz: (0:Int)≤q:=by omega
       have qO: (q:Int) < os.length:=by omega
       have sN:decide ((q:Int) < os.length)=true:=decide_eq_true qO;have un: (ai os).getD q []= [.int .i64 os[q].R,.int .i64 os[q].ab]:=by rw[cT vE,eY]
       have xf:=dB (c:=q) (by omega);have UI:=zG _ (List.getElem_mem vE);have Df:=JB q bp;rw[oF vE,dd,Bool.and_eq_true] at Df;rw[oF vE] at iH;rw[oF vE,oG] at fK;generalize os[q]=V at un fK UI Df iH;have aGx:=iH V (by simp);simp only[go_sem,qP,rT,sN,tz,qO,un]
       (refine E.ac ?_;simp only[go_sem])
       refine dj ?_ ?_<;>intro fH<;>simp only[bC] at fH<;>simp only[go_sem,qP,rT]
       ·rw[if_pos fH] at fK;obtain⟨cH,b1⟩:=sS (v:=⟨f,V.R⟩) cq vD (by simp only;omega);simp only at b1;have ju:=Ba cG f V.R (by omega);have jS:=nO cH;generalize jz cG ⟨f,V.R⟩=r1 at cH b1 ju fK jS
        (refine E.ac ?_;simp only[go_sem])
        simp only[go_sem,tz,qO,un]
        (refine D4 [0] (ju) ?_;rintro _ _ ⟨rfl,rfl⟩;simp only[go_sem])
        (refine E.ac ?_;simp only[go_sem])
        simp only[go_sem,tz,qO,un]
        (refine E.ac ?_;simp only[go_sem])
        rw[xf]
        (refine E.bB [some 0,some 1] ?_;simp only[go_sem])
        refine E.ac ⟨⟨q+1,V.ab,r1,by omega,fK,cH,by omega,by omega,fun x aj=>by have:=xe Df.2 x aj;omega,by omega,rfl,rfl⟩,?_⟩;simp only[go_sem];omega
       ·rw[if_neg (show ¬V.R < v.ab by omega)] at fK;obtain⟨cH,b1⟩:=sS (v:=⟨f,v.ab⟩) cq vD (by simp only;omega);simp only at b1;have ju:=Ba cG f v.ab (by omega);have jS:=nO cH;generalize jz cG ⟨f,v.ab⟩=r1 at cH b1 ju fK jS;rw[fK] at nd
        (refine E.ac ?_;simp only[go_sem])
        (refine fy [0] (ju) ?_;rintro _ _ ⟨rfl,rfl⟩;simp only[go_sem])
        (refine E.ac ?_;simp only[go_sem])
        rw[dn]
        (refine E.bB [some 0] ?_;simp only[go_sem])
        refine E.ac ⟨⟨c+1,m,r1,by omega,by omega,cH,by omega,nd,rfl,rfl⟩,?_⟩;simp only[go_sem];omega
      ·have sN:decide ((q:Int) < os.length)=false:=decide_eq_false (by omega);rw[List.drop_of_length_le UH,oG] at fK;simp only[go_sem,qP,rT,sN]
       (refine E.ac ?_;simp only[go_sem])
       obtain⟨cH,b1⟩:=sS (v:=⟨f,v.ab⟩) cq vD (by simp only;omega);simp only at b1;have ju:=Ba cG f v.ab (by omega);have jS:=nO cH;generalize jz cG ⟨f,v.ab⟩=r1 at cH b1 ju fK jS;rw[fK] at nd
       (refine E.ac ?_;simp only[go_sem])
       (refine fy [0] (ju) ?_;rintro _ _ ⟨rfl,rfl⟩;simp only[go_sem])
       (refine E.ac ?_;simp only[go_sem])
       rw[dn]
       (refine E.bB [some 0] ?_;simp only[go_sem])
       refine E.ac ⟨⟨c+1,m,r1,by omega,by omega,cH,by omega,nd,rfl,rfl⟩,?_⟩;simp only[go_sem];omega
  ·have vC:c=l.length:=by omega
   subst vC;rw[List.drop_length,mx] at nd
   (refine E.kK [] [0] ?_;simp only[go_sem])
   (refine E.ac ?_;simp only[go_sem])
   (refine E.ac ?_;simp only[go_sem])
   refine E.ac ⟨?_,rfl⟩;rw[nd];rfl
theorem Re (z:gK):aO prog 142 [.agg (aJ.J z)] [] (fun v rs=>v= .int .i64 (mq z)∧rs= []):=by
 refine cu func142 adW (by simp[wL,yV]) ?_;simp only[go_sem,wL,yV,Ab];refine cf ?_ ?_<;>intro dI<;>simp only[bC] at dI<;>simp only[go_sem,wL,yV]
 ·exact E.bg rfl ⟨by rw[mq,if_pos (by omega)],rfl⟩
 have Lr:mq z=if z.qh∧lz (-1) 0 z.iA=true then 0 else 1:=by rw[mq,if_neg (by omega)]
 have qR: ¬z.qh→mq z=1:=fun h=>by rw[Lr,if_neg (fun cR=>h cR.1)]
 repeat' ((first|refine gv ?_ ?_|refine gw ?_ ?_|refine cf ?_ ?_|refine dj ?_ ?_)<;>intro aw<;>(have ak:=aw;try simp only[bC] at ak)<;>(first|omega| (simp only[go_sem,aw,wL,yV];clear aw)))
 any_goals exact E.bg rfl ⟨by rw[qR (by unfold gK.qh;omega)],rfl⟩
 all_goals
  have yn:z.qh:=by unfold gK.qh;omega
  have ajl:mq z=if lz (-1) 0 z.iA=true then 0 else 1:=by rw[Lr];simp[yn]
  refine dN (fun D r=> ∃ (c:Nat) (a m:Int),c≤z.iA.length∧lz (-1) 0 z.iA=lz a m (z.iA.drop c)∧D= [(3,.bd 0 1 0 0),(39,.pure 2 (ai z.iA)),(40,.int .i64 z.iA.length),(41,.int .i64 c)]∧r= [.ag 261 2 [[.int .i64 a,.int .i64 m]]])
   (fun D _=>match bs D 41 with| .int _ j=>(z.iA.length-j).toNat|_=>0) ?_ ?_
  ·(refine E.bB [some 1] ?_;simp only[go_sem])
   exact E.ac ⟨0,-1,0,by omega,by simp,rfl,rfl⟩
  ·rintro D r ⟨c,a,m,av,hb,rfl,rfl⟩;simp only[go_sem,wL,yV];refine cf ?_ ?_<;>intro ct<;>simp only[bC] at ct<;>simp only[go_sem,wL,yV]
   ·have aI:c < z.iA.length:=by omega
    have nT: (0:Int)≤c:=by omega
    have vB: (c:Int) < z.iA.length:=by omega
    have eR: (ai z.iA).getD c []= [.int .i64 z.iA[c].after,.int .i64 z.iA[c].iP]:=by rw[cT aI,ajm]
    have aP:=dB (c:=c) (by omega);rw[oF aI,lz] at hb;generalize z.iA[c]=b at eR hb;simp only[go_sem,wL,yV,nT,vB,eR]
    repeat' ((first|refine gv ?_ ?_|refine gw ?_ ?_|refine cf ?_ ?_|refine dj ?_ ?_)<;>intro aw<;>(have ak:=aw;try simp only[bC] at ak)<;>(first|omega| (simp only[go_sem,aw,wL,yV,aP];clear aw)))
    any_goals (refine E.bg rfl ⟨?_,rfl⟩;rw[ajl,if_neg];rw[hb];simp only[Bool.and_eq_true,decide_eq_true_eq];omega)
    (refine E.bB [some 0] ?_;simp only[go_sem])
    refine E.ac ⟨⟨c+1,b.after,b.iP,by omega,?_,rfl,rfl⟩,?_⟩
    ·rw[hb,decide_eq_true (by omega),Bool.true_and]
    ·simp only[go_sem];omega
   ·have vC:c=z.iA.length:=by omega
    rw[vC,List.drop_length,lz] at hb;exact E.bg rfl ⟨by rw[ajl,if_pos hb],rfl⟩
theorem aGy {w:List bx}(h:0 < w.length):vg w=w[w.length-1].ab-w[0].R-da w:=by
 rw[vg,List.getLast?_eq_getElem?,List.getElem?_eq_getElem (by omega),List.head?_eq_getElem?,List.getElem?_eq_getElem h];rfl
theorem aGz (dl:List lR)(w:List bx)(nK:dl.length≤16)(pP:lz (-1) 0 dl=true)(av:gz w)(ht:da w≤100000):aO prog 230 [.pure 2 (ai dl),.pure 2 (ai w)] []
 (fun v rs=>v= .pure 2 (ai (if w.isEmpty then [] else pR dl (vg w) w))∧rs= []):=by
 refine hJ func230 afn (by simp[yE,Bb]) ?_;simp only[go_sem,yE,Bb]
 repeat (refine E.ac ?_;simp only[go_sem])
 have sF:=nO av;have FD:=Jz av;refine dj ?_ ?_<;>intro dI<;>simp only[bC] at dI<;>simp only[go_sem,yE,Bb]
 ·have:w= []:=List.eq_nil_of_length_eq_zero (by omega);subst this
  (refine E.ac ?_;simp only[go_sem])
  exact E.ac ⟨by simp[bs],rfl⟩
 have hne:0 < w.length:=by omega
 have Ut:w.isEmpty=false:=by cases w<;>simp_all
 rw[Ut];have oY: (0:Int)≤((w.length-1:Nat):Int):=by omega
 have jK: ((w.length-1:Nat):Int) < w.length:=by omega
 have ba: (0:Int) < w.length:=by omega
 have xf:IntKind.i64.wrap ((w.length:Int)-1)=((w.length-1:Nat):Int):=by rw[bl (by omega) (by omega)];omega
 have ajn: (ai w).getD (w.length-1) []= [.int .i64 w[w.length-1].R,.int .i64 w[w.length-1].ab]:=by rw[cT (by omega),eY]
 have wm: (ai w).getD 0 []= [.int .i64 w[0].R,.int .i64 w[0].ab]:=by rw[cT hne,eY]
 have nF:=aGy hne;have nD:=av _ (List.getElem_mem (l:=w) (n:=w.length-1) (by omega));have jZ:=av _ (List.getElem_mem (l:=w) (n:=0) hne);generalize w[w.length-1]=UJ at ajn nF nD;generalize w[0]=UK at wm nF jZ;have aGA:IntKind.i64.wrap (UJ.ab-UK.R)=UJ.ab-UK.R:=bl (by omega) (by omega);have Is:IntKind.i64.wrap (UJ.ab-UK.R-da w)=vg w:=by rw[bl (by omega) (by omega)];omega
 (refine E.ac ?_;simp only[go_sem])
 simp only[go_sem,xf,oY,jK,ajn,ba,wm,aGA];refine gG (LX w av (by omega)) rfl rfl ?_;simp only[go_sem,Is];have aKx: -1000000000≤vg w∧vg w≤1000000000:=by omega
 (refine E.ac ?_;simp only[go_sem])
 (refine E.ac ?_;simp only[go_sem])
 refine hv (fun D r=> ∃ (c:Nat) (tk a m:Int) (u:List bx),c≤dl.length∧pR dl (vg w) w=pR (dl.drop c) tk u∧gz u∧da u≤100000∧ -1000000000≤tk∧tk≤1000000000∧ -1≤a∧0≤m∧lz a m (dl.drop c)=true∧
  D= [(1,.pure 2 (ai u)),(5,.int .i64 tk),(29,.pure 2 (ai dl)),(30,.int .i64 dl.length),(31,.int .i64 c)]∧r= [])
  (fun D _=>match bs D 31 with| .int _ j=>(dl.length-j).toNat|_=>0) ?_ ?_
 ·exact E.ac ⟨0,vg w,-1,0,w,by omega,by simp,av,ht,by omega,by omega,by omega,by omega,by simpa using pP,rfl,rfl⟩
 ·rintro D r ⟨c,tk,a,m,u,kv,he,bc,By,Lz,EH,aC,hm,kX,rfl,rfl⟩;have aCx:=nO bc;have aKy:=Jz bc;simp only[go_sem,yE,Bb]
  (refine E.ac ?_;simp only[go_sem])
  refine dj ?_ ?_<;>intro ct<;>simp only[bC] at ct<;>simp only[go_sem,yE,Bb]
  ·have aI:c < dl.length:=by omega
   have nT: (0:Int)≤c:=by omega
   have vB: (c:Int) < dl.length:=by omega
   have eR: (ai dl).getD c []= [.int .i64 dl[c].after,.int .i64 dl[c].iP]:=by rw[cT aI,ajm]
   have aP:=dB (c:=c) (by omega);rw[oF aI,lz,Bool.and_eq_true,decide_eq_true_eq] at kX;rw[oF aI,pR] at he;generalize dl[c]=b at eR kX he
   (refine E.ac ?_;simp only[go_sem])
   simp only[go_sem,nT,vB,eR]
   (refine E.ac ?_;simp only[go_sem])
   refine bM (LX u bc (by omega)) rfl rfl ?_;simp only[go_sem]
   (refine E.ac ?_;simp only[go_sem])
   repeat' ((first|refine gv ?_ ?_|refine gw ?_ ?_|refine cf ?_ ?_|refine dj ?_ ?_)<;>intro aw<;>(have ak:=aw;try simp only[bC] at ak)<;>(first|omega| (simp only[go_sem,aw,yE,Bb];clear aw)))
   ·rw[if_pos (by omega)] at he
    (refine E.ac ?_;simp only[go_sem])
    (refine E.ac ?_;simp only[go_sem])
    rw[aP]
    (refine E.bB [] ?_;simp only[go_sem])
    refine E.ac ⟨⟨c+1,tk,b.after,b.iP,u,by omega,he,bc,By,by omega,by omega,by omega,by omega,kX.2,rfl,rfl⟩,?_⟩;simp only[go_sem];omega
   ·(refine E.ac ?_;simp only[go_sem])
    refine dj ?_ ?_<;>intro fH<;>simp only[bC] at fH<;>simp only[go_sem,yE,Bb]
    ·rw[if_pos (by omega)] at he
     (refine E.ac ?_;simp only[go_sem])
     rw[aP]
     (refine E.bB [] ?_;simp only[go_sem])
     refine E.ac ⟨⟨c+1,tk,b.after,b.iP,u,by omega,he,bc,By,by omega,by omega,by omega,by omega,kX.2,rfl,rfl⟩,?_⟩;simp only[go_sem];omega
    ·rw[if_neg (by omega)] at he;have Cm:0≤min (b.iP-tk) (da u-b.after):=by omega
     have kL:min (b.iP-tk) (da u-b.after)≤1000000:=by omega
     have aGB:IntKind.i64.wrap (b.iP-tk)=b.iP-tk:=bl (by omega) (by omega);have aGC:IntKind.i64.wrap (da u-b.after)=da u-b.after:=bl (by omega) (by omega);have aGD:IntKind.i64.wrap (tk+min (b.iP-tk) (da u-b.after))=tk+min (b.iP-tk) (da u-b.after):=bl (by omega) (by omega);obtain⟨c1,c2⟩:=Sb (a:=b.after) (z:= []) Cm bc (by simp[gz]);have lI:=aGm u b.after (min (b.iP-tk) (da u-b.after)) bc By (by omega) (by omega) Cm kL;generalize cA:min (b.iP-tk) (da u-b.after)=K at *;generalize aKz:rb u b.after K []=OF at *;simp only[da] at c2
     (refine E.ac ?_;simp only[go_sem])
     simp only[go_sem,aGB,aGC,cA]
     (refine E.ac ?_;simp only[go_sem])
     refine bM lI rfl rfl ?_;simp only[go_sem]
     (refine E.ac ?_;simp only[go_sem])
     rw[aGD]
     (refine E.ac ?_;simp only[go_sem])
     rw[aP]
     (refine E.bB [] ?_;simp only[go_sem])
     refine E.ac ⟨⟨c+1,tk+K,b.after,b.iP,OF,by omega,he,c1,by omega,by omega,by omega,by omega,by omega,kX.2,rfl,rfl⟩,?_⟩;simp only[go_sem];omega
  ·have vC:c=dl.length:=by omega
   rw[vC,List.drop_length,pR] at he
   (refine E.ac ?_;simp only[go_sem])
   (refine E.ac ?_;simp only[go_sem])
   exact E.ac ⟨by simp[bs,he],rfl⟩
def aiX:Int→List Stamp→Int
 |b,[]=>b
 |_,I::z=>aiX I.time z
def rP (l:List Stamp)(t k:Int):Bool:=l.any fun I=>decide (I.time=t)&&decide (I.cB=k)
end Go.Proofs.YtpincjkjoeopkaaGreatDoor.Pr
