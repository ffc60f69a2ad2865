/- Presences and working time. -/
import Derived.Test.YtpincjkjoeopkaaGreatDoorK30
import Derived.Test.YtpincjkjoeopkaaGreatDoorK4
import Derived.Test.YtpincjkjoeopkaaGreatDoorK15
set_option linter.unusedSimpArgs false
set_option linter.unusedVariables false
set_option linter.unusedSectionVars false
namespace Go.Proofs.YtpincjkjoeopkaaGreatDoor.Pr
open Go Go.Abs
structure lm where
 after:Int
 iD:Int
def lm.cells (e:lm):List z:= [.int .i64 e.after,.int .i64 e.iD]
instance:aG lm:=⟨lm.cells,2,fun _=>rfl,fun _=>rfl,fun _=>rfl⟩
theorem ahU (e:lm):aG.F e= [.int .i64 e.after,.int .i64 e.iD]:=rfl
theorem aFp:aG.N lm=2:=rfl
theorem aFq (e:lm):List.take 2 (aG.F e)=aG.F e:=rfl
attribute [go_sem] aFp aFq
structure gz where
 ez:Int
 kU:Int
 ll:Int
 ij:List lm
def gz.cells (p:gz):List z:= [.int .i64 p.ez,.int .i64 p.kU,.int .i64 p.ll,.pure 2 (ac p.ij)]
instance:aG gz:=⟨gz.cells,4,fun _=>rfl,fun p=>by simp[gz.cells,bP,bE],fun p=>by simp[gz.cells,Abs.cM]⟩
theorem yR (p:gz):aG.F p= [.int .i64 p.ez,.int .i64 p.kU,.int .i64 p.ll,.pure 2 (ac p.ij)]:=rfl
def cR:List bs→Int
 | []=>0
 |v::i=>(v.T-v.J)+cR i
theorem TH: ∀ {l i:List bs},cR (l++i)=cR l+cR i
 | [],i=>by simp[cR]
 |v::l,i=>by rw[List.cons_append,cR,cR,TH];omega
def jm (l:List bs)(v:bs):List bs:=
 if v.T≤v.J then l else match l.getLast? with
  |some u=>if u.T=v.J then l.dropLast++ [⟨u.J,v.T⟩] else l++ [v]
  |none=> [v]
theorem Na {l:List bs}{v:bs}(h:v.T≤v.J):jm l v=l:=by rw[jm,if_pos h]
theorem Nb {v:bs}(h:v.J < v.T):jm [] v= [v]:=by rw[jm,if_neg (by omega)];rfl
theorem Nc {l:List bs}{u v:bs}(h:v.J < v.T):jm (l++ [u]) v=if u.T=v.J then l++ [⟨u.J,v.T⟩] else l++ [u]++ [v]:=by
 rw[jm,if_neg (by omega)];simp
def gn (l:List bs):Prop:= ∀ v∈l,0≤v.J∧v.J < v.T∧v.T≤120968640
theorem Nh {l:List bs}{v:bs}:gn (l++ [v])↔gn l∧0≤v.J∧v.J < v.T∧v.T≤120968640:=by
 simp only[gn,List.mem_append,List.mem_singleton];exact⟨fun h=>⟨fun x ad=>h x (.inl ad),h v (.inr rfl)⟩,fun h x ad=>ad.elim (h.1 x) (fun e=>e▸h.2)⟩
theorem nd: ∀ {l:List bs},gn l→(l.length:Int)≤cR l
 | [],_=>by simp[cR]
 |v::i,h=>by
  have h1:=h v (by simp);have B:=nd (l:=i) (fun x ad=>h x (by simp[ad]));rw[cR,List.length_cons];omega
theorem sc {l:List bs}{v:bs}(h:gn l)(h0:0≤v.J)(h1:v.T≤120968640):gn (jm l v)∧cR (jm l v)=cR l+max (v.T-v.J) 0:=by
 by_cases ag:v.T≤v.J
 ·rw[Na ag];exact⟨h,by omega⟩
 ·rcases List.eq_nil_or_concat l with rfl|⟨bX,u,rfl⟩
  ·rw[Nb (by omega)];exact⟨by simp only[gn,List.mem_singleton];rintro x rfl;omega,by simp only[cR];omega⟩
  ·rw[List.concat_eq_append] at h ⊢;rw[Nc (by omega)];rw[Nh] at h;split
   ·exact⟨by rw[Nh];exact⟨h.1,by simp only;omega,by simp only;omega,by simp only;omega⟩,by simp only[TH,cR];omega⟩
   ·exact⟨by rw[Nh,Nh];exact⟨h,by omega,by omega,by omega⟩,by simp only[TH,cR];omega⟩
def kW:Int→Int→List lm→Bool
 |_,_,[]=>true
 |a,m,b::i=>decide (a < b.after∧b.after≤1440∧m < b.iD∧b.iD≤1440)&&kW b.after b.iD i
def gz.py (i:gz):Prop:=(i.kU=0∧i.ez=0∨1≤i.kU∧i.kU≤3∧1≤i.ez∧i.ez≤60)∧0≤i.ll∧i.ll≤120
instance (i:gz):Decidable i.py:=by unfold gz.py;infer_instance
def lK (i:gz):Int:=if 16 < i.ij.length then 3 else if i.py∧kW (-1) 0 i.ij=true then 0 else 1
def tn (i:gz)(t:Int)(e:Bool):Int:=
 if i.kU=0 then t else if t / i.ez*i.ez=t then t
 else if (i.kU=1∧e=false)∨(i.kU=2∧e=true)∨(i.kU=3∧i.ez≤2*(t-t / i.ez*i.ez)) then t / i.ez*i.ez+i.ez else t / i.ez*i.ez
def lJ (i:gz)(Y:bs)(last:Int)(p:dx):bs:=
 ⟨max (if ¬(Y.J=0∧Y.T=0)∧p.J-Y.J≤i.ll∧Y.J-p.J≤i.ll then Y.J else tn i p.J false) last,
  min (if ¬(Y.J=0∧Y.T=0)∧p.T-Y.T≤i.ll∧Y.T-p.T≤i.ll then Y.T else tn i p.T true) 120968640⟩
def kg (i:gz)(Y:bs):Int→List dx→List bs
 |_,[]=> []
 |last,p::O=>if (lJ i Y last p).J < (lJ i Y last p).T then lJ i Y last p::kg i Y (max last (lJ i Y last p).T) O else kg i Y (max last (lJ i Y last p).T) O
def ms (O:List dx):List bs:=O.flatMap (·.en)
def nN:List bs→bs→List bs→List bs
 | [],v,i=>jm i v
 |L::os,v,i=>if L.J < v.T then nN os ⟨L.T,v.T⟩ (jm i ⟨v.J,L.J⟩) else jm i v
def rb (f:Int):List bs→List bs
 | []=> []
 |L::os=>if L.T≤f then rb f os else L::os
def lL:List bs→List bs→List bs→List bs
 | [],_,i=>i
 |v::l,os,i=>lL l (rb v.J os) (nN (rb v.J os) v i)
def qt:List bs→Int→Int→List bs→List bs
 | [],_,_,i=>i
 |v::l,a,k,i=>qt l (a-(v.T-v.J)) k (jm (jm i ⟨v.J,v.J+min (max a 0) (v.T-v.J)⟩) ⟨v.J+min (max (a+k) 0) (v.T-v.J),v.T⟩)
def pi:List lm→Int→List bs→List bs
 | [],_,w=>w
 |b::dc,k,w=>if cR w≤b.after∨b.iD≤k then pi dc k w else pi dc (k+min (b.iD-k) (cR w-b.after)) (qt w b.after (min (b.iD-k) (cR w-b.after)) [])
def uf (w:List bs):Int:=(w.getLast?.elim 0 (·.T))-(w.head?.elim 0 (·.J))-cR w
def oh (i:gz)(Y:bs)(O:List dx):List bs:=
 let w:=lL (kg i Y 0 O) (ms O) []
 if w.isEmpty then [] else pi i.ij (uf w) w
def pV (i:gz)(Y:bs)(O:List dx):Int:=
 if lK i≠0 then lK i else if ¬(Y.J=0∧Y.T=0)∧hz Y 0 120968640=false then 1 else if kV O≠0 then kV O else if 100000 < cR (kg i Y 0 O) then 3 else 0
theorem vU: ∀ {l:List bs} {e t:Int},cV e t l=true→ ∀ v∈l,e≤v.J∧v.J < v.T∧v.T≤t
 | [],_,_,_,v,h=>by simp at h
 |x::i,e,t,h,v,ag=>by
  simp only[cV,hz,Bool.and_eq_true,decide_eq_true_eq] at h;rcases List.mem_cons.1 ag with rfl|ag
  ·exact h.1
  ·have:=vU h.2 v ag;omega
theorem Qf {l:List bs}{e:Int}(h:cV e 120968640 l=true)(he:0≤e):gn l:=fun v ag=>by have:=vU h v ag;omega
theorem E0: ∀ {l:List bs} {e cA t:Int},cV e t l=true→cA≤e→cV cA t l=true
 | [],_,_,_,_,_=>rfl
 |b::i,e,cA,t,h,he=>by
  simp only[cV,hz,Bool.and_eq_true,decide_eq_true_eq] at h ⊢;exact⟨by omega,h.2⟩
theorem Ij: ∀ {os:List bs} {e t f:Int},cV e t os=true→cV e t (rb f os)=true∧ ∀ L∈rb f os,f < L.T
 | [],_,_,_,_=>⟨rfl,by simp[rb]⟩
 |L::os,e,t,f,h=>by
  have cJ:=h;simp only[cV,hz,Bool.and_eq_true,decide_eq_true_eq] at h;rw[rb];split
  ·obtain⟨h1,B⟩:=Ij (f:=f) h.2;exact⟨E0 h1 (by omega),B⟩
  ·refine⟨cJ,fun x ad=> ?_⟩;rcases List.mem_cons.1 ad with rfl|ad
   ·omega
   ·have:=vU h.2 x ad;omega
theorem ahZ: ∀ {os:List bs} {e:Int} {v:bs} {i:List bs},cV e 120968640 os=true→0≤e→(∀ L∈os,v.J < L.T)→gn i→0≤v.J→v.T≤120968640→gn (nN os v i)∧cR (nN os v i)≤cR i+max (v.T-v.J) 0
 | [],e,v,i,_,_,_,G,h0,h1=>by
  rw[nN];obtain⟨a,b⟩:=sc G h0 h1;exact⟨a,by omega⟩
 |L::os,e,v,i,h,he,bi,G,h0,h1=>by
  simp only[cV,hz,Bool.and_eq_true,decide_eq_true_eq] at h;have tq:=bi L (by simp);rw[nN];split
  ·obtain⟨a,b⟩:=sc (v:=⟨v.J,L.J⟩) G h0 (by simp only;omega);obtain⟨F,o⟩:=ahZ (v:=⟨L.T,v.T⟩) h.2 (by omega) (fun x ad=>by have:=vU h.2 x ad;simp only;omega) a (by simp only;omega) h1;simp only at b o;exact⟨F,by omega⟩
  ·obtain⟨a,b⟩:=sc G h0 h1;exact⟨a,by omega⟩
theorem Q5: ∀ {l os i:List bs} {e:Int},cV e 120968640 os=true→0≤e→gn l→gn i→gn (lL l os i)∧cR (lL l os i)≤cR i+cR l
 | [],os,i,e,_,_,_,G=>⟨G,by simp[lL,cR]⟩
 |v::l,os,i,e,h,he,hl,G=>by
  have ag:=hl v (by simp);obtain⟨h1,B⟩:=Ij (f:=v.J) h;obtain⟨a,b⟩:=ahZ h1 he B G ag.1 ag.2.2;obtain⟨F,o⟩:=Q5 (l:=l) h1 he (fun x ad=>hl x (by simp[ad])) a;rw[lL,cR];exact⟨F,by omega⟩
theorem Q3: ∀ {l i:List bs} {a k:Int},0≤k→gn l→gn i→gn (qt l a k i)∧cR (qt l a k i)≤cR i+cR l
 | [],i,a,k,_,_,G=>⟨G,by simp[qt,cR]⟩
 |v::l,i,a,k,I,hl,G=>by
  have ag:=hl v (by simp);obtain⟨cz,b1⟩:=sc (v:=⟨v.J,v.J+min (max a 0) (v.T-v.J)⟩) G ag.1 (by simp only;omega);obtain⟨eT,eA⟩:=sc (v:=⟨v.J+min (max (a+k) 0) (v.T-v.J),v.T⟩) cz (by simp only;omega) ag.2.2;obtain⟨F,o⟩:=Q3 (l:=l) (a:=a-(v.T-v.J)) I (fun x ad=>hl x (by simp[ad])) eT;rw[qt,cR];simp only at b1 eA;exact⟨F,by omega⟩
theorem Iq {l:List bs}(h:gn l):0≤cR l:=by have:=nd h;omega
open Go.Proofs.Tryz
theorem Yb (f t:Int):aK prog 227 [.agg [.int .i64 f,.int .i64 t]] [] (fun v rs=>v= .bool (hz ⟨f,t⟩ 0 120968640)∧rs= []):=by
 refine cr func227 adR (by simp[Hw,Nf]) ?_;simp only[go_sem,Hw,Nf]
 repeat' ((first|refine gF ?_ ?_|refine gP ?_ ?_|refine cg ?_ ?_|refine dg ?_ ?_)<;>intro ao<;>(have ae:=ao;try simp only[bA] at ae)<;>(first|omega| (simp only[go_sem,ao,Hw,Nf];clear ao)))
 all_goals (refine s.bb rfl ⟨congrArg z.bool ?_,rfl⟩;rw[hz,Bool.eq_iff_iff];simp only[bA,Bool.false_eq_true,false_iff];omega)
theorem Mq (a b E:Int)(h1:0≤a∧a≤200000000)(B:0≤b∧b≤200000000):aK prog 286 [.int .i64 a,.int .i64 b,.int .i64 E] [] (fun v rs=>v= .bool (decide (a-b≤E∧b-a≤E))∧rs= []):=by
 refine cr func286 aez (by simp[Hz,Ng]) ?_;have cW:IntKind.i64.wrap (a-b)=a-b:=bf (by omega) (by omega);have gg:IntKind.i64.wrap (b-a)=b-a:=bf (by omega) (by omega);simp only[go_sem,Hz,Ng,cW,gg]
 repeat' ((first|refine gF ?_ ?_|refine gP ?_ ?_|refine cg ?_ ?_|refine dg ?_ ?_)<;>intro ao<;>(have ae:=ao;try simp only[bA] at ae)<;>(first|omega| (simp only[go_sem,ao,Hz,Ng,cW,gg];clear ao)))
 all_goals (refine s.bb rfl ⟨congrArg z.bool ?_,rfl⟩;rw[Bool.eq_iff_iff];simp only[bA,Bool.false_eq_true,false_iff];omega)
theorem Ty {l:List bs}{k:Nat}(h:k < l.length):cR (l.drop k)=(l[k].T-l[k].J)+cR (l.drop (k+1)):=by
 rw[nM h,cR]
theorem Tz: ∀ {l:List bs},gn l→0≤cR l∧cR l≤120968640*l.length
 | [],_=>by simp[cR]
 |v::i,h=>by
  have h1:=h v (by simp);have B:=Tz (l:=i) (fun x ad=>h x (by simp[ad]));rw[cR,List.length_cons];omega
theorem KG (l:List bs)(an:gn l)(hl:l.length≤1000000000):aK prog 229 [.pure 2 (ac l)] [] (fun v rs=>v= .int .i64 (cR l)∧rs= []):=by
 refine cr func229 adT (by simp[a229,Ik]) ?_;simp only[go_sem,a229,Ik];refine dR (fun r d=> ∃ (k:Nat) (m:Int),k≤l.length∧m+cR (l.drop k)=cR l∧0≤m∧r= [(3,.int .i64 m),(6,.pure 2 (ac l)),(7,.int .i64 l.length),(8,.int .i64 k)]∧d= [])
  (fun r _=>match bn r 8 with| .int _ j=>(l.length-j).toNat|_=>0) ?_ ?_
 ·exact s.U ⟨0,0,by omega,by simp,by omega,rfl,rfl⟩
 ·rintro r d ⟨k,m,I,hm,sD,rfl,rfl⟩;simp only[go_sem,a229,Ik];refine cg ?_ ?_<;>intro dL<;>simp only[bA] at dL<;>simp only[go_sem,a229,Ik]
  ·have aC:k < l.length:=by omega
   have Bf: (0:Int)≤k:=by omega
   have kq: (k:Int) < l.length:=by omega
   have eI: (ac l).getD k []= [.int .i64 l[k].J,.int .i64 l[k].T]:=by rw[cQ aC,eM]
   have ag:=an _ (List.getElem_mem aC);have rD:=Tz (l:=l.drop (k+1)) (fun x ad=>an x (List.mem_of_mem_drop ad));have pd:=Tz an;rw[Ty aC] at hm;generalize l[k]=v at eI ag hm;have cW:=dr (c:=k) (by omega);have gg:IntKind.i64.wrap (v.T-v.J)=v.T-v.J:=bf (by omega) (by omega);have hS:IntKind.i64.wrap (m+(v.T-v.J))=m+(v.T-v.J):=bf (by omega) (by omega);simp only[go_sem,Bf,kq,eI,gg,hS,cW]
   (refine s.bw [] ?_;simp only[go_sem])
   refine s.U ⟨⟨k+1,_,by omega,by omega,by omega,rfl,rfl⟩,?_⟩;simp only[go_sem];omega
  ·have xA:k=l.length:=by omega
   rw[xA,List.drop_length,cR] at hm;exact s.bb rfl ⟨by rw[←hm];simp,rfl⟩
theorem zY (l:List bs)(f t:Int)(hl:l.length≤1000000000):aK prog 288 [.own 0 l.length 0 l.length,.agg [.int .i64 f,.int .i64 t]] [.aa 64 2 (ac l)]
 (fun v rs=>v= .own 0 (jm l ⟨f,t⟩).length 0 (jm l ⟨f,t⟩).length∧rs= [.aa 64 2 (ac (jm l ⟨f,t⟩))]):=by
 refine cr func288 aeB (by simp[Es,Il]) ?_;simp only[go_sem,Es,Il];refine cg ?_ ?_<;>intro dL<;>simp only[bA] at dL<;>simp only[go_sem,Es,Il]
 ·(refine s.bw [some 0] ?_;simp only[go_sem])
  exact s.U ⟨by rw[Na dL];rfl,by rw[Na dL]⟩
 rcases List.eq_nil_or_concat l with rfl|⟨bX,u,rfl⟩
 ·simp only[go_sem,List.length_nil]
  (refine s.bw [some 0] ?_;simp only[go_sem])
  exact s.U ⟨by rw[Nb dL];rfl,by rw[Nb dL]⟩
 ·rw[List.concat_eq_append] at *;have cB: (bX++ [u]).length=bX.length+1:=by simp
  rw[cB] at hl;have aq:decide ((0:Int) < ((bX.length+1:Nat):Int))=true:=decide_eq_true (by omega);have vV:IntKind.i64.wrap (((bX.length+1:Nat):Int)-1)=(bX.length:Int):=by rw[bf (by omega) (by omega)];omega
  have tc: (0:Int)≤bX.length:=by omega
  have R5: (bX.length:Int) < ((bX.length+1:Nat):Int):=by omega
  have eI: (ac (bX++ [u])).getD bX.length []= [.int .i64 u.J,.int .i64 u.T]:=by rw[cQ (by omega),eM];simp
  rw[cB];simp only[go_sem,cB,aq,vV,tc,R5,eI]
  repeat' ((first|refine gF ?_ ?_|refine gP ?_ ?_|refine cg ?_ ?_|refine dg ?_ ?_)<;>intro ao<;>(have ae:=ao;try simp only[bA] at ae)<;>(first|omega| (simp only[go_sem,ao,Es,Il,cB,aq,vV,tc,R5,eI];clear ao)))
  ·have ly: (ac (bX++ [u])).set bX.length [z.int IntKind.i64 u.J,z.int IntKind.i64 t]=ac (bX++ [⟨u.J,t⟩]):=by
    rw[←eM ⟨u.J,t⟩,ve];simp
   rw[ly]
   (refine s.bw [some 0] ?_;simp only[go_sem])
   have aT:jm (bX++ [u]) ⟨f,t⟩=bX++ [⟨u.J,t⟩]:=by rw[Nc dL,if_pos ae]
   exact s.U ⟨by rw[aT];simp[bn],by rw[aT]⟩
  ·refine⟨by omega,?_⟩
   (refine s.bw [some 0] ?_;simp only[go_sem])
   have aT:jm (bX++ [u]) ⟨f,t⟩=bX++ [u]++ [⟨f,t⟩]:=by rw[Nc dL,if_neg ae]
   exact s.U ⟨by rw[aT];simp[bn],by rw[aT]⟩
theorem ahR (i:gz)(G:i.py)(t:Int)(e:Bool)(h0:0≤t)(h1:t≤120968640):aK prog 285 [.agg (aG.F i),.int .i64 t,.bool e] [] (fun v rs=>v= .int .i64 (tn i t e)∧rs= []):=by
 refine cr func285 aey (by simp[vG,xP]) ?_;simp only[go_sem,vG,xP,yR];refine cg ?_ ?_<;>intro dL<;>simp only[bA] at dL<;>simp only[go_sem,vG,xP]
 ·exact s.bb rfl ⟨by rw[tn,if_pos dL],rfl⟩
 have hm:1≤i.kU∧i.kU≤3∧1≤i.ez∧i.ez≤60:=by unfold gz.py at G;omega
 refine⟨by omega,?_⟩;have iz:0≤t / i.ez:=Int.ediv_nonneg h0 (by omega);have mr:t / i.ez≤t:=Int.ediv_le_self _ h0;have oe:0≤t / i.ez*i.ez:=Int.mul_nonneg iz (by omega);have jv:t / i.ez*i.ez≤t:=Int.ediv_mul_le _ (by omega);have EC:tn i t e=if t / i.ez*i.ez=t then t else if (i.kU=1∧e=false)∨(i.kU=2∧e=true)∨(i.kU=3∧i.ez≤2*(t-t / i.ez*i.ez)) then t / i.ez*i.ez+i.ez else t / i.ez*i.ez:=by
  rw[tn,if_neg dL]
 rw[Int.tdiv_eq_ediv_of_nonneg h0,bf (x:=t / i.ez) (by omega) (by omega),bf (x:=t / i.ez*i.ez) (by omega) (by omega)];generalize t / i.ez*i.ez=low at oe jv EC ⊢;rw[EC];refine cg ?_ ?_<;>intro ck<;>simp only[bA] at ck<;>simp only[go_sem,vG,xP]
 ·exact s.bb rfl ⟨by rw[if_pos ck],rfl⟩
 have cW:IntKind.i64.wrap (t-low)=t-low:=bf (by omega) (by omega);have gg:IntKind.i64.wrap (2*(t-low))=2*(t-low):=bf (by omega) (by omega);have hS:IntKind.i64.wrap (low+i.ez)=low+i.ez:=bf (by omega) (by omega);rw[if_neg ck];obtain EZ|EZ|EZ:i.kU=1∨i.kU=2∨i.kU=3:=by omega
 ·cases e<;>simp only[go_sem,vG,xP,EZ,cW,gg,hS]
  all_goals exact s.bb rfl ⟨by simp,rfl⟩
 ·cases e<;>simp only[go_sem,vG,xP,EZ,cW,gg,hS]
  all_goals exact s.bb rfl ⟨by simp,rfl⟩
 ·simp only[go_sem,vG,xP,EZ,cW,gg,hS]
  repeat' ((first|refine gF ?_ ?_|refine gP ?_ ?_|refine cg ?_ ?_|refine dg ?_ ?_)<;>intro ao<;>(have ae:=ao;try simp only[bA] at ae)<;>(first|omega| (simp only[go_sem,ao,vG,xP,EZ,cW,gg,hS];clear ao)))
  ·exact s.bb rfl ⟨by rw[if_pos (by omega)],rfl⟩
  ·exact s.bb rfl ⟨by rw[if_neg (by omega)],rfl⟩
theorem aE6 (l:List bs)(a k:Int)(an:gn l)(ht:cR l≤100000)(aw:0≤a)(tC:a≤1440)(I:0≤k)(gc:k≤1000000):aK prog 287 [.pure 2 (ac l),.int .i64 a,.int .i64 k] [] (fun v rs=>v= .pure 2 (ac (qt l a k []))∧rs= []):=by
 refine hr func287 aeA (by simp[Er,Im]) ?_;have aE7:=nd an;simp only[go_sem,Er,Im]
 repeat (refine s.U ?_;simp only[go_sem])
 refine gY (fun r d=> ∃ (c:Nat) (b:Int) (i:List bs),c≤l.length∧gn i∧cR i+cR (l.drop c)≤100000∧a-b+cR (l.drop c)=cR l∧qt l a k []=qt (l.drop c) b k i∧
  r= [(1,.int .i64 b),(2,.int .i64 k),(7,.own 0 i.length 0 i.length),(13,.pure 2 (ac l)),(14,.int .i64 l.length),(15,.int .i64 c)]∧d= [.aa 64 2 (ac i)])
  (fun r _=>match bn r 15 with| .int _ j=>(l.length-j).toNat|_=>0) ?_ ?_
 ·(refine s.iI 7 64 2 rfl (s.eW [1,2,7,13,14,15] ?_);simp only[go_sem])
  exact s.U ⟨0,a,[],by omega,by simp[gn],by simp[cR];omega,by simp,by simp,rfl,rfl⟩
 ·rintro r d ⟨c,b,i,jY,G,Io,oG,Ip,rfl,rfl⟩;simp only[go_sem,Er,Im]
  (refine s.U ?_;simp only[go_sem])
  refine dg ?_ ?_<;>intro dL<;>simp only[bA] at dL<;>simp only[go_sem,Er,Im]
  ·have aC:c < l.length:=by omega
   have nk: (0:Int)≤c:=by omega
   have uC: (c:Int) < l.length:=by omega
   have eI: (ac l).getD c []= [.int .i64 l[c].J,.int .i64 l[c].T]:=by rw[cQ aC,eM]
   have ag:=an _ (List.getElem_mem aC);have yi:gn (l.drop (c+1)):=fun x ad=>an x (List.mem_of_mem_drop ad);have Dz:=Iq yi;have hM:=nd G;have cW:=dr (c:=c) (by omega);rw[nM aC,qt] at Ip;rw[Ty aC] at Io oG;generalize l[c]=v at eI ag Ip Io oG;have oe:=Iq an;have gg:IntKind.i64.wrap (v.T-v.J)=v.T-v.J:=bf (by omega) (by omega);have hS:IntKind.i64.wrap (v.J+min (max b 0) (v.T-v.J))=v.J+min (max b 0) (v.T-v.J):=bf (by omega) (by omega);have Bn:IntKind.i64.wrap (b+k)=b+k:=bf (by omega) (by omega);have aE8:IntKind.i64.wrap (v.J+min (max (b+k) 0) (v.T-v.J))=v.J+min (max (b+k) 0) (v.T-v.J):=bf (by omega) (by omega);have aE9:IntKind.i64.wrap (b-(v.T-v.J))=b-(v.T-v.J):=bf (by omega) (by omega);obtain⟨cz,b1⟩:=sc (v:=⟨v.J,v.J+min (max b 0) (v.T-v.J)⟩) G ag.1 (by simp only;omega);obtain⟨eT,eA⟩:=sc (v:=⟨v.J+min (max (b+k) 0) (v.T-v.J),v.T⟩) cz (by simp only;omega) ag.2.2;have iA:=nd cz;simp only at b1 eA;generalize hF:v.J+min (max b 0) (v.T-v.J)=be at *;generalize hG:v.J+min (max (b+k) 0) (v.T-v.J)=iK at *;generalize aFa:jm i ⟨v.J,be⟩=r1 at *;generalize Qs:jm r1 ⟨iK,v.T⟩=cO at *
   (refine s.U ?_;simp only[go_sem])
   simp only[go_sem,nk,uC,eI]
   (refine s.U ?_;simp only[go_sem])
   simp only[go_sem,gg]
   (refine s.U ?_;simp only[go_sem])
   simp only[go_sem,hF,hS]
   (refine s.U ?_;simp only[go_sem])
   simp only[go_sem,Bn,hG,aE8]
   (refine s.U ?_;simp only[go_sem])
   (refine eY [0] (zY i v.J be (by omega)) ?_;rintro _ _ ⟨rfl,rfl⟩;simp only[go_sem])
   rw[aFa]
   (refine s.U ?_;simp only[go_sem])
   (refine eY [0] (zY r1 iK v.T (by omega)) ?_;rintro _ _ ⟨rfl,rfl⟩;simp only[go_sem])
   rw[Qs]
   (refine s.U ?_;simp only[go_sem])
   rw[aE9]
   (refine s.U ?_;simp only[go_sem])
   rw[cW]
   (refine s.bw [some 0] ?_;simp only[go_sem])
   refine s.U ⟨⟨c+1,_,cO,by omega,eT,by omega,by omega,Ip,rfl,rfl⟩,?_⟩;simp only[go_sem];omega
  ·have uD:c=l.length:=by omega
   subst uD;rw[List.drop_length,qt] at Ip
   (refine s.kp [] [0] ?_;simp only[go_sem])
   (refine s.U ?_;simp only[go_sem])
   (refine s.U ?_;simp only[go_sem])
   refine s.U ⟨?_,rfl⟩;rw[Ip];rfl
theorem aFb (O:List dx)(hl:O.length≤1024)(Z: ∀ p∈O,p.en.length≤1024):aK prog 232 [.pure 3 (ac O)] [] (fun v rs=>v= .pure 2 (ac (ms O))∧rs= []):=by
 refine hr func232 adW (by simp[Eo,Ir]) ?_;simp only[go_sem,Eo,Ir]
 repeat (refine s.U ?_;simp only[go_sem])
 refine gY (fun r d=> ∃ (c:Nat) (i:List bs),c≤O.length∧i=ms (O.take c)∧i.length≤1024*c∧
  r= [(3,.own 0 i.length 0 i.length),(6,.pure 3 (ac O)),(7,.int .i64 O.length),(8,.int .i64 c)]∧d= [.aa 64 2 (ac i)])
  (fun r _=>match bn r 8 with| .int _ j=>(O.length-j).toNat|_=>0) ?_ ?_
 ·(refine s.iI 3 64 2 rfl (s.eW [3,6,7,8] ?_);simp only[go_sem])
  exact s.U ⟨0,[],by omega,by simp[ms],by simp,rfl,rfl⟩
 ·rintro r d ⟨c,i,jY,G,fo,rfl,rfl⟩;simp only[go_sem,Eo,Ir]
  (refine s.U ?_;simp only[go_sem])
  refine dg ?_ ?_<;>intro dL<;>simp only[bA] at dL<;>simp only[go_sem,Eo,Ir]
  ·have aC:c < O.length:=by omega
   have nk: (0:Int)≤c:=by omega
   have uC: (c:Int) < O.length:=by omega
   have eI: (ac O).getD c []= [.int .i64 O[c].J,.int .i64 O[c].T,.pure 2 (ac O[c].en)]:=by rw[cQ aC,GV]
   have aFc:=Z _ (List.getElem_mem aC);have zH:ms (O.take (c+1))=i++O[c].en:=by rw[G,ms,ms,List.take_add_one,List.getElem?_eq_getElem aC,Option.toList_some,List.flatMap_append,List.flatMap_cons,List.flatMap_nil,List.append_nil]
   have cW:=dr (c:=c) (by omega);generalize O[c]=p at eI aFc zH
   (refine s.U ?_;simp only[go_sem])
   simp only[go_sem,nk,uC,eI]
   (refine s.U ?_;simp only[go_sem])
   refine⟨by omega,?_⟩
   (refine s.U ?_;simp only[go_sem])
   rw[cW]
   (refine s.bw [some 0] ?_;simp only[go_sem])
   refine s.U ⟨⟨c+1,i++p.en,by omega,zH.symm,by rw[List.length_append];omega,by rw[List.length_append],rfl⟩,?_⟩;simp only[go_sem];omega
  ·have uD:c=O.length:=by omega
   subst uD;rw[List.take_length] at G
   (refine s.kp [] [0] ?_;simp only[go_sem])
   (refine s.U ?_;simp only[go_sem])
   (refine s.U ?_;simp only[go_sem])
   refine s.U ⟨?_,rfl⟩;rw[←G];rfl
theorem Is: ∀ {l:List bs} {e t:Int} (n:Nat),cV e t l=true→cV e t (l.drop n)=true
 | [],_,_,n,_=>by simp[cV]
 |v::l,e,t,0,h=>h
 |v::l,e,t,n+1,h=>by
  simp only[cV,hz,Bool.and_eq_true,decide_eq_true_eq] at h;exact Is n (E0 h.2 (by omega))
theorem aFd (l os:List bs)(an:gn l)(ht:cR l≤100000)(bi:cV 0 120968640 os=true)(sh:os.length≤1100000):aK prog 231 [.pure 2 (ac l),.pure 2 (ac os)] [] (fun v rs=>v= .pure 2 (ac (lL l os []))∧rs= []):=by
 refine hr func231 adV (by simp[qh,rc]) ?_;have aE7:=nd an;have wO:=vU bi;simp only[go_sem,qh,rc]
 repeat (refine s.U ?_;simp only[go_sem])
 refine gY (fun r d=> ∃ (c n:Nat) (i:List bs),c≤l.length∧n≤os.length∧gn i∧cR i+cR (l.drop c)≤100000∧lL l os []=lL (l.drop c) (os.drop n) i∧
  r= [(1,.pure 2 (ac os)),(5,.own 0 i.length 0 i.length),(6,.int .i64 n),(10,.pure 2 (ac l)),(11,.int .i64 l.length),(12,.int .i64 c)]∧d= [.aa 64 2 (ac i)])
  (fun r _=>match bn r 12 with| .int _ j=>(l.length-j).toNat|_=>0) ?_ ?_
 ·(refine s.iI 5 64 2 rfl (s.eW [1,5,6,10,11,12] ?_);simp only[go_sem])
  exact s.U ⟨0,0,[],by omega,by omega,by simp[gn],by simp[cR];omega,by simp,rfl,rfl⟩
 ·rintro r d ⟨c,n,i,jY,ns,G,Io,mx,rfl,rfl⟩;simp only[go_sem,qh,rc]
  (refine s.U ?_;simp only[go_sem])
  refine dg ?_ ?_<;>intro dL<;>simp only[bA] at dL<;>simp only[go_sem,qh,rc]
  ·have aC:c < l.length:=by omega
   have nk: (0:Int)≤c:=by omega
   have uC: (c:Int) < l.length:=by omega
   have eI: (ac l).getD c []= [.int .i64 l[c].J,.int .i64 l[c].T]:=by rw[cQ aC,eM]
   have ag:=an _ (List.getElem_mem aC);have yi:gn (l.drop (c+1)):=fun x ad=>an x (List.mem_of_mem_drop ad);have Dz:=Iq yi;have hM:=nd G;have cW:=dr (c:=c) (by omega);rw[nM aC,lL] at mx;rw[Ty aC] at Io;generalize l[c]=v at eI ag mx Io
   (refine s.U ?_;simp only[go_sem])
   simp only[go_sem,nk,uC,eI]
   (refine s.U ?_;simp only[go_sem])
   refine gY (fun r d=> ∃ (m:Nat),m≤os.length∧rb v.J (os.drop n)=rb v.J (os.drop m)∧
    r= [(1,.pure 2 (ac os)),(5,.own 0 i.length 0 i.length),(6,.int .i64 m),(8,.aW 1 1 0 0),(10,.pure 2 (ac l)),(11,.int .i64 l.length),(12,.int .i64 c)]∧d= [.aa 64 2 (ac i),.aa 64 2 [[.int .i64 v.J,.int .i64 v.T]]])
    (fun r _=>match bn r 6 with| .int _ j=>(os.length-j).toNat|_=>0) ?_ ?_
   ·exact s.U ⟨n,ns,rfl,rfl,rfl⟩
   ·rintro r d ⟨m,xW,B7,rfl,rfl⟩;rcases Nat.lt_or_ge m os.length with TA|aFe
    ·have sD: (0:Int)≤m:=by omega
     have qg: (m:Int) < os.length:=by omega
     have rX:decide ((m:Int) < os.length)=true:=decide_eq_true qg;have tp: (ac os).getD m []= [.int .i64 os[m].J,.int .i64 os[m].T]:=by rw[cQ TA,eM]
     have vV:=dr (c:=m) (by omega);have ahS:os.drop m=os[m]::os.drop (m+1):=nM TA;rw[nM TA,rb] at B7;generalize os[m]=L at tp B7 ahS;simp only[go_sem,qh,rc,rX,sD,qg,tp]
     (refine s.U ?_;simp only[go_sem])
     refine dg ?_ ?_<;>intro ck<;>simp only[bA] at ck<;>simp only[go_sem,qh,rc]
     ·rw[if_pos ck] at B7
      (refine s.U ?_;simp only[go_sem])
      rw[vV];refine s.U ⟨⟨m+1,by omega,B7,rfl,rfl⟩,?_⟩;simp only[go_sem];omega
     ·rw[if_neg (by omega),←ahS] at B7;have TB:rb v.J (os.drop n)=os.drop m:=B7;have It:=Ij (f:=v.J) (Is n bi);rw[TB] at It mx
      (refine s.U ?_;simp only[go_sem])
      (refine s.U ?_;simp only[go_sem])
      refine gY (fun r d=> ∃ (q:Nat) (f:Int) (cy:List bs),q≤os.length∧nN (os.drop m) v i=nN (os.drop q) ⟨f,v.T⟩ cy∧gn cy∧0≤f∧f≤120968640∧(∀ L∈os.drop q,f < L.T)∧cR cy+max (v.T-f) 0+cR (l.drop (c+1))≤100000∧
       r= [(1,.pure 2 (ac os)),(5,.own 0 cy.length 0 cy.length),(6,.int .i64 m),(8,.aW 1 1 0 0),(9,.int .i64 q),(10,.pure 2 (ac l)),(11,.int .i64 l.length),(12,.int .i64 c)]∧d= [.aa 64 2 (ac cy),.aa 64 2 [[.int .i64 f,.int .i64 v.T]]])
       (fun r _=>match bn r 9 with| .int _ j=>(os.length-j).toNat|_=>0) ?_ ?_
      ·exact s.U ⟨m,v.J,i,by omega,rfl,G,by omega,by omega,It.2,by omega,rfl,rfl⟩
      ·rintro r d ⟨q,f,cy,XL,fC,ch,uE,xB,ir,aFf,rfl,rfl⟩;have aFg:=nd ch;rcases Nat.lt_or_ge q os.length with uF|TC
       ·have sD: (0:Int)≤q:=by omega
        have qg: (q:Int) < os.length:=by omega
        have rX:decide ((q:Int) < os.length)=true:=decide_eq_true qg;have tp: (ac os).getD q []= [.int .i64 os[q].J,.int .i64 os[q].T]:=by rw[cQ uF,eM]
        have vV:=dr (c:=q) (by omega);have TD:=wO _ (List.getElem_mem uF);have B8:=Is q bi;rw[nM uF,cV,Bool.and_eq_true] at B8;rw[nM uF] at ir;rw[nM uF,nN] at fC;generalize os[q]=L at tp fC TD B8 ir;have aFh:=ir L (by simp);simp only[go_sem,qh,rc,rX,sD,qg,tp]
        (refine s.U ?_;simp only[go_sem])
        refine dg ?_ ?_<;>intro fQ<;>simp only[bA] at fQ<;>simp only[go_sem,qh,rc]
        ·rw[if_pos fQ] at fC;obtain⟨cz,b1⟩:=sc (v:=⟨f,L.J⟩) ch uE (by simp only;omega);simp only at b1;have jh:=zY cy f L.J (by omega);have iA:=nd cz;generalize jm cy ⟨f,L.J⟩=r1 at cz b1 jh fC iA
         (refine s.U ?_;simp only[go_sem])
         simp only[go_sem,sD,qg,tp]
         (refine CP [0] (jh) ?_;rintro _ _ ⟨rfl,rfl⟩;simp only[go_sem])
         (refine s.U ?_;simp only[go_sem])
         simp only[go_sem,sD,qg,tp]
         (refine s.U ?_;simp only[go_sem])
         rw[vV]
         (refine s.bw [some 0,some 1] ?_;simp only[go_sem])
         refine s.U ⟨⟨q+1,L.T,r1,by omega,fC,cz,by omega,by omega,fun x ad=>by have:=vU B8.2 x ad;omega,by omega,rfl,rfl⟩,?_⟩;simp only[go_sem];omega
        ·rw[if_neg (show ¬L.J < v.T by omega)] at fC;obtain⟨cz,b1⟩:=sc (v:=⟨f,v.T⟩) ch uE (by simp only;omega);simp only at b1;have jh:=zY cy f v.T (by omega);have iA:=nd cz;generalize jm cy ⟨f,v.T⟩=r1 at cz b1 jh fC iA;rw[fC] at mx
         (refine s.U ?_;simp only[go_sem])
         (refine eY [0] (jh) ?_;rintro _ _ ⟨rfl,rfl⟩;simp only[go_sem])
         (refine s.U ?_;simp only[go_sem])
         rw[cW]
         (refine s.bw [some 0] ?_;simp only[go_sem])
         refine s.U ⟨⟨c+1,m,r1,by omega,by omega,cz,by omega,mx,rfl,rfl⟩,?_⟩;simp only[go_sem];omega
       ·have rX:decide ((q:Int) < os.length)=false:=decide_eq_false (by omega);rw[List.drop_of_length_le TC,nN] at fC;simp only[go_sem,qh,rc,rX]
        (refine s.U ?_;simp only[go_sem])
        obtain⟨cz,b1⟩:=sc (v:=⟨f,v.T⟩) ch uE (by simp only;omega);simp only at b1;have jh:=zY cy f v.T (by omega);have iA:=nd cz;generalize jm cy ⟨f,v.T⟩=r1 at cz b1 jh fC iA;rw[fC] at mx
        (refine s.U ?_;simp only[go_sem])
        (refine eY [0] (jh) ?_;rintro _ _ ⟨rfl,rfl⟩;simp only[go_sem])
        (refine s.U ?_;simp only[go_sem])
        rw[cW]
        (refine s.bw [some 0] ?_;simp only[go_sem])
        refine s.U ⟨⟨c+1,m,r1,by omega,by omega,cz,by omega,mx,rfl,rfl⟩,?_⟩;simp only[go_sem];omega
    ·have rX:decide ((m:Int) < os.length)=false:=decide_eq_false (by omega);have TB:rb v.J (os.drop n)=os.drop m:=by rw[B7,List.drop_of_length_le aFe];rfl
     simp only[go_sem,qh,rc,rX]
     (refine s.U ?_;simp only[go_sem])
     have It:=Ij (f:=v.J) (Is n bi);rw[TB] at It mx
     (refine s.U ?_;simp only[go_sem])
     (refine s.U ?_;simp only[go_sem])
     refine gY (fun r d=> ∃ (q:Nat) (f:Int) (cy:List bs),q≤os.length∧nN (os.drop m) v i=nN (os.drop q) ⟨f,v.T⟩ cy∧gn cy∧0≤f∧f≤120968640∧(∀ L∈os.drop q,f < L.T)∧cR cy+max (v.T-f) 0+cR (l.drop (c+1))≤100000∧
      r= [(1,.pure 2 (ac os)),(5,.own 0 cy.length 0 cy.length),(6,.int .i64 m),(8,.aW 1 1 0 0),(9,.int .i64 q),(10,.pure 2 (ac l)),(11,.int .i64 l.length),(12,.int .i64 c)]∧d= [.aa 64 2 (ac cy),.aa 64 2 [[.int .i64 f,.int .i64 v.T]]])
      (fun r _=>match bn r 9 with| .int _ j=>(os.length-j).toNat|_=>0) ?_ ?_
     ·exact s.U ⟨m,v.J,i,by omega,rfl,G,by omega,by omega,It.2,by omega,rfl,rfl⟩
     ·rintro r d ⟨q,f,cy,XL,fC,ch,uE,xB,ir,aFf,rfl,rfl⟩;have aFg:=nd ch;rcases Nat.lt_or_ge q os.length with uF|TC
      ·have sD: (0:Int)≤q:=by omega
       have qg: (q:Int) < os.length:=by omega
       have rX:decide ((q:Int) < os.length)=true:=decide_eq_true qg;have tp: (ac os).getD q []= [.int .i64 os[q].J,.int .i64 os[q].T]:=by rw[cQ uF,eM]
       have vV:=dr (c:=q) (by omega);have TD:=wO _ (List.getElem_mem uF);have B8:=Is q bi;rw[nM uF,cV,Bool.and_eq_true] at B8;rw[nM uF] at ir;rw[nM uF,nN] at fC;generalize os[q]=L at tp fC TD B8 ir;have aFh:=ir L (by simp);simp only[go_sem,qh,rc,rX,sD,qg,tp]
       (refine s.U ?_;simp only[go_sem])
       refine dg ?_ ?_<;>intro fQ<;>simp only[bA] at fQ<;>simp only[go_sem,qh,rc]
       ·rw[if_pos fQ] at fC;obtain⟨cz,b1⟩:=sc (v:=⟨f,L.J⟩) ch uE (by simp only;omega);simp only at b1;have jh:=zY cy f L.J (by omega);have iA:=nd cz;generalize jm cy ⟨f,L.J⟩=r1 at cz b1 jh fC iA
        (refine s.U ?_;simp only[go_sem])
        simp only[go_sem,sD,qg,tp]
        (refine CP [0] (jh) ?_;rintro _ _ ⟨rfl,rfl⟩;simp only[go_sem])
        (refine s.U ?_;simp only[go_sem])
        simp only[go_sem,sD,qg,tp]
        (refine s.U ?_;simp only[go_sem])
        rw[vV]
        (refine s.bw [some 0,some 1] ?_;simp only[go_sem])
        refine s.U ⟨⟨q+1,L.T,r1,by omega,fC,cz,by omega,by omega,fun x ad=>by have:=vU B8.2 x ad;omega,by omega,rfl,rfl⟩,?_⟩;simp only[go_sem];omega
       ·rw[if_neg (show ¬L.J < v.T by omega)] at fC;obtain⟨cz,b1⟩:=sc (v:=⟨f,v.T⟩) ch uE (by simp only;omega);simp only at b1;have jh:=zY cy f v.T (by omega);have iA:=nd cz;generalize jm cy ⟨f,v.T⟩=r1 at cz b1 jh fC iA;rw[fC] at mx
        (refine s.U ?_;simp only[go_sem])
        (refine eY [0] (jh) ?_;rintro _ _ ⟨rfl,rfl⟩;simp only[go_sem])
        (refine s.U ?_;simp only[go_sem])
        rw[cW]
        (refine s.bw [some 0] ?_;simp only[go_sem])
        refine s.U ⟨⟨c+1,m,r1,by omega,by omega,cz,by omega,mx,rfl,rfl⟩,?_⟩;simp only[go_sem];omega
      ·have rX:decide ((q:Int) < os.length)=false:=decide_eq_false (by omega);rw[List.drop_of_length_le TC,nN] at fC;simp only[go_sem,qh,rc,rX]
       (refine s.U ?_;simp only[go_sem])
       obtain⟨cz,b1⟩:=sc (v:=⟨f,v.T⟩) ch uE (by simp only;omega);simp only at b1;have jh:=zY cy f v.T (by omega);have iA:=nd cz;generalize jm cy ⟨f,v.T⟩=r1 at cz b1 jh fC iA;rw[fC] at mx
       (refine s.U ?_;simp only[go_sem])
       (refine eY [0] (jh) ?_;rintro _ _ ⟨rfl,rfl⟩;simp only[go_sem])
       (refine s.U ?_;simp only[go_sem])
       rw[cW]
       (refine s.bw [some 0] ?_;simp only[go_sem])
       refine s.U ⟨⟨c+1,m,r1,by omega,by omega,cz,by omega,mx,rfl,rfl⟩,?_⟩;simp only[go_sem];omega
  ·have uD:c=l.length:=by omega
   subst uD;rw[List.drop_length,lL] at mx
   (refine s.kp [] [0] ?_;simp only[go_sem])
   (refine s.U ?_;simp only[go_sem])
   (refine s.U ?_;simp only[go_sem])
   refine s.U ⟨?_,rfl⟩;rw[mx];rfl
theorem Qe (i:gz):aK prog 142 [.agg (aG.F i)] [] (fun v rs=>v= .int .i64 (lK i)∧rs= []):=by
 refine cr func142 acB (by simp[vD,xQ]) ?_;simp only[go_sem,vD,xQ,yR];refine cg ?_ ?_<;>intro dL<;>simp only[bA] at dL<;>simp only[go_sem,vD,xQ]
 ·exact s.bb rfl ⟨by rw[lK,if_pos (by omega)],rfl⟩
 have Ka:lK i=if i.py∧kW (-1) 0 i.ij=true then 0 else 1:=by rw[lK,if_neg (by omega)]
 have qj: ¬i.py→lK i=1:=fun h=>by rw[Ka,if_neg (fun cJ=>h cJ.1)]
 repeat' ((first|refine gF ?_ ?_|refine gP ?_ ?_|refine cg ?_ ?_|refine dg ?_ ?_)<;>intro ao<;>(have ae:=ao;try simp only[bA] at ae)<;>(first|omega| (simp only[go_sem,ao,vD,xQ];clear ao)))
 any_goals exact s.bb rfl ⟨by rw[qj (by unfold gz.py;omega)],rfl⟩
 all_goals
  have xg:i.py:=by unfold gz.py;omega
  have ahT:lK i=if kW (-1) 0 i.ij=true then 0 else 1:=by rw[Ka];simp[xg]
  refine dR (fun r d=> ∃ (c:Nat) (a m:Int),c≤i.ij.length∧kW (-1) 0 i.ij=kW a m (i.ij.drop c)∧r= [(3,.aW 0 1 0 0),(39,.pure 2 (ac i.ij)),(40,.int .i64 i.ij.length),(41,.int .i64 c)]∧d= [.aa 261 2 [[.int .i64 a,.int .i64 m]]])
   (fun r _=>match bn r 41 with| .int _ j=>(i.ij.length-j).toNat|_=>0) ?_ ?_
  ·(refine s.bw [some 1] ?_;simp only[go_sem])
   exact s.U ⟨0,-1,0,by omega,by simp,rfl,rfl⟩
  ·rintro r d ⟨c,a,m,an,Z,rfl,rfl⟩;simp only[go_sem,vD,xQ];refine cg ?_ ?_<;>intro ck<;>simp only[bA] at ck<;>simp only[go_sem,vD,xQ]
   ·have aC:c < i.ij.length:=by omega
    have nk: (0:Int)≤c:=by omega
    have uC: (c:Int) < i.ij.length:=by omega
    have eI: (ac i.ij).getD c []= [.int .i64 i.ij[c].after,.int .i64 i.ij[c].iD]:=by rw[cQ aC,ahU]
    have aR:=dr (c:=c) (by omega);rw[nM aC,kW] at Z;generalize i.ij[c]=b at eI Z;simp only[go_sem,vD,xQ,nk,uC,eI]
    repeat' ((first|refine gF ?_ ?_|refine gP ?_ ?_|refine cg ?_ ?_|refine dg ?_ ?_)<;>intro ao<;>(have ae:=ao;try simp only[bA] at ae)<;>(first|omega| (simp only[go_sem,ao,vD,xQ,aR];clear ao)))
    any_goals (refine s.bb rfl ⟨?_,rfl⟩;rw[ahT,if_neg];rw[Z];simp only[Bool.and_eq_true,decide_eq_true_eq];omega)
    (refine s.bw [some 0] ?_;simp only[go_sem])
    refine s.U ⟨⟨c+1,b.after,b.iD,by omega,?_,rfl,rfl⟩,?_⟩
    ·rw[Z,decide_eq_true (by omega),Bool.true_and]
    ·simp only[go_sem];omega
   ·have uD:c=i.ij.length:=by omega
    rw[uD,List.drop_length,kW] at Z;exact s.bb rfl ⟨by rw[ahT,if_pos Z],rfl⟩
theorem aFi {w:List bs}(h:0 < w.length):uf w=w[w.length-1].T-w[0].J-cR w:=by
 rw[uf,List.getLast?_eq_getElem?,List.getElem?_eq_getElem (by omega),List.head?_eq_getElem?,List.getElem?_eq_getElem h];rfl
theorem aFj (dc:List lm)(w:List bs)(pd:dc.length≤16)(pe:kW (-1) 0 dc=true)(an:gn w)(ht:cR w≤100000):aK prog 230 [.pure 2 (ac dc),.pure 2 (ac w)] []
 (fun v rs=>v= .pure 2 (ac (if w.isEmpty then [] else pi dc (uf w) w))∧rs= []):=by
 refine hr func230 adU (by simp[xz,zZ]) ?_;simp only[go_sem,xz,zZ]
 repeat (refine s.U ?_;simp only[go_sem])
 have rP:=nd an;have Ex:=Iq an;refine dg ?_ ?_<;>intro dL<;>simp only[bA] at dL<;>simp only[go_sem,xz,zZ]
 ·have:w= []:=List.eq_nil_of_length_eq_zero (by omega);subst this
  (refine s.U ?_;simp only[go_sem])
  exact s.U ⟨by simp[bn],rfl⟩
 have hne:0 < w.length:=by omega
 have To:w.isEmpty=false:=by cases w<;>simp_all
 rw[To];have oe: (0:Int)≤((w.length-1:Nat):Int):=by omega
 have jv: ((w.length-1:Nat):Int) < w.length:=by omega
 have aS: (0:Int) < w.length:=by omega
 have vV:IntKind.i64.wrap ((w.length:Int)-1)=((w.length-1:Nat):Int):=by rw[bf (by omega) (by omega)];omega
 have ahV: (ac w).getD (w.length-1) []= [.int .i64 w[w.length-1].J,.int .i64 w[w.length-1].T]:=by rw[cQ (by omega),eM]
 have vi: (ac w).getD 0 []= [.int .i64 w[0].J,.int .i64 w[0].T]:=by rw[cQ hne,eM]
 have mT:=aFi hne;have mR:=an _ (List.getElem_mem (l:=w) (n:=w.length-1) (by omega));have jJ:=an _ (List.getElem_mem (l:=w) (n:=0) hne);generalize w[w.length-1]=TE at ahV mT mR;generalize w[0]=TF at vi mT jJ;have aFk:IntKind.i64.wrap (TE.T-TF.J)=TE.T-TF.J:=bf (by omega) (by omega);have RO:IntKind.i64.wrap (TE.T-TF.J-cR w)=uf w:=by rw[bf (by omega) (by omega)];omega
 (refine s.U ?_;simp only[go_sem])
 simp only[go_sem,vV,oe,jv,ahV,aS,vi,aFk];refine jd (KG w an (by omega)) rfl rfl ?_;simp only[go_sem,RO];have aI1: -1000000000≤uf w∧uf w≤1000000000:=by omega
 (refine s.U ?_;simp only[go_sem])
 (refine s.U ?_;simp only[go_sem])
 refine gY (fun r d=> ∃ (c:Nat) (tk a m:Int) (u:List bs),c≤dc.length∧pi dc (uf w) w=pi (dc.drop c) tk u∧gn u∧cR u≤100000∧ -1000000000≤tk∧tk≤1000000000∧ -1≤a∧0≤m∧kW a m (dc.drop c)=true∧
  r= [(1,.pure 2 (ac u)),(5,.int .i64 tk),(29,.pure 2 (ac dc)),(30,.int .i64 dc.length),(31,.int .i64 c)]∧d= [])
  (fun r _=>match bn r 31 with| .int _ j=>(dc.length-j).toNat|_=>0) ?_ ?_
 ·exact s.U ⟨0,uf w,-1,0,w,by omega,by simp,an,ht,by omega,by omega,by omega,by omega,by simpa using pe,rfl,rfl⟩
 ·rintro r d ⟨c,tk,a,m,u,jY,he,aZ,At,Ki,Dt,aw,hm,kB,rfl,rfl⟩;have aBf:=nd aZ;have aI2:=Iq aZ;simp only[go_sem,xz,zZ]
  (refine s.U ?_;simp only[go_sem])
  refine dg ?_ ?_<;>intro ck<;>simp only[bA] at ck<;>simp only[go_sem,xz,zZ]
  ·have aC:c < dc.length:=by omega
   have nk: (0:Int)≤c:=by omega
   have uC: (c:Int) < dc.length:=by omega
   have eI: (ac dc).getD c []= [.int .i64 dc[c].after,.int .i64 dc[c].iD]:=by rw[cQ aC,ahU]
   have aR:=dr (c:=c) (by omega);rw[nM aC,kW,Bool.and_eq_true,decide_eq_true_eq] at kB;rw[nM aC,pi] at he;generalize dc[c]=b at eI kB he
   (refine s.U ?_;simp only[go_sem])
   simp only[go_sem,nk,uC,eI]
   (refine s.U ?_;simp only[go_sem])
   refine bH (KG u aZ (by omega)) rfl rfl ?_;simp only[go_sem]
   (refine s.U ?_;simp only[go_sem])
   repeat' ((first|refine gF ?_ ?_|refine gP ?_ ?_|refine cg ?_ ?_|refine dg ?_ ?_)<;>intro ao<;>(have ae:=ao;try simp only[bA] at ae)<;>(first|omega| (simp only[go_sem,ao,xz,zZ];clear ao)))
   ·rw[if_pos (by omega)] at he
    (refine s.U ?_;simp only[go_sem])
    (refine s.U ?_;simp only[go_sem])
    rw[aR]
    (refine s.bw [] ?_;simp only[go_sem])
    refine s.U ⟨⟨c+1,tk,b.after,b.iD,u,by omega,he,aZ,At,by omega,by omega,by omega,by omega,kB.2,rfl,rfl⟩,?_⟩;simp only[go_sem];omega
   ·(refine s.U ?_;simp only[go_sem])
    refine dg ?_ ?_<;>intro fQ<;>simp only[bA] at fQ<;>simp only[go_sem,xz,zZ]
    ·rw[if_pos (by omega)] at he
     (refine s.U ?_;simp only[go_sem])
     rw[aR]
     (refine s.bw [] ?_;simp only[go_sem])
     refine s.U ⟨⟨c+1,tk,b.after,b.iD,u,by omega,he,aZ,At,by omega,by omega,by omega,by omega,kB.2,rfl,rfl⟩,?_⟩;simp only[go_sem];omega
    ·rw[if_neg (by omega)] at he;have Bf:0≤min (b.iD-tk) (cR u-b.after):=by omega
     have kq:min (b.iD-tk) (cR u-b.after)≤1000000:=by omega
     have aFl:IntKind.i64.wrap (b.iD-tk)=b.iD-tk:=bf (by omega) (by omega);have aFm:IntKind.i64.wrap (cR u-b.after)=cR u-b.after:=bf (by omega) (by omega);have aFn:IntKind.i64.wrap (tk+min (b.iD-tk) (cR u-b.after))=tk+min (b.iD-tk) (cR u-b.after):=bf (by omega) (by omega);obtain⟨c1,c2⟩:=Q3 (a:=b.after) (i:= []) Bf aZ (by simp[gn]);have lg:=aE6 u b.after (min (b.iD-tk) (cR u-b.after)) aZ At (by omega) (by omega) Bf kq;generalize cs:min (b.iD-tk) (cR u-b.after)=K at *;generalize aI3:qt u b.after K []=NC at *;simp only[cR] at c2
     (refine s.U ?_;simp only[go_sem])
     simp only[go_sem,aFl,aFm,cs]
     (refine s.U ?_;simp only[go_sem])
     refine bH lg rfl rfl ?_;simp only[go_sem]
     (refine s.U ?_;simp only[go_sem])
     rw[aFn]
     (refine s.U ?_;simp only[go_sem])
     rw[aR]
     (refine s.bw [] ?_;simp only[go_sem])
     refine s.U ⟨⟨c+1,tk+K,b.after,b.iD,NC,by omega,he,c1,by omega,by omega,by omega,by omega,by omega,kB.2,rfl,rfl⟩,?_⟩;simp only[go_sem];omega
  ·have uD:c=dc.length:=by omega
   rw[uD,List.drop_length,pi] at he
   (refine s.U ?_;simp only[go_sem])
   (refine s.U ?_;simp only[go_sem])
   exact s.U ⟨by simp[bn,he],rfl⟩
def ahG:Int→List Stamp→Int
 |b,[]=>b
 |_,E::i=>ahG E.time i
def qZ (l:List Stamp)(t k:Int):Bool:=l.any fun E=>decide (E.time=t)&&decide (E.cH=k)
end Go.Proofs.YtpincjkjoeopkaaGreatDoor.Pr
