/- Events and bands. -/
import Derived.Test.YtpincjkjoeopkaaGreatDoorC26
set_option linter.all false
namespace Go.Proofs.YtpincjkjoeopkaaGreatDoor.Ib
open Go Go.Abs Go.Proofs.Tryz
def gr (b:ByteArray)(m:Int):List jg->List jg
 | []=> [⟨b,m⟩]
 |t::eg=>if ez t.name b then ⟨t.name,t.min+m⟩::eg else t::gr b m eg
def sL (ah:Int)(p:cF):Prop:=p.ah=ah/\iB p.R p.ab
instance (ah:Int) (p:cF):Decidable (sL ah p):=inferInstanceAs (Decidable (p.ah=ah/\iB p.R p.ab))
def jx (ah:Int)(acc:List jg)(p:cF):List jg:=if sL ah p then gr p.ep (p.ab-p.R) acc else acc
def pQ (l:List cF)(ah:Int):List jg:=(l.take 4096).foldl (jx ah) []
def pp (b:ByteArray):List jg->Option Nat
 | []=>none
 |t::eg=>if ez t.name b then some 0 else (pp b eg).map (·+1)
def nl:Nat->List jg->List (F×F)
 |_,[]=> []
 |k,t::eg=>(.str t.name,.int .i64 (k:Nat))::nl (k+1) eg
theorem Nz (a b:ByteArray):ez a b=ez b a:=by unfold ez;rw[aO5]
theorem ahx (a b:ByteArray):fB (.str a) (.str b)=ez b a:=by
 rw[Nz];unfold fB cp ed ez;simp[ed]
theorem ahy (b:ByteArray):∀(k:Nat) (acc:List jg),dm (.str b) (nl k acc)=(pp b acc).map λc=> .int .i64 ((k+c:Nat):Int)
 |_,[]=>rfl
 |k,t::eg=>by
  rw[nl,dm,ahx,pp]
  by_cases h:ez t.name b=true
  ·rw[Rc h,Rc h];simp
  ·rw[S h,S h,ahy b (k+1) eg];cases pp b eg with
   |none=>rfl
   |some c=>simp;omega
theorem ahz (b:ByteArray)(m:Int):∀(k:Nat) (acc:List jg),pp b acc=none->dy (.str b) (.int .i64 ((k+acc.length:Nat):Int)) (nl k acc)=nl k (acc++[⟨b,m⟩])
 |k,[],_=>by simp[nl,dy]
 |k,t::eg,h=>by
  rw[pp] at h
  by_cases d:ez t.name b=true
  ·rw[Rc d] at h;cases h
  ·rw[S d] at h;have G:pp b eg=none:=by cases hh:pp b eg with
    |none=>rfl
    |some c=>rw[hh] at h;simp at h
   have ih:=ahz b m (k+1) eg G;rw[nl,dy,ahx,S d,aLx,nl,<-ih];congr 4;simp only[aK8];omega
theorem TH {b:ByteArray}{m:Int}:∀{acc:List jg},pp b acc=none->gr b m acc=acc++[⟨b,m⟩]
 | [],_=>rfl
 |t::eg,h=>by
  rw[pp] at h
  by_cases d:ez t.name b=true
  ·rw[Rc d] at h;cases h
  ·rw[S d] at h;have G:pp b eg=none:=by cases hh:pp b eg with
    |none=>rfl
    |some c=>rw[hh] at h;simp at h
   rw[gr,S d,TH G,aLx]
theorem TI {b:ByteArray}{m:Int}:∀{acc:List jg} {c:Nat},pp b acc=some c-> ∃h:c<acc.length,gr b m acc=acc.set c ⟨acc[c].name,acc[c].min+m⟩
 | [],_,h=>by cases h
 |t::eg,c,h=>by
  rw[pp] at h
  by_cases d:ez t.name b=true
  ·rw[Rc d] at h;cases h;exact⟨by simp,by rw[gr,Rc d];rfl⟩
  ·rw[S d] at h;cases hh:pp b eg with
   |none=>rw[hh] at h;cases h
   |some j=>
    rw[hh] at h;simp at h;subst h;obtain⟨G,au⟩:=TI (m:=m) hh;exact⟨by simp;omega,by rw[gr,S d,au];rfl⟩
theorem TJ:∀(k:Nat) (acc:List jg) (c:Nat) (h:c<acc.length) (m:Int),nl k (acc.set c ⟨acc[c].name,m⟩)=nl k acc
 |_,[],c,h,_=>by simp at h
 |k,t::eg,0,_,m=>rfl
 |k,t::eg,c+1,h,m=>by
  have:=TJ (k+1) eg c (by simpa using h) m;simp only[aQe,aOk,nl,this]
theorem ahA {l:List cF}{ah:Int}{c:Nat}(h:c<l.length): (l.take (c+1)).foldl (jx ah) []=jx ah ((l.take c).foldl (jx ah) []) l[c]:=by
 rw[aMP,aKS h,aNu,aMc];rfl
theorem ahB {b:ByteArray}{m di:Int}(h0:0<=m):∀{acc:List jg},0<=di->(∀t∈acc,0<=t.min/\t.min<=di)-> ∀t∈gr b m acc,0<=t.min/\t.min<=di+m
 | [],cU,_,t,ht=>by
  simp only[gr,aK2] at ht;subst ht;simp only;omega
 |x::acc,cU,h,t,ht=>by
  rw[gr] at ht;have aj:=h x aLa;split at ht
  ·rcases aKV.1 ht with rfl|ht
   ·simp only;omega
   ·have:=h t (aK1 _ ht);omega
  ·rcases aKV.1 ht with rfl|ht
   ·omega
   ·exact ahB h0 cU (λy bt=>h y (aK1 _ bt)) t ht
theorem ahC (l:List cF)(ah:Int):∀c,c<=l.length->(∀t∈(l.take c).foldl (jx ah) [],0<=t.min/\t.min<=120968640*c)/\((l.take c).foldl (jx ah) []).length<=c
 |0,_=>by simp
 |c+1,h=>by
  obtain⟨d,G⟩:=ahC l ah c (by omega);rw[ahA (by omega)];rw[jx];split
  ·rename_i ak;obtain⟨_,ak⟩:=ak;unfold iB at ak;refine⟨λt ht=> ?_,?_⟩
   ·have:=ahB (b:=l[c].ep) (m:=l[c].ab-l[c].R) (di:=120968640*c) (by omega) (by omega) d t ht;omega
   ·cases aj:pp l[c].ep ((l.take c).foldl (jx ah) []) with
    |none=>rw[TH aj,aKK];simp;omega
    |some j=>obtain⟨_,e⟩:=TI (m:=l[c].ab-l[c].R) aj;rw[e,aLg];omega
  ·exact⟨λt ht=>by have:=d t ht;omega,by omega⟩
theorem NA:∀(k:Nat) (acc:List jg),kh (nl k acc)=true
 |_,[]=>rfl
 |k,t::eg=>by
  have:=NA (k+1) eg;simp only[kh,nl,aKP,bU,bJ,aLw] at this ⊢;exact this
set_option maxHeartbeats 1000000 in
theorem ayB (l:List cF)(oY:l.length<=9223372036854775806)(ah:Int):aO prog 117 [.pure 4 (ai l),.int .i64 ah] [] (λv rs=>v= .own 0 (pQ l ah).length 0 (pQ l ah).length/\rs=[.ag 78 2 (ai (pQ l ah))]):=by
 refine cu func117 adH (by simp[Fq,I5]) ?_;unfold pQ;simp only[go_sem,Fq,I5];have JV: (min (l.length:Int) 4096).toNat=min l.length 4096:=by omega
 rw[JV];refine⟨by omega,by omega,?_⟩;have bF:l.take (min l.length 4096)=l.take 4096:=by
  by_cases h:l.length<=4096
  ·rw[aLZ (by omega),aLZ h]
  ·congr 1;omega
 try simp only[aPn,aNr,aPV]
 rw[bF];have Cu: (l.take 4096).length<=4096:=by rw[aLd];omega
 generalize l.take 4096=X at Cu ⊢
 try simp only[go_sem]
 refine dN (λD r=> ∃c:Nat,c<=X.length/\D=[(1,.int .i64 ah),(5,.own 1 ((X.take c).foldl (jx ah) []).length 0 ((X.take c).foldl (jx ah) []).length),(6,.bE 0),(16,.pure 4 (ai X)),(17,.int .i64 X.length),(18,.int .i64 c)]/\r=[.be (.map false [.str] (nl 0 ((X.take c).foldl (jx ah) []))),.ag 78 2 (ai ((X.take c).foldl (jx ah) []))])
  (λD _=>match bs D 18 with| .int _ j=>(X.length-j).toNat|_=>0) ?_ ?_
 ·(refine E.iv 5 78 2 rfl (E.eW [1,5,6,16,17,18] ?_);simp only[go_sem])
  exact i ⟨0,by omega,rfl,rfl⟩
 rintro D r ⟨c,av,rfl,rfl⟩;have aP:=dB (c:=c) (by omega);simp only[go_sem,Fq,I5];refine cf ?_ ?_<;>intro ct<;>simp only[bC] at ct<;>simp only[go_sem,Fq,I5]
 ·have aI:c<X.length:=by omega
  refine⟨by omega,by omega,?_⟩
  try simp only[aKX]
  rw[cT aI];have hN:=ahA (ah:=ah) aI;obtain⟨so,cK⟩:=ahC X ah c av;generalize X[c]=p at hN ⊢;generalize (X.take c).foldl (jx ah) []=acc at hN so cK ⊢;have AU:∀{FJ:List jg},FJ=jx ah acc p-> ∃FK:Nat,FK<=X.length/\([(1,.int .i64 ah),(5,.own 1 FJ.length 0 FJ.length),(6,.bE 0),(16,.pure 4 (ai X)),(17,.int .i64 X.length),(18,.int .i64 ((c+1:Nat):Int))]:aQ)=[(1,.int .i64 ah),(5,.own 1 ((X.take FK).foldl (jx ah) []).length 0 ((X.take FK).foldl (jx ah) []).length),(6,.bE 0),(16,.pure 4 (ai X)),(17,.int .i64 X.length),(18,.int .i64 FK)]/\([.be (.map false [.str] (nl 0 FJ)),.ag 78 2 (ai FJ)]:List Z)=[.be (.map false [.str] (nl 0 ((X.take FK).foldl (jx ah) []))),.ag 78 2 (ai ((X.take FK).foldl (jx ah) []))]:=by
   intro FJ h;exact⟨c+1,by omega,by rw[hN,<-h],by rw[hN,<-h]⟩
  have gN:=NA 0 acc;simp only[go_sem,Ah]
  by_cases ay:p.ah=ah
  rotate_left
  ·have mS: (p.ah != ah)=true:=by simp[ay]
   simp only[go_sem,mS,aP];refine aMd [some 0,some 1] [] rfl rfl (by simp only[go_sem,gN]<;>rfl) ?_;simp only[go_sem];refine i ⟨AU (by rw[jx,S (λh=>ay h.1)]),?_⟩;simp only[go_sem];omega
  have mS: (p.ah != ah)=false:=by simp[ay]
  simp only[go_sem,mS];refine bM (ahf _ _) rfl rfl ?_
  by_cases an:iB p.R p.ab
  rotate_left
  ·simp only[go_sem,an,aP];refine aMd [some 0,some 1] [] rfl rfl (by simp only[go_sem,gN]<;>rfl) ?_;simp only[go_sem];refine i ⟨AU (by rw[jx,S (λh=>an h.2)]),?_⟩;simp only[go_sem];omega
  have nD:=an;unfold iB at nD;have aDK:jx ah acc p=gr p.ep (p.ab-p.R) acc:=by rw[jx,Rc ⟨ay,an⟩]
  rw[aDK] at AU;have NB:=ahy p.ep 0 acc;cases aj:pp p.ep acc with
  |none=>
   rw[aj] at NB;have FL:=ahz p.ep 0 0 acc aj;rw[aL5] at FL;obtain⟨di,cU⟩:∃di:List jg,di=acc++[⟨p.ep,0⟩]:=⟨_,rfl⟩;have HU:di.length=acc.length+1:=by rw[cU];simp
   have hj:acc.length<di.length:=by omega
   have TK:di[acc.length]=⟨p.ep,0⟩:=by subst cU;simp
   have kI:gr p.ep (p.ab-p.R) acc=di.set acc.length ⟨di[acc.length].name,di[acc.length].min+(p.ab-p.R)⟩:=by
    rw[TH aj,TK];subst cU;simp
   have gy:nl 0 di=nl 0 (gr p.ep (p.ab-p.R) acc):=by rw[kI,TJ]
   have NC:0<=di[acc.length].min/\di[acc.length].min<=120968640*4096:=by rw[TK];simp
   rw[<-cU] at FL;have I6: (ai di).getD acc.length []=[.str di[acc.length].name,.int .i64 di[acc.length].min]:=by rw[cT hj,RU]
   have mc: (ai di).set acc.length [.str di[acc.length].name,.int .i64 (di[acc.length].min+(p.ab-p.R))]=ai (gr p.ep (p.ab-p.R) acc):=by rw[kI];exact xS (x:=jg.mk di[acc.length].name (di[acc.length].min+(p.ab-p.R)))
   have ahD: (gr p.ep (p.ab-p.R) acc).length=di.length:=by rw[kI,aLg]
   have yy:=NA 0 (gr p.ep (p.ab-p.R) acc);simp only[go_sem,an,NB,FL,aDc];refine⟨by omega,?_⟩;rw[<-cU];simp only[go_sem,HU];refine⟨by omega,by omega,?_⟩
   try simp only[aKX]
   simp only[go_sem,I6];rw[bl (x:=p.ab-p.R),bl (x:=di[acc.length].min+(p.ab-p.R)),aP];refine⟨by omega,by omega,by omega,by omega,?_⟩;rw[mc,gy,show acc.length+1=(gr p.ep (p.ab-p.R) acc).length from by omega];refine aMd [some 0,some 1] [] rfl rfl (by simp only[go_sem,yy]<;>rfl) ?_;simp only[go_sem];refine i ⟨AU rfl,?_⟩;simp only[go_sem];omega
  |some j=>
   rw[aj] at NB;obtain⟨hj,kI⟩:=TI (m:=p.ab-p.R) aj;have gy:nl 0 acc=nl 0 (gr p.ep (p.ab-p.R) acc):=by rw[kI,TJ]
   have NC:=so acc[j] (aLc _);have I6: (ai acc).getD j []=[.str acc[j].name,.int .i64 acc[j].min]:=by rw[cT hj,RU]
   have mc: (ai acc).set j [.str acc[j].name,.int .i64 (acc[j].min+(p.ab-p.R))]=ai (gr p.ep (p.ab-p.R) acc):=by rw[kI];exact xS (x:=jg.mk acc[j].name (acc[j].min+(p.ab-p.R)))
   have ahD: (gr p.ep (p.ab-p.R) acc).length=acc.length:=by rw[kI,aLg]
   have yy:=NA 0 (gr p.ep (p.ab-p.R) acc);simp only[go_sem,an,NB];refine⟨by omega,by omega,?_⟩
   try simp only[aKX]
   simp only[go_sem,I6];rw[bl (x:=p.ab-p.R),bl (x:=acc[j].min+(p.ab-p.R)),aP];refine⟨by omega,by omega,?_⟩;rw[mc,gy,show acc.length=(gr p.ep (p.ab-p.R) acc).length from by omega];refine aMd [some 0,some 1] [] rfl rfl (by simp only[go_sem,yy]<;>rfl) ?_;simp only[go_sem];refine i ⟨AU rfl,?_⟩;simp only[go_sem];omega
 ·obtain rfl:c=X.length:=by omega
  rw[aLb]
  (refine E.bB [some 1] ?_;simp only[go_sem])
  exact i ⟨rfl,rfl⟩
end Go.Proofs.YtpincjkjoeopkaaGreatDoor.Ib
namespace Go.Abs
variable [dE]
theorem aO.fX {P:Program}{f:FuncId}{args:List F}{r:List Z}{bh:F->List Z->Prop}(h:aO P f args r (λv rs=>E r.length (λD hs=>bh (bs D 0) hs) [(0,v)] rs)):aO P f args r bh:=by
 intro C dA N aA hG dv;refine (h C dA N aA hG dv).mono ?_;rintro e w' ⟨aZ,v,aB,rfl,aP,d,G,au,bv⟩;obtain⟨fl,hs,nH,aV⟩:=bv;have GT:tl 1 [(0,v)] aB ⟨#[aZ],[]⟩:=by
  refine⟨G,rfl,rfl,λt=> ?_⟩;simp only[bs];split
  ·rename_i ht;subst ht;exact d
  ·simp[Rep]
 obtain⟨ayA,gI,HW,ao,hl⟩:=Kc nH aB rfl GT au;exact⟨aZ,bs fl 0,ayA,rfl,gI.trans aP,ao.jo 0,ao.ok,hl,by rw[HW];exact aV⟩
end Go.Abs
namespace Go.Proofs.YtpincjkjoeopkaaGreatDoor
open Go Go.Abs Go.Proofs.Tryz
theorem awi (l:List Ib.cF)(oY:l.length<=1000000)(ah:Int):aO prog 117 [.pure 4 (ai l),.int .i64 ah] [] (λv rs=>v= .pure 2 (ai (Ib.pQ l ah))/\rs=[]):=by
 refine aO.fX ((Ib.ayB l (by omega) ah).mono ?_);rintro v rs ⟨rfl,rfl⟩;have nL:bW [.ag 78 2 (ai (Ib.pQ l ah))] [] [0] (.own 0 (Ib.pQ l ah).length 0 (Ib.pQ l ah).length)= .pure 2 (ai (Ib.pQ l ah)):=qx rfl rfl rfl (by rw[bT]) ck;refine E.jN [] [0] rfl rfl (by simp only[go_sem]<;>rfl) ?_;simp only[aKP,aLC,nL];exact i ⟨rfl,rfl⟩
end Go.Proofs.YtpincjkjoeopkaaGreatDoor
namespace Go.Proofs.YtpincjkjoeopkaaGreatDoor
open Go Go.Abs Go.Proofs.Tryz
def iO (aa:List Ib.cF):List Int:=aa.foldl (λY p=>ek p.ah Y) []
theorem ZU {aa:List Ib.cF}{c:Nat}(h:c<aa.length):iO (aa.take (c+1))=ek aa[c].ah (iO (aa.take c)):=by
 unfold iO;rw[aLz h,aMc];rfl
theorem H6 {aa:List Ib.cF}:∀{c:Nat},c<=aa.length->(iO (aa.take c)).Nodup/\(iO (aa.take c)).length<=c
 |0,_=>by simp[iO]
 |c+1,h=>by
  obtain⟨d,G⟩:=H6 (aa:=aa) (c:=c) (by omega);rw[ZU (by omega)];refine⟨E4 d,?_⟩;unfold ek;split
  ·omega
  ·simp;omega
def jf (aa:List Ib.cF)(B:Int):List (Int×List F):=(Ib.pQ aa B).map λt=>(B,[.str t.name,.int .i64 t.min])
def jv (aa:List Ib.cF)(aD:List Int):List (Int×List F):=aD.flatMap (jf aa)
theorem RN {R ab:Int}{bw:List Int×(Int->Bool->List (List F))}{aY eO:List (Int×List F)}:eS R ab bw (aY++eO)=eS R ab (eS R ab bw aY) eO:=by unfold eS;rw[aMc]
theorem awb {R ab B:Int}{aa:List Ib.cF}{bw:List Int×(Int->Bool->List (List F))}(h:¬(R<=B/\B<=ab)):eS R ab bw (jf aa B)=bw:=by
 unfold jf eS;generalize Ib.pQ aa B=aW
 induction aW with
 |nil=>rfl
 |cons t aW ih=>
  rw[aKP,aMb];have:nN R ab bw (B,[.str t.name,.int .i64 t.min])=bw:=by unfold nN;rw[S h]
  rw[this];exact ih
def pe (Y:List Int):List (F×F):=de (λ_=> .bool true) Y
theorem ZV {n:Nat}{Y:List Int}:nG n (pe Y)=true:=LQ λ_ _=>rfl
theorem awc {Y:List Int}:zD false [.int .i64] (pe Y):=by
 intro p ak;obtain⟨k,_,rfl⟩:=aKZ.1 ak
 trivial
theorem awd {B:Int}{Y:List Int}(h:Y.Nodup):dy (.int .i64 B) (.bool true) (pe Y)=pe (ek B Y):=EX (f:=λ_=> .bool true) (g:=λ_=> .bool true) (λ_ _=>rfl) h
theorem awe {W:List Z}{I m:Nat}{R ab:Int}{Y:List Int}{bf:Int->Bool->List (List F)}(h0:hQ W I m R ab Y bf){c n lq:Nat}{a b:List Nat}(av:W[c]? =some (.be (.eh n a))):hQ (W.set c (.be (.eh lq b))) I m R ab Y bf:=by
 obtain⟨X,h⟩:=h0;have d:c≠I:=λe=>by rw[e,h.I] at av;cases av
 have G:c≠m:=λe=>by rw[e,h.m] at av;cases av
 refine⟨X,Co h.all rfl,?_,?_,h.HK,h.ea,h.fX,λB k an=> ?_,h.inj⟩
 ·rw[aKQ,S d];exact h.I
 ·rw[aKQ,S G];exact h.m
 ·have aj:=h.x B k an;rw[aKQ,S (λe=>by rw[<-e,av] at aj;cases aj)];exact aj
set_option maxHeartbeats 4000000 in
theorem awf {r:List Z}{I m:Nat}{R ab:Int}{Y:List Int}{bf:Int->Bool->List (List F)}(h0:hQ r I m R ab Y bf)(cU:∀B k,(bf B k).length<=1000)(aa:List Ib.cF)(hl:aa.length<=100000)(hN:∀aD:List Int,aD.Nodup->(∀B∈aD,B∈iO aa)->(jv aa aD).length<=90000):
 aO prog 43 [.bd I 1 0 0,.pure 4 (ai aa)] r
  (λv W=>v= .bo []/\gf r W m/\ ∃aD:List Int,aD.Perm (iO aa)/\hQ W I m R ab (eS R ab (Y,bf) (jv aa aD)).1 (eS R ab (Y,bf) (jv aa aD)).2):=by
 have fF:=km h0.choose_spec.I;have zh:=km h0.choose_spec.m;have hall:=h0.choose_spec.all;refine cu func43 ZW (by simp[qI,rD]) ?_;simp only[go_sem,qI,rD,bT];refine dN (λD W=> ∃c:Nat,c<=aa.length/\D=[(0,.bd I 1 0 0),(1,.pure 4 (ai aa)),(4,.bE r.length),(11,.pure 4 (ai aa)),(12,.int .i64 aa.length),(13,.int .i64 c)]/\W=r++[.be (.map false [.int .i64] (pe (iO (aa.take c))))])
  (λD _=>match bs D 13 with| .int _ j=>(aa.length-j).toNat|_=>0) ?_ ?_
 ·exact i ⟨0,by omega,rfl,rfl⟩
 rintro D W ⟨c,av,rfl,rfl⟩;have aP:=dB (c:=c) (by omega)
 by_cases aI:c<aa.length
 ·have d: (c:Int)<aa.length:=by omega
  have z0: (0:Int)<=c:=by omega
  have aw: (ai aa).getD c []=aJ.J aa[c]:=cT aI;have dV:=ZU aI;have O:=awd (B:=aa[c].ah) (H6 (aa:=aa) (c:=c) av).1;rw[<-dV] at O;generalize aa[c]=p at *;simp only[go_sem,qI,rD,z0,d,aw,Ib.Ah,bT,aKX,aKT,dO,dH,ee,ec,aKK,O,aP,awc];have HE:∀{t:List Z} {K:aQ->List Z->Prop} {x:Z},jc (r.length+1) x=true->E r.length K [(0,.bd I 1 0 0),(1,.pure 4 (ai aa)),(4,.bE r.length),(11,.pure 4 (ai aa)),(12,.int .i64 aa.length),(13,.int .i64 ((c+1:Nat):Int))] (r++[x])->E r.length K [(0,.bd I 1 0 0),(1,.pure 4 (ai aa)),(4,.bE r.length),(11,.pure 4 (ai aa)),(12,.int .i64 aa.length),(13,.int .i64 ((c+1:Nat):Int))] (r++x::t):=λ{t K x} aj ad=>by
   have:=E.drop (t:=t) (by simp) (HF hall aj) (by simp[Ez,dt];omega) ad;simpa using this
  refine HE ZV (i ⟨⟨c+1,by omega,rfl,rfl⟩,?_⟩);simp only[go_sem];omega
 have d:¬(c:Int)<aa.length:=by omega
 obtain rfl:c=aa.length:=by omega
 rw[aLb];simp only[go_sem,qI,rD,d,dH,dO,aKT];clear aP aI d av;obtain⟨RO,RP⟩:=H6 (aa:=aa) (c:=aa.length) (aKM _);rw[aLb] at RO RP;have RQ: (pe (iO aa)).length=(iO aa).length:=by unfold pe de;rw[aLe]
 have ve:∀j,j<(iO aa).length->((pe (iO aa)).getD j (.cj,.cj))=(.int .i64 ((iO aa).getD j 0),.bool true):=λj hj=>by
  unfold pe de;rw[aLn,aLG,aLn,aKS hj];rfl
 have KU:∀j,j<(iO aa).length->(iO aa).getD j 0∈iO aa:=λj hj=>by rw[aLn,aKS hj];exact aLc hj
 have ZX:∀a b,a<(iO aa).length->b<(iO aa).length->(iO aa).getD a 0=(iO aa).getD b 0->a=b:=λa b aC af e=>by
  rw[aLn,aLn,aKS aC,aKS af] at e;exact (aPT RO).1 e
 have va:hQ (r++[.be (.map false [.int .i64] (pe (iO aa))),.be (.eh (pe (iO aa)).length [])]) I m R ab Y bf:=by
  obtain⟨yk,yl⟩:=h0;exact⟨yk,yl.ext (by intro bG hrow;simp only[fR] at hrow;rcases hrow with rfl|rfl;exact ZV;rfl)⟩
 generalize iO aa=gS at *;refine dN (λD W=> ∃bX:List Nat,bX.Nodup/\(∀j∈bX,j<gS.length)/\D=[(0,.bd I 1 0 0),(1,.pure 4 (ai aa)),(22,.fO (r.length+1) r.length)]/\gf r W m/\W[r.length]? =some (.be (.map false [.int .i64] (pe gS)))/\W[r.length+1]? =some (.be (.eh gS.length bX))/\hQ W I m R ab (eS R ab (Y,bf) (jv aa (bX.map λj=>gS.getD j 0))).1 (eS R ab (Y,bf) (jv aa (bX.map λj=>gS.getD j 0))).2)
  (λ_ W=>match W[r.length+1]? with|some (.be (.eh n bX))=>n-bX.length|_=>0) ?_ ?_
 ·rw[show (r++[Z.be (zd.map false [cW.int .i64] (pe gS))]).length=r.length+1 by simp];rw[RQ] at va ⊢;exact i ⟨[],aMQ,by simp,rfl,gf.mh,by rw[dH];rfl,by rw[dO];rfl,va⟩
 rintro D W ⟨bX,qC,H7,rfl,hF,Cn,hX,dc⟩;simp only[go_sem,qI,rD];unfold Pi sa;simp only[Cn,hX];have RR: (bX.map λj=>gS.getD j 0).Nodup:=aMB.2 (qC.imp_of_mem λaC af hne e=>hne (ZX _ _ (H7 _ aC) (H7 _ af) e));have awg:∀B∈bX.map (λj=>gS.getD j 0),B∈gS:=λB ay=>by
  obtain⟨j,hj,rfl⟩:=aKZ.1 ay;exact KU j (H7 j hj)
 refine⟨RQ.symm,by omega,λyj=> ?_,λj hj Mb=> ?_⟩
 ·simp only[go_sem,qI,rD];refine i ⟨rfl,hF,_,(aOC RR RO).2 λB=>⟨awg B,λay=> ?_⟩,dc⟩;obtain⟨j,hj,rfl⟩:=aL9 ay;exact aKZ.2 ⟨j,yj j hj,by rw[aLn,aKS hj];rfl⟩
 have aJM:bX.length+1<=gS.length:=by
  have d: (bX++[j]).Nodup:=aNP.2 ⟨qC,by simp,λa aC b af=>by rw[aK2] at af;subst af;exact λe=>Mb (e▸aC)⟩;have G: (bX++[j]).length<=(List.range gS.length).length:=d.length_le_of_subset λx aj=>by
   rw[aMj];rcases aK3.1 aj with aj|aj
   ·exact H7 x aj
   ·rw[aK2] at aj;omega
  simpa using G
 have H8: (bX++[j]).Nodup:=aNP.2 ⟨qC,by simp,λa aC b af=>by rw[aK2] at af;subst af;exact λe=>Mb (e▸aC)⟩;have Mc:∀q∈bX++[j],q<gS.length:=λq aV=>by
  rcases aK3.1 aV with aV|aV
  ·exact H7 q aV
  ·rw[aK2] at aV;omega
 have awh:=km hX;have E5: (W.set (r.length+1) (.be (.eh gS.length (bX++[j]))))[r.length]? =some (.be (.map false [.int .i64] (pe gS))):=by rw[aKQ,S (by omega)];exact Cn
 have vW: (W.set (r.length+1) (.be (.eh gS.length (bX++[j]))))[r.length+1]? =some (.be (.eh gS.length (bX++[j]))):=by rw[aKQ,Rc rfl,Rc awh]
 have Ai:=awe (lq:=gS.length) (b:=bX++[j]) dc hX;have Cw:gf r (W.set (r.length+1) (.be (.eh gS.length (bX++[j])))) m:=⟨by rw[aLg];exact hF.1,λz bG d G au=>by rw[aKQ,S (by have:=km d;omega)];exact hF.2 z bG d G au⟩;have dV:jv aa ((bX++[j]).map λj=>gS.getD j 0)=jv aa (bX.map λj=>gS.getD j 0)++jf aa (gS.getD j 0):=by unfold jv;rw[aLU,aMS];simp
 have nK:=hN ((bX++[j]).map λj=>gS.getD j 0) (aMB.2 (H8.imp_of_mem λaC af hne e=>hne (ZX _ _ (Mc _ aC) (Mc _ af) e))) (λB ay=>by
  obtain⟨q,aV,rfl⟩:=aKZ.1 ay;exact KU q (Mc q aV))
 have cK:=Cx (R:=R) (ab:=ab) (jv aa (bX.map λj=>gS.getD j 0)) (Y,bf) 1000 cU;rw[dV,aKK] at nK;rw[ve j hj];simp only[go_sem,qI,rD];generalize W.set (r.length+1) (.be (.eh gS.length (bX++[j])))=hx at *;generalize cn:eS R ab (Y,bf) (jv aa (bX.map λj=>gS.getD j 0))=bw at *;obtain⟨rB,im⟩:=bw;simp only at cK Ai;unfold Ku;simp only[vW,E5,List.getLastD_concat];refine⟨RQ.symm,by simp,hj,?_⟩;rw[ve j hj];generalize gS.getD j 0=ah at *;have lo:=Ai.choose_spec.I;simp only[go_sem,qI,rD,lo];have mX:∀(gg:List Z),gf r gg m->gg[r.length]? =some (.be (.map false [.int .i64] (pe gS)))->gg[r.length+1]? =some (.be (.eh gS.length (bX++[j])))->hQ gg I m R ab (eS R ab (rB,im) (jf aa ah)).1 (eS R ab (rB,im) (jf aa ah)).2->
  (∃bX:List Nat,bX.Nodup/\(∀j∈bX,j<gS.length)/\([(0,.bd I 1 0 0),(1,.pure 4 (ai aa)),(22,.fO (r.length+1) r.length)]:aQ)=[(0,.bd I 1 0 0),(1,.pure 4 (ai aa)),(22,.fO (r.length+1) r.length)]/\gf r gg m/\gg[r.length]? =some (.be (.map false [.int .i64] (pe gS)))/\gg[r.length+1]? =some (.be (.eh gS.length bX))/\hQ gg I m R ab (eS R ab (Y,bf) (jv aa (bX.map λj=>gS.getD j 0))).1 (eS R ab (Y,bf) (jv aa (bX.map λj=>gS.getD j 0))).2):=λgg a b J B=>
  ⟨bX++[j],H8,Mc,rfl,a,b,J,by rw[dV,RN,cn];exact B⟩
 have RS:∀gg:List Z,gg[r.length+1]? =some (.be (.eh gS.length (bX++[j])))->(match gg[r.length+1]? with|some (.be (.eh n bX))=>n-bX.length|_=>0)<gS.length-bX.length:=λgg h=>by
  rw[h];simp only[aKK,aL6];omega
 by_cases N:R<=ah/\ah<=ab
 rotate_left
 ·have Md:eS R ab (rB,im) (jf aa ah)=(rB,im):=awb N;have jt:hQ hx I m R ab (eS R ab (rB,im) (jf aa ah)).1 (eS R ab (rB,im) (jf aa ah)).2:=by rw[Md];exact Ai
  by_cases aLA:ah<R
  ·have aKY:decide (ah<R)=true:=aLf aLA;simp only[go_sem,qI,rD,aKY];refine E.eW [0,1,22] ?_;simp only[go_sem];exact i ⟨mX hx Cw E5 vW jt,RS hx vW⟩
  ·have aKY:decide (ah<R)=false:=aLh aLA;have eQ:decide (ab<ah)=true:=aLv;simp only[go_sem,qI,rD,aKY,eQ,lo];refine E.eW [0,1,22] ?_;simp only[go_sem];exact i ⟨mX hx Cw E5 vW jt,RS hx vW⟩
 have aKY:decide (ah<R)=false:=aK7;have eQ:decide (ab<ah)=false:=aK7;simp only[go_sem,qI,rD,aKY,eQ,lo];refine bM (awi aa (by omega) ah) (by simp only[bU,bJ,ck,aK4,aK0]) (by simp only[bJ,ck]) ?_;obtain⟨aW,RT⟩:∃aW,aW=Ib.pQ aa ah:=⟨_,rfl⟩;rw[<-RT];have aJN: (jf aa ah).length=aW.length:=by unfold jf;rw[aLe,RT]
 have awj:∀q (h:q<aW.length),(jf aa ah)[q]'(by omega)=(ah,[.str aW[q].name,.int .i64 aW[q].min]):=λq h=>by subst RT;unfold jf;rw[aPg]
 simp only[go_sem,bT];refine dN (λD W=> ∃q:Nat,q<=aW.length/\D=[(0,.bd I 1 0 0),(1,.pure 4 (ai aa)),(7,.int .i64 ah),(22,.fO (r.length+1) r.length),(43,.pure 2 (ai aW)),(44,.int .i64 aW.length),(45,.int .i64 q)]/\gf r W m/\W[r.length]? =some (.be (.map false [.int .i64] (pe gS)))/\W[r.length+1]? =some (.be (.eh gS.length (bX++[j])))/\hQ W I m R ab (eS R ab (rB,im) ((jf aa ah).take q)).1 (eS R ab (rB,im) ((jf aa ah).take q)).2)
  (λD _=>match bs D 45 with| .int _ j=>(aW.length-j).toNat|_=>0) ?_ ?_
 ·exact i ⟨0,by omega,rfl,Cw,E5,vW,Ai⟩
 rintro D gg ⟨q,aV,rfl,pO,ZY,BJ,jt⟩;have aP:=dB (c:=q) (by omega)
 by_cases aI:q<aW.length
 rotate_left
 ·have d:¬(q:Int)<aW.length:=by omega
  obtain rfl:q=aW.length:=by omega
  rw[aLZ (by omega)] at jt;simp only[go_sem,qI,rD,d];refine E.eW [0,1,22] ?_;simp only[go_sem];exact i ⟨mX gg pO ZY BJ jt,RS gg BJ⟩
 have d: (q:Int)<aW.length:=by omega
 have z0: (0:Int)<=q:=by omega
 have aw: (ai aW).getD q []=aJ.J aW[q]:=cT aI;have ZZ:=Z0 (R:=R) (ab:=ab) (bw:=(rB,im)) (aY:=jf aa ah) (c:=q) (by omega);rw[awj q aI] at ZZ;have awk:=Cx (R:=R) (ab:=ab) ((jf aa ah).take q) (rB,im) 91000 (λB k=>aLk (cK B k) (by omega));have aJO: ((jf aa ah).take q).length<=90000:=by rw[aLd];omega
 generalize aW[q]=x at *;have wC:hQ (gg++[.ag 78 2 [[.str x.name,.int .i64 x.min]]]) I m R ab (eS R ab (rB,im) ((jf aa ah).take q)).1 (eS R ab (rB,im) ((jf aa ah).take q)).2:=by
  obtain⟨yk,yl⟩:=jt;exact⟨yk,yl.ext (by intro bG hrow;rw[aK2] at hrow;subst hrow;exact kA rfl)⟩
 simp only[go_sem,qI,rD,z0,d,aw,Ib.RU,bT,aKX,aKT,dO,dH,ee,ec,aKK];refine uV wC.choose_spec.all (by
  have au:=km wC.choose_spec.I;simp only[gx,dt,au,aNx,aK0]) (Q8 wC (λB k=>aLk (awk B k) (by omega)) ah x.name x.min) ?_
 rintro _ W' ⟨rfl,Aj,Cy⟩;refine⟨Aj.1,?_⟩;simp only[go_sem,aP];have Gk:r.length≠m:=by omega
 have awl:r.length+1≠m:=by omega
 refine i ⟨⟨q+1,by omega,rfl,pO.trans (gf.mh.trans Aj),Aj.2 _ _ (bQ ZY) Gk (λk am e=>by cases e),Aj.2 _ _ (bQ BJ) awl (λk am e=>by cases e),?_⟩,?_⟩
 ·rw[ZZ];unfold nN;simp only;rw[Rc N] at Cy ⊢;exact Cy
 ·simp only[go_sem];omega
theorem Aq {R ab B:Int}:∀(aY:List (Int×List F)) (bw:List Int×(Int->Bool->List (List F))),
 (eS R ab bw aY).2 B false=bw.2 B false++(if R<=B/\B<=ab then (aY.filter λx=>decide (x.1=B)).map (·.2) else [])/\(eS R ab bw aY).2 B true=bw.2 B true/\
 (B∈(eS R ab bw aY).1↔B∈bw.1\/(R<=B/\B<=ab/\ ∃x∈aY,x.1=B))
 | [],bw=>by simp[eS]
 |x::aY,bw=>by
  have e:eS R ab bw (x::aY)=eS R ab (nN R ab bw x) aY:=rfl;obtain⟨d,G,au⟩:=Aq (R:=R) (ab:=ab) (B:=B) aY (nN R ab bw x);rw[e,d,G,au];unfold nN
  by_cases J:R<=x.1/\x.1<=ab
  ·rw[Rc J]
   by_cases ay:x.1=B
   ·have N:R<=B/\B<=ab:=ay▸J;rw[aOb (by simp[ay]),Rc N,Rc N];refine⟨by simp[gR,ay],by simp[gR],?_⟩;simp only[CO];constructor
    ·intro _;exact .inr ⟨N.1,N.2,x,aLa,ay⟩
    ·intro _;exact .inl (.inl ay.symm)
   ·rw[aNQ (by simp[ay])];refine⟨by simp[gR];intro e;exact absurd e.symm ay,by simp[gR],?_⟩;simp only[CO];constructor
    ·rintro ((h|h)|⟨a,b,y,bt,h⟩)
     ·exact absurd h.symm ay
     ·exact .inl h
     ·exact .inr ⟨a,b,y,aK1 _ bt,h⟩
    ·rintro (h|⟨a,b,y,bt,h⟩)
     ·exact .inl (.inr h)
     ·rcases aKV.1 bt with rfl|bt
      ·exact absurd h ay
      ·exact .inr ⟨a,b,y,bt,h⟩
  ·rw[S J]
   by_cases ay:x.1=B
   ·have N:¬(R<=B/\B<=ab):=ay▸J;refine⟨by rw[S N,S N],rfl,?_⟩;constructor
    ·rintro (h|⟨a,b,_⟩)
     ·exact .inl h
     ·exact absurd ⟨a,b⟩ N
    ·rintro (h|⟨a,b,_⟩)
     ·exact .inl h
     ·exact absurd ⟨a,b⟩ N
   ·rw[aNQ (by simp[ay])];refine⟨rfl,rfl,?_⟩;constructor
    ·rintro (h|⟨a,b,y,bt,h⟩)
     ·exact .inl h
     ·exact .inr ⟨a,b,y,aK1 _ bt,h⟩
    ·rintro (h|⟨a,b,y,bt,h⟩)
     ·exact .inl h
     ·rcases aKV.1 bt with rfl|bt
      ·exact absurd h ay
      ·exact .inr ⟨a,b,y,bt,h⟩
def Fb (M:cc)(B:Int)(a:Pr.kn):Bool:=decide (ot M a.time=0/\mm M a.time=B)
def abY (a:Pr.kn):List F:=[.int .i64 a.cB,.int .i64 a.time]
theorem Ap {M:cc}{R ab B:Int}:∀(aY:List Pr.kn) (bw:List Int×(Int->Bool->List (List F))),
 (kY M R ab bw aY).2 B true=bw.2 B true++(if R<=B/\B<=ab then (aY.filter (Fb M B)).map abY else [])/\(kY M R ab bw aY).2 B false=bw.2 B false/\
 (B∈(kY M R ab bw aY).1↔B∈bw.1\/(R<=B/\B<=ab/\ ∃x∈aY,Fb M B x=true))
 | [],bw=>by simp[kY]
 |x::aY,bw=>by
  have e:kY M R ab bw (x::aY)=kY M R ab (qF M R ab bw x) aY:=rfl;obtain⟨d,G,au⟩:=Ap (M:=M) (R:=R) (ab:=ab) (B:=B) aY (qF M R ab bw x);rw[e,d,G,au];unfold qF
  by_cases ay:Fb M B x=true
  ·have mS:=ay;unfold Fb at mS;simp only[aKN] at mS;rw[aOb ay]
   by_cases N:R<=B/\B<=ab
   ·rw[Rc ⟨mS.1,by rw[mS.2];exact N⟩,Rc N,Rc N,mS.2];refine⟨by simp[gR,abY],by simp[gR],?_⟩;simp only[CO];constructor
    ·intro _;exact .inr ⟨N.1,N.2,x,aLa,ay⟩
    ·intro _;exact .inl (.inl trivial)
   ·rw[S (λh=>N (by rw[mS.2] at h;exact h.2)),S N,S N];refine⟨rfl,rfl,?_⟩;constructor
    ·rintro (h|⟨a,b,_⟩)
     ·exact .inl h
     ·exact absurd ⟨a,b⟩ N
    ·rintro (h|⟨a,b,_⟩)
     ·exact .inl h
     ·exact absurd ⟨a,b⟩ N
  ·rw[aNQ (by simpa using ay)];have key: (B∈(if ot M x.time=0/\R<=mm M x.time/\mm M x.time<=ab then (ek (mm M x.time) bw.1,gR bw.2 (mm M x.time) true [.int .i64 x.cB,.int .i64 x.time]) else bw).1↔B∈bw.1)/\ ∀k,(if ot M x.time=0/\R<=mm M x.time/\mm M x.time<=ab then (ek (mm M x.time) bw.1,gR bw.2 (mm M x.time) true [.int .i64 x.cB,.int .i64 x.time]) else bw).2 B k=bw.2 B k:=by
    split
    ·rename_i J;have hne:mm M x.time≠B:=λe=>ay (by unfold Fb;simp[J.1,e]);refine⟨?_,λk=> ?_⟩
     ·simp only[CO];constructor
      ·rintro (h|h)
       ·exact absurd h.symm hne
       ·exact h
      ·exact .inr
     ·simp only[gR];rw[S (λh=>hne h.1.symm)]
    ·exact⟨Iff.rfl,λ_=>rfl⟩
   rw[key.2,key.2,key.1];refine⟨rfl,rfl,?_⟩;constructor
   ·rintro (h|⟨a,b,y,bt,h⟩)
    ·exact .inl h
    ·exact .inr ⟨a,b,y,aK1 _ bt,h⟩
   ·rintro (h|⟨a,b,y,bt,h⟩)
    ·exact .inl h
    ·rcases aKV.1 bt with rfl|bt
     ·exact absurd h ay
     ·exact .inr ⟨a,b,y,bt,h⟩
def rH (Rd:cv->Int)(aY:List cv):List (Int×List F):=(aY.filter λk=>decide (0<Rd k)).map λk=>(k.B,[.str k.n,.int .i64 (Rd k)])
theorem aaV {Rd:cv->Int}{R ab:Int}:∀(aY:List cv) (Y:List Int) (bf:Int->Bool->List (List F)),sx Rd R ab Y bf aY=eS R ab (Y,bf) (rH Rd aY)
 | [],Y,bf=>rfl
 |k::aY,Y,bf=>by
  have e:sx Rd R ab Y bf (k::aY)=sx Rd R ab (wz Rd R ab (Y,bf) k).1 (wz Rd R ab (Y,bf) k).2 aY:=rfl;rw[e,aaV];unfold rH
  by_cases ao:0<Rd k
  ·rw[aOb (by simp[ao]),aKP];have bK:eS R ab (Y,bf) ((k.B,[.str k.n,.int .i64 (Rd k)])::(aY.filter λk=>decide (0<Rd k)).map λk=>(k.B,[.str k.n,.int .i64 (Rd k)]))=eS R ab (nN R ab (Y,bf) (k.B,[.str k.n,.int .i64 (Rd k)])) ((aY.filter λk=>decide (0<Rd k)).map λk=>(k.B,[.str k.n,.int .i64 (Rd k)])):=rfl;rw[bK];congr 1;unfold wz nN
   by_cases J:R<=k.B/\k.B<=ab
   ·rw[Rc ⟨ao,J⟩,Rc J]
   ·rw[S (λh=>J h.2),S J]
  ·rw[aNQ (by simp[ao])];congr 1;unfold wz;rw[S (λh=>ao h.1)]
def Si (v:Pr.bx):Ib.bx:=⟨v.R,v.ab⟩
def aat (w:wE):Ib.fv:=⟨w.ah,w.gM.map Si⟩
theorem awG (l:List Pr.bx):ai (l.map Si)=ai l:=by unfold ai;rw[aLr];rfl
theorem awH (l:List wE):ai (l.map aat)=ai l:=by
 unfold ai;rw[aLr];refine aMy λw _=> ?_;show [F.int .i64 w.ah,.pure 2 (ai (w.gM.map Si))]=[.int .i64 w.ah,.pure 2 (ai w.gM)];rw[awG]
def tV (p:Ib.cF):Pm.cF:=⟨p.ah,p.R,p.ab,p.ep⟩
theorem awI (l:List Ib.cF):ai (l.map tV)=ai l:=by unfold ai;rw[aLr];rfl
open Classical in
noncomputable def Ao (al:List Ib.fv):List Ib.ga:=if h:∃Rd:List Ib.ga,Rd.Perm (Ib.gU al)/\Ib.sE Rd then Classical.choose h else []
theorem aau {al:List Ib.fv}(dp:Ib.ew al=0){Rd:List Ib.ga}(d:Rd.Perm (Ib.gU al))(G:Ib.sE Rd):Rd=Ao al:=by
 have h:∃Rd:List Ib.ga,Rd.Perm (Ib.gU al)/\Ib.sE Rd:=⟨Rd,d,G⟩;unfold Ao;rw[aN0 h];obtain⟨bO,cd⟩:=aOy h;refine (d.trans bO.symm).eq_of_pairwise (λa b aC af au bv=> ?_) G cd;have an:=(Ib.Ii (Ib.Ij dp).2.2.1 a (d.mem_iff.1 aC)).1;have aP:=(Ib.Ii (Ib.Ij dp).2.2.1 b (bO.mem_iff.1 af)).1;unfold Ib.iB at an aP;omega
noncomputable def CH (aF:Ib.ib)(al:List Ib.fv):List Ib.cF:=(Ib.run aF (Ib.kE (Ao al))).aa
theorem awJ (aF:Ib.ib)(dc:Ib.lA aF=0)(al:List Ib.fv)(hl:al.length<=1000000):aO prog 41 [aF.v,.pure 2 (ai al)] []
 (λv rs=>(if Ib.ew al=0 then v= .bo [.pure 4 (ai (CH aF al)),.int .i64 0] else v= .bo [.bH,.int .i64 (Ib.ew al)])/\rs=[]):=by
 refine aO.fX ((Ib.awK aF al (by omega)).mono ?_);rintro v rs (⟨h,_⟩|⟨_,h,rfl,rfl⟩|⟨_,h,Rd,d,G,rfl,rfl⟩)
 ·exact absurd dc h
 ·exact i ⟨by rw[S h];rfl,rfl⟩
 ·have e:Ib.run aF (Ib.kE Rd)=Ib.run aF (Ib.kE (Ao al)):=by rw[aau h d G]
  have bK: (Ib.run aF (Ib.kE Rd)).aa=CH aF al:=by rw[e];rfl
  rw[bK];generalize CH aF al=q;have nL:bW [.ag 221 4 (ai q)] [] [0] (.bo [.own 0 q.length 0 q.length,.int .i64 0])= .bo [.pure 4 (ai q),.int .i64 0]:=by
   have:bW [.ag 221 4 (ai q)] [] [0] (.own 0 q.length 0 q.length)= .pure 4 (ai q):=qx rfl rfl rfl (by rw[bT]) ck;rw[bW];simp only[dT,this];rfl
  refine E.jN [] [0] rfl rfl (by simp only[go_sem]<;>rfl) ?_;simp only[aKP,aLC,nL];exact i ⟨by rw[Rc h];rfl,rfl⟩
theorem awL (M:cc)(h:List Pm.cX)(hl:h.length<=1000000)(al:List Pm.dP)(sF:al.length<=1000000)(aa:List Pm.cF)(gy:aa.length<=1000000):aO prog 42 [M.v,.pure 6 (ai h),.pure 7 (ai al),.pure 4 (ai aa)] []
 (λv rs=>(if Pm.vh M h al aa=0 then v= .bo [.pure 3 (ai (Pm.tW M h al aa)),.int .i64 0] else v= .bo [.bH,.int .i64 (Pm.vh M h al aa)])/\rs=[]):=by
 refine aO.fX ((Pm.awM M h (by omega) al sF aa gy).mono ?_);intro v rs aV
 by_cases dp:Pm.vh M h al aa=0
 ·rw[Rc dp] at aV;obtain⟨rfl,rfl⟩:=aV;generalize Pm.tW M h al aa=q;have nL:bW [.ag 136 3 (ai q)] [] [0] (.bo [.own 0 q.length 0 q.length,.int .i64 0])= .bo [.pure 3 (ai q),.int .i64 0]:=by
   have:bW [.ag 136 3 (ai q)] [] [0] (.own 0 q.length 0 q.length)= .pure 3 (ai q):=qx rfl rfl rfl (by rw[bT]) ck;rw[bW];simp only[dT,this];rfl
  refine E.jN [] [0] rfl rfl (by simp only[go_sem]<;>rfl) ?_;simp only[aKP,aLC,nL];exact i ⟨by rw[Rc dp];rfl,rfl⟩
 ·rw[S dp] at aV;obtain⟨rfl,rfl⟩:=aV;exact i ⟨by rw[S dp];rfl,rfl⟩
theorem aav {b:ByteArray}{m:Int}:∀{acc:List Ib.jg},(Ib.gr b m acc).length<=acc.length+1
 | []=>aKM _
 |t::eg=>by
  have:=aav (b:=b) (m:=m) (acc:=eg);unfold Ib.gr;split
  ·simp
  ·simpa using this
def pS (B:Int)(p:Ib.cF):Bool:=decide (p.ah=B)
theorem aaw (B:Int):∀(q:List Ib.cF) (acc:List Ib.jg),(q.foldl (Ib.jx B) acc).length<=acc.length+(q.filter (pS B)).length
 | [],acc=>by simp
 |p::q,acc=>by
  rw[aMb];have ih:=aaw B q (Ib.jx B acc p)
  by_cases ak:p.ah=B
  ·rw[aOb (by simp[pS,ak]),aK8];have: (Ib.jx B acc p).length<=acc.length+1:=by
    unfold Ib.jx;split
    ·exact aav
    ·omega
   omega
  ·rw[aNQ (by simp[pS,ak])];have:Ib.jx B acc p=acc:=by
    unfold Ib.jx;rw[S (λh=>ak h.1)]
   rw[this] at ih ⊢;exact ih
theorem aax (l:List Ib.cF)(B:Int): (Ib.pQ l B).length<=(l.filter (pS B)).length:=by
 unfold Ib.pQ;have d:=aaw B (l.take 4096) [];have G:=((List.take_sublist 4096 l).filter (pS B)).length_le;simp only[aLQ,aL5] at d;omega
theorem aay (B:Int):∀l:List Ib.cF,l.length=(l.filter (pS B)).length+(l.filter λp=> !pS B p).length
 | []=>rfl
 |p::l=>by
  have ih:=aay B l
  by_cases ak:pS B p=true
  ·rw[aOb ak,aNQ (by simp[ak]),aK8,aK8];omega
  ·rw[aNQ ak,aOb (by simpa using ak),aK8,aK8];omega
theorem aaz:∀{aD:List Int} {l:List Ib.cF},aD.Nodup->(aD.map λB=>(l.filter (pS B)).length).sum<=l.length
 | [],l,_=>by simp
 |B::aD,l,h=>by
  rw[aNv] at h;have ih:=aaz (aD:=aD) (l:=l.filter λp=> !pS B p) h.2;have e: (aD.map λe=>(l.filter (pS e)).length)=aD.map λe=>((l.filter λp=> !pS B p).filter (pS e)).length:=aMy λe he=>by
   rw[List.filter_filter];congr 1;refine List.filter_congr λp _=> ?_;unfold pS
   by_cases ak:p.ah=e
   ·have:¬e=B:=λx=>h.1 (x▸he);simp[ak,this]
   ·simp[ak]
  have hl:=aay B l;rw[aKP,aMf,e];omega
theorem aaA {aa:List Ib.cF}{aD:List Int}(h:aD.Nodup): (jv aa aD).length<=aa.length:=by
 refine aLk ?_ (aaz (aD:=aD) (l:=aa) h);unfold jv;rw[List.length_flatMap];clear h
 induction aD with
 |nil=>simp
 |cons B aD ih=>
  rw[aKP,aKP,aMf,aMf];have: (jf aa B).length<=(aa.filter (pS B)).length:=by unfold jf;rw[aLe];exact aax aa B
  omega
theorem aaB {M:cc}{h:List Pm.cX}{al:List Pm.dP}{aa:List Pm.cF}{B:Int}:∀{n:Nat},(Pm.ox M h al aa B n).length<=n
 |0=>aKM _
 |n+1=>by
  have:=aaB (M:=M) (h:=h) (al:=al) (aa:=aa) (B:=B) (n:=n);unfold Pm.ox;rw[aKK];split<;>simp<;>omega
theorem aaC {aa:List Pm.cF}:∀{c:Nat},c<=aa.length->(Pm.gt (aa.take c)).length<=c
 |0,_=>by simp[Pm.gt]
 |c+1,h=>by
  have:=aaC (aa:=aa) (c:=c) (by omega);rw[Pm.aaD (by omega)];unfold Pm.ek;split
  ·omega
  ·simp;omega
theorem aaE {M:cc}{h:List Pm.cX}{al:List Pm.dP}{aa:List Pm.cF}(aP:al.length<=16): (Pm.tW M h al aa).length<=16*aa.length:=by
 unfold Pm.tW;have d:=aaC (aa:=aa) (c:=aa.length) (aKM _);rw[aLb] at d;have G: (fq (Pm.gt aa)).length<=aa.length:=by rw[zY];exact d
 refine aLk ?_ (Nat.mul_le_mul_left 16 G);rw[List.length_flatMap];generalize fq (Pm.gt aa)=fj;clear d G
 induction fj with
 |nil=>simp
 |cons B fj ih=>
  rw[aKP,aMf,aK8];have:=aaB (M:=M) (h:=h) (al:=al) (aa:=aa) (B:=B) (n:=al.length);omega
theorem aaF {z:eD}{ae:List cw}{ds:List eX}:∀{c:Nat},c<=ds.length->(nc z ae (ds.take c)).1.length<=c
 |0,_=>by simp[nc]
 |c+1,h=>by
  have:=aaF (z:=z) (ae:=ae) (ds:=ds) (c:=c) (by omega);rw[aaG (by omega)];unfold Mq;split
  ·omega
  ·rw[aKK,aL6];omega
theorem aaH {z:eD}{ae:List cw}{l:List Ib.Ev}{n:Int}(h:rE z ae l n=0):qL z=0/\jd z.M ae=0/\Ib.cL l=0/\(nc z ae (tX z ae l n)).1.length<=1024/\(Pr.tY (kZ l n) z.fz).length<=1024:=by
 unfold rE at h;split at h
 ·omega
 split at h
 ·omega
 split at h
 ·omega
 split at h
 ·omega
 rename_i d G au bv;obtain⟨_,Ad,_,_,_⟩:=Mr (show qL z=0 by omega);have ak:Pr.lb (kZ l n) z.fz=0:=by omega
 have Ik: (kZ l n).length<=1024/\Pr.qM 0 (kZ l n)=true:=by
  have:=ak;unfold Pr.lb at this;split at this
  ·omega
  split at this
  ·omega
  split at this
  ·exact⟨by omega,by assumption⟩
  ·omega
 obtain⟨_,H1,_,EC⟩:=Pr.aaI (aY:=kZ l n) (n:=z.fz) Ik.2 Ik.1 (by unfold rF at Ad;omega) (by unfold rF at Ad;omega);have ay:=(H0 (M:=z.M) (ae:=ae) (e:=z.er) (l:=z.ex) (aa:=Pr.nQ (kZ l n) z.fz) (c:=(Pr.nQ (kZ l n) z.fz).length) (aKM _)).1;rw[aLb] at ay;have sF:=aaF (z:=z) (ae:=ae) (ds:=tX z ae l n) (c:=(tX z ae l n).length) (aKM _);rw[aLb] at sF;have he:tX z ae l n=mY z.M ae z.er z.ex (Pr.nQ (kZ l n) z.fz):=rfl;rw[he] at sF ⊢;exact⟨by omega,by omega,by omega,by omega,by omega⟩
noncomputable def pf (z:eD)(ae:List cw)(l:List Ib.Ev)(n:Int):List Ib.fv:=(nc z ae (tX z ae l n)).1.map aat
noncomputable def fT (z:eD)(ae:List cw)(l:List Ib.Ev)(n:Int):List Ib.cF:=CH z.ia (pf z ae l n)
noncomputable def lB (z:eD)(ae:List cw)(l:List Ib.Ev)(n:Int):List Pm.Pm:=Pm.tW z.M z.ao z.al ((fT z ae l n).map tV)
noncomputable def rG (z:eD)(ae:List cw)(l:List Ib.Ev)(n:Int):Int:=if rE z ae l n≠0 then rE z ae l n else if Ib.ew (pf z ae l n)≠0 then Ib.ew (pf z ae l n) else Pm.vh z.M z.ao z.al ((fT z ae l n).map tV)
noncomputable def pT (z:eD)(ae:List cw)(l:List Ib.Ev)(aq:List eH)(n R ab:Int)(aD:List Int)(K:List cv):List Int×(Int->Bool->List (List F)):=
 kY z.M R ab (eS R ab ([],λ_ _=> []) (jv (fT z ae l n) aD++ko (lB z ae l n)++rH (eb ae n aq) K)) (Pr.tY (kZ l n) z.fz)
theorem aaJ {R ab:Int}:∀(aY:List (Int×List F)) (bw:List Int×(Int->Bool->List (List F))),(eS R ab bw aY).1.length<=bw.1.length+aY.length
 | [],bw=>aKM _
 |x::aY,bw=>by
  have h:=aaJ (R:=R) (ab:=ab) aY (nN R ab bw x);have e:eS R ab bw (x::aY)=eS R ab (nN R ab bw x) aY:=rfl;have G: (nN R ab bw x).1.length<=bw.1.length+1:=by
   unfold nN;split
   ·simp only;unfold ek;split<;>simp
   ·omega
  rw[e,aK8];omega
theorem aaK {M:cc}{R ab:Int}:∀(aY:List Pr.kn) (bw:List Int×(Int->Bool->List (List F))),(kY M R ab bw aY).1.length<=bw.1.length+aY.length
 | [],bw=>aKM _
 |x::aY,bw=>by
  have h:=aaK (M:=M) (R:=R) (ab:=ab) aY (qF M R ab bw x);have e:kY M R ab bw (x::aY)=kY M R ab (qF M R ab bw x) aY:=rfl;have G: (qF M R ab bw x).1.length<=bw.1.length+1:=by
   unfold qF;split
   ·simp only;unfold ek;split<;>simp
   ·omega
  rw[e,aK8];omega
theorem awO {al:List Ib.fv}(dp:Ib.ew al=0): (Ao al).Perm (Ib.gU al)/\Ib.sE (Ao al):=by
 obtain⟨_,_,nd,awP,_⟩:=Ib.Ij dp;have qE:=Ib.Ii nd;have ak: ((Ib.gU al).mergeSort λx y=>decide (x.R<=y.R)).Perm (Ib.gU al):=aN7 _ _;have ao:=aOz (le:=λx y:Ib.ga=>decide (x.R<=y.R)) (λa b J d G=>by simp only[aKN] at *;omega) (λa b=>by simp only[aLP,aKN];omega) (Ib.gU al);generalize (Ib.gU al).mergeSort (λx y=>decide (x.R<=y.R))=Rd at *;have ay:Rd.Pairwise Ib.pg:=(ak.pairwise_iff (λh=>Or.symm h)).2 awP;have aC:Ib.sE Rd:=(ao.and ay).imp_of_mem λ{x y} aj bt h=>by
  have a:=(qE x (ak.mem_iff.1 aj)).1;have b:=(qE y (ak.mem_iff.1 bt)).1;have d:=h.1;have G:=h.2;simp only[aKN] at d;unfold Ib.pg at G;unfold Ib.iB at a b;omega
 rw[<-aau dp ak aC];exact⟨ak,aC⟩
theorem Il {a b:List Ib.ga}(h:a.Perm b):Ib.hz a=Ib.hz b:=by
 induction h with
 |nil=>rfl
 |cons x _ ih=>rw[Ib.hz,Ib.hz,ih]
 |swap x y l=>simp only[Ib.hz];omega
 |trans _ _ GD DC=>rw[GD,DC]
theorem awQ {aF:Ib.ib}{al:List Ib.fv}(dp:Ib.ew al=0): (CH aF al).length<=100000:=by
 obtain⟨d,G⟩:=awO dp;obtain⟨_,_,nd,_,aJQ⟩:=Ib.Ij dp;have au:=(Ib.aaL aF (Ib.kE (Ao al))).2.2;have bv:=Ib.Sj (Rd:=Ao al) λI ao=>(Ib.Ii nd I (d.mem_iff.1 ao)).1;rw[Il d] at bv;unfold CH;omega
set_option maxHeartbeats 4000000 in
theorem awR (z:eD)(hh:z.ao.length<=1000000)(aP:z.al.length<=1000000)(ae:List cw)(gy:ae.length<=1000000)(l:List Ib.Ev)(hl:l.length<=1000000)(aq:List eH)
 (hV:∀a∈aq,aO prog 40 [.agg (aJ.J a)] [] (λv rs=>v= .bool true/\rs=[])) (aA:∀a∈aq,Cl a) (ki:∀a∈aq,(Lit.int .i64 a.ah).wf=true/\a.name.size<=maxLen) (n R ab:Int) (dp:E9 aq R ab=0):
 aO prog 11 [.agg z.J,.pure 3 (ai ae),.pure 7 (ai l),.pure 4 (ai aq),.int .i64 n,.int .i64 R,.int .i64 ab] []
  (λv rs=>(if rG z ae l n=0 then ∃(aD:List Int) (K:List cv),aD.Perm (iO (fT z ae l n))/\K.Perm (gJ n aq)/\K.Pairwise pN/\v= .bo [.pure 3 ((fq (pT z ae l aq n R ab aD K).1).map (pU (pT z ae l aq n R ab aD K).2)),.int .i64 0] else v= .bo [.bH,.int .i64 (rG z ae l n)])/\rs=[]):=by
 have Ms:=awS z hh aP ae gy l hl n;have zk:aq.length<=1024/\(0<=R/\R<=84005)/\(0<=ab/\ab<=84005)/\R<=ab:=by
  unfold E9 at dp;split at dp
  ·omega
  split at dp
  ·omega
  split at dp
  ·omega
  ·omega
 refine cu func11 aaM (by simp[qN,pj]) ?_;unfold eD.J at *;simp only[go_sem,qN,pj,bT];unfold rG
 by_cases d:rE z ae l n=0
 rotate_left
 ·simp only[S d] at Ms;refine bM Ms (by simp only[bU,bJ,ck,aK4,aK0]) rfl ?_;have aKY: (rE z ae l n != 0)=true:=by simp[d]
  simp only[go_sem,qN,pj,aKY];exact aKG rfl ⟨by rw[Rc d,S d],rfl⟩
 simp only[Rc d] at Ms;obtain⟨nD,gl,E1,sF,LW⟩:=aaH d;obtain⟨_,_,_,LI,kD⟩:=Mr nD;refine bM Ms (by simp only[bU,bJ,ck,aK4,aK0]) (by simp only[bU,bJ,ck,aK4,aK0]) ?_;rw[S (show ¬rE z ae l n≠0 by omega)];have c1:decide ((1024:Int)<aq.length)=false:=aK7;simp only[go_sem,c1,bT,qN,pj];generalize hA:Pr.tY (kZ l n) z.fz=A at *;have awT:ai (nc z ae (tX z ae l n)).1=ai (pf z ae l n):=by unfold pf;rw[awH]
 have Mt: (pf z ae l n).length<=1024:=by unfold pf;rw[aLe];exact sF
 rw[awT];have Fa:=awJ z.ia LI (pf z ae l n) (by omega);have awU:CH z.ia (pf z ae l n)=fT z ae l n:=rfl;rw[awU] at Fa;unfold Ib.ib.v at Fa;refine dN (λD r=> ∃c:Nat,c<=aq.length/\D=[(1,.pure 3 (ai ae)),(3,.pure 4 (ai aq)),(4,.int .i64 n),(5,.int .i64 R),(6,.int .i64 ab),(7,.bd 0 1 0 0),(16,.pure 2 (ai (pf z ae l n))),(17,.pure 2 (ai A)),(42,.pure 4 (ai aq)),(43,.int .i64 aq.length),(44,.int .i64 c)]/\r=[.ag 42 14 [[.int .i64 z.M.off,.pure 2 (ai z.M.cS),.int .i64 z.fz,.int .i64 z.er,.int .i64 z.ex,.int .i64 z.dK.eI,.int .i64 z.dK.lw,.int .i64 z.dK.lP,.pure 2 (ai z.dK.iA),.str z.ia.ef,.pure 2 (ai z.ia.eN),.pure 2 (ai z.ia.gL),.pure 7 (ai z.al),.pure 6 (ai z.ao)]]])
  (λD _=>match bs D 44 with| .int _ j=>(aq.length-j).toNat|_=>0) ?_ ?_
 ·exact i ⟨0,by omega,rfl,rfl⟩
 rintro D r ⟨c,av,rfl,rfl⟩;have fK:=dB (c:=c) (by omega)
 by_cases aI:c<aq.length
 ·have d:decide ((c:Int)<aq.length)=true:=aLv;have tM: (0:Int)<=c:=by omega
  have tN: (c:Int)<aq.length:=by omega
  have nM: (ai aq).getD c []=aJ.J aq[c]:=cT aI;simp only[go_sem,qN,pj,d,tM,tN,nM,bT,QV];refine bM (hV aq[c] (aLc aI)) rfl rfl ?_;simp only[go_sem,fK];refine E.drop (r:=[.ag 42 14 [[.int .i64 z.M.off,.pure 2 (ai z.M.cS),.int .i64 z.fz,.int .i64 z.er,.int .i64 z.ex,.int .i64 z.dK.eI,.int .i64 z.dK.lw,.int .i64 z.dK.lP,.pure 2 (ai z.dK.iA),.str z.ia.ef,.pure 2 (ai z.ia.eN),.pure 2 (ai z.ia.gL),.pure 7 (ai z.al),.pure 6 (ai z.ao)]]]) (t:=[_]) (by simp) (by
   intro q bG N
   match q,N with
   |0,N=>cases N;exact kA (by simp only[dY,bU,bJ,ck,aK4,aK0])
   |q+1,N=>simp at N) (by simp[Ez,dt]) ?_
  refine i ⟨⟨c+1,by omega,rfl,rfl⟩,?_⟩;simp only[go_sem];omega
 have ii:decide ((c:Int)<aq.length)=false:=aK7;simp only[go_sem,qN,pj,ii];clear aI ii fK av;have aaN:decide (R<0)=false:=aK7;have aaO:decide ((84005:Int)<R)=false:=aK7;have aaP:decide (ab<0)=false:=aK7;have aaQ:decide ((84005:Int)<ab)=false:=aK7;have aaR:decide (ab<R)=false:=aK7;simp only[go_sem,aaN,aaO,aaP,aaQ,aaR,qN,pj];clear aaN aaO aaP aaQ aaR
 by_cases G:Ib.ew (pf z ae l n)=0
 rotate_left
 ·simp only[S G] at Fa;refine bM Fa (by simp only[bU,bJ,ck,aK4,aK0]) rfl ?_;have eQ: (Ib.ew (pf z ae l n) != 0)=true:=by simp[G]
  simp only[go_sem,qN,pj,eQ];exact aKG rfl ⟨by rw[Rc G,S G],rfl⟩
 simp only[Rc G] at Fa;rw[S (show ¬Ib.ew (pf z ae l n)≠0 by omega)];refine bM Fa (by simp only[bU,bJ,ck,aK4,aK0]) (by simp only[bU,bJ,ck,aK4,aK0]) ?_;simp only[go_sem,qN,pj];have aJR: (fT z ae l n).length<=100000:=awQ G;have CI:=awL z.M z.ao hh z.al aP ((fT z ae l n).map tV) (by rw[aLe];omega);rw[awI] at CI;unfold cc.v at CI;have Mu:Pm.tW z.M z.ao z.al ((fT z ae l n).map tV)=lB z ae l n:=rfl;rw[Mu] at CI
 by_cases au:Pm.vh z.M z.ao z.al ((fT z ae l n).map tV)=0
 rotate_left
 ·simp only[S au] at CI;refine bM CI (by simp only[bU,bJ,ck,aK4,aK0]) rfl ?_;have eF: (Pm.vh z.M z.ao z.al ((fT z ae l n).map tV) != 0)=true:=by simp[au]
  simp only[go_sem,qN,pj,eF];exact aKG rfl ⟨by rw[S au],rfl⟩
 simp only[Rc au] at CI;have awV: (fT z ae l n).length<=4096/\(lB z ae l n).length<=65536:=by
  have bv:=au;unfold Pm.vh at bv;rw[Rc kD] at bv;have cx: ((fT z ae l n).map tV).length<=4096:=by
   unfold Pm.vi at bv;split at bv
   ·cases bv
   ·omega
  obtain⟨_,_,Sk,_⟩:=Pm.Sl kD;have dx:=aaE (M:=z.M) (h:=z.ao) (aa:=(fT z ae l n).map tV) Sk;rw[Mu] at dx;rw[aLe] at cx dx;omega
 refine bM CI (by simp only[bU,bJ,ck,aK4,aK0]) (by simp only[bU,bJ,ck,aK4,aK0]) ?_;simp only[Rc au];simp only[go_sem,qN,pj];have uB:hQ [.ag 42 14 [[.int .i64 z.M.off,.pure 2 (ai z.M.cS),.int .i64 z.fz,.int .i64 z.er,.int .i64 z.ex,.int .i64 z.dK.eI,.int .i64 z.dK.lw,.int .i64 z.dK.lP,.pure 2 (ai z.dK.iA),.str z.ia.ef,.pure 2 (ai z.ia.eN),.pure 2 (ai z.ia.gL),.pure 7 (ai z.al),.pure 6 (ai z.ao)]],Z.be (zd.map false [cW.int .i64] []),.ag 118 3 [[.int .i64 R,.int .i64 ab,.bE 1]]] 2 1 R ab [] (λ_ _=> []):=by
  refine⟨λ_ _=>0,⟨?_,rfl,rfl,aMQ,λ_ _ h=>absurd rfl h,λ_ _=>rfl,λ_ _ h=>absurd rfl h,λ_ _ _ _ h=>absurd rfl h⟩⟩;intro q bG N
  match q,N with
  |0,N=>cases N;exact kA (by simp only[dY,bU,bJ,ck,aK4,aK0])
  |1,N=>cases N;rfl
  |2,N=>cases N;rfl
  |q+3,N=>simp at N
 have Im:=H6 (aa:=fT z ae l n) (c:=(fT z ae l n).length) (aKM _);rw[aLb] at Im;refine uV uB.choose_spec.all (by simp only[gx,dt,aK0];rfl) (awf uB (λ_ _=>by simp) (fT z ae l n) (by omega) (λaD RR _=>by have:=aaA (aa:=fT z ae l n) RR;omega)) ?_;rintro _ hx ⟨rfl,Cw,aD,fC,Ai⟩;refine⟨by have:=Cw.1;simpa using this,?_⟩;simp only[go_sem];have aJS:=aaA (aa:=fT z ae l n) (fC.nodup_iff.2 Im.1);have jK:=Cx (R:=R) (ab:=ab) (jv (fT z ae l n) aD) ([],λ_ _=> []) 0 (λ_ _=>aKM _);have aaS:2<hx.length:=by have:=Cw.1;simp at this;omega
 refine uV Ai.choose_spec.all (by simp only[gx,dt,aK0];simpa using aaS) (awW Ai (λB k=>aLk (jK B k) (by omega)) (lB z ae l n) (by omega)) ?_;rintro _ gg ⟨rfl,pO,jt⟩;refine⟨pO.1,?_⟩;simp only[go_sem];rw[<-RN] at jt;have aaT: (ko (lB z ae l n)).length=(lB z ae l n).length:=by unfold ko;rw[aLe]
 have lp:=Cx (R:=R) (ab:=ab) (jv (fT z ae l n) aD++ko (lB z ae l n)) ([],λ_ _=> []) 0 (λ_ _=>aKM _);rw[aKK,aaT] at lp;have aaU:2<gg.length:=aLI aaS pO.1;refine uV jt.choose_spec.all (by simp only[gx,dt,aK0];simpa using aaU) (avc jt (λB k=>aLk (lp B k) (by omega)) ae gy aq (by omega) (λa aC=>⟨aA a aC,ki a aC⟩) n) ?_;rintro _ tH ⟨rfl,Aj,K,sz,rC,Cy⟩;refine⟨Aj.1,?_⟩;rw[aaV] at Cy;have aaW:hQ tH 2 1 R ab (eS R ab ([],λ_ _=> []) (jv (fT z ae l n) aD++ko (lB z ae l n)++rH (eb ae n aq) K)).1 (eS R ab ([],λ_ _=> []) (jv (fT z ae l n) aD++ko (lB z ae l n)++rH (eb ae n aq) K)).2:=by
  rw[RN];exact Cy
 simp only[go_sem];have awX:=Cw.trans (pO.trans Aj);have E6:tH[0]? =some (.ag 42 14 [[.int .i64 z.M.off,.pure 2 (ai z.M.cS),.int .i64 z.fz,.int .i64 z.er,.int .i64 z.ex,.int .i64 z.dK.eI,.int .i64 z.dK.lw,.int .i64 z.dK.lP,.pure 2 (ai z.dK.iA),.str z.ia.ef,.pure 2 (ai z.ia.eN),.pure 2 (ai z.ia.gL),.pure 7 (ai z.al),.pure 6 (ai z.ao)]]):=awX.2 0 _ rfl (by decide) (λk am e=>by cases k<;>simp[tE] at e);simp only[go_sem,E6];have aJT: (rH (eb ae n aq) K).length<=1024:=by
  unfold rH;rw[aLe];have d:=aNw (λk=>decide (0<eb ae n aq k)) K;have G:=sz.length_eq;have au:=Q0 n aq;omega
 have sm:=Cx (R:=R) (ab:=ab) (jv (fT z ae l n) aD++ko (lB z ae l n)++rH (eb ae n aq) K) ([],λ_ _=> []) 0 (λ_ _=>aKM _);have aJU: (jv (fT z ae l n) aD++ko (lB z ae l n)++rH (eb ae n aq) K).length<=80000:=by
  rw[aKK,aKK,aaT];omega
 have awY:2<tH.length:=aLI aaU Aj.1;have aaX:=avq aaW (λB k=>aLk (sm B k) (by omega)) z.M A (by omega);unfold cc.v at aaX;have cn:pT z ae l aq n R ab aD K=kY z.M R ab (eS R ab ([],λ_ _=> []) (jv (fT z ae l n) aD++ko (lB z ae l n)++rH (eb ae n aq) K)) A:=by unfold pT;rw[hA]
 have gh:∀B∈(pT z ae l aq n R ab aD K).1,0<=B/\B<=84005:=λB ay=>by
  rw[cn,(Ap A _).2.2,(Aq _ _).2.2] at ay;rcases ay with (h|h)|h
  ·cases h
  ·omega
  ·omega
 have gO: (pT z ae l aq n R ab aD K).1.length<=1000000:=by
  rw[cn];have aKH:=aaK (M:=z.M) (R:=R) (ab:=ab) A (eS R ab ([],λ_ _=> []) (jv (fT z ae l n) aD++ko (lB z ae l n)++rH (eb ae n aq) K));have bR:=aaJ (R:=R) (ab:=ab) (jv (fT z ae l n) aD++ko (lB z ae l n)++rH (eb ae n aq) K) ([],λ_ _=> []);simp only[aLQ] at bR;omega
 refine uV aaW.choose_spec.all (by simp only[gx,dt,Lk (.pure 2 (ai z.M.cS)) (by simp only[bJ,ck]),Lk (.pure 2 (ai A)) (by simp only[bJ,ck]),aK0];simpa using awY) aaX ?_;rintro _ W ⟨rfl,awZ,Sm⟩;refine⟨awZ.1,?_⟩;rw[<-cn] at Sm;obtain⟨bw,aaY⟩:∃bw,bw=pT z ae l aq n R ab aD K:=⟨_,rfl⟩;rw[<-aaY] at Sm gh gO;obtain⟨X,eZ⟩:=Sm;have Sn:=eZ.all;have K2:=eZ.I;have axa:=eZ.m;have Mt:2<W.length:=km K2;simp only[go_sem,K2];refine uV Sn (by simp only[gx,dt,aK0];simp;omega) aaZ ?_;rintro _ rs ⟨rfl,xN⟩;rw[xN];refine⟨by simp,?_⟩;clear xN rs;simp only[go_sem];have LZ:∀x∈bw.1,(Lit.int .i64 x).wf=true:=λx aj=>by
  have:=gh x aj;have bF:IntKind.i64.min= -9223372036854775808:=rfl;have bK:IntKind.i64.max=9223372036854775807:=rfl;simp only[Lit.wf,bF,bK];simp;omega
 obtain⟨Y,bf⟩:=bw;simp only at eZ gO LZ gh;have yj:jP (W++[.ag 116 1 [[.bE 1]]]):=HF Sn (by simp[jc,mj,gx,dt];omega);refine uV yj (by simp[gx,dt]) (aba (a:=1) (b:=W.length) (ents:=de (nI X bf) Y) (Y:=Y) (bQ axa) (by rw[dH];rfl) (by simp[de]) eZ.HK LZ gO) ?_;rintro _ rs ⟨rfl,xN⟩;rw[xN];refine⟨by simp,?_⟩;clear xN rs;simp only[go_sem,mV];have abb: (fq Y).Perm Y:=by unfold fq;exact aN7 Y _
 have axb: (fq Y).length<=1000000:=by rw[abb.length_eq];exact gO
 have So:∀B∈fq Y,B∈Y:=λB ay=>abb.mem_iff.1 ay;generalize axc:fq Y=fj at *;refine dN (λD r=> ∃c:Nat,c<=fj.length/\D=[(23,.bd 0 1 0 0),(24,.own 2 c 0 c),(112,.pure 1 (cJ .i64 fj)),(113,.int .i64 fj.length),(114,.int .i64 c)]/\r=[.ag 118 3 [[.int .i64 R,.int .i64 ab,.bE 1]],.be (.map false [.int .i64] (de (Ar bf) Y)),.ag 76 3 ((fj.take c).map (pU bf))])
  (λD _=>match bs D 114 with| .int _ j=>(fj.length-j).toNat|_=>0) ?_ ?_
 ·refine E.drop (by omega) Sn (by simp[Ez,dt];omega) ?_;refine E.jN [some 2,some 1] (List.range W.length) rfl rfl (axd eZ) ?_;have axe:bW W [some 2,some 1] (List.range W.length) (.bd 2 1 0 0)= .bd 0 1 0 0:=by simp[bW,hE]
  simp only[aKP,aLC,axe,tv _ (show bJ F.bH=true from rfl),tv _ (show bJ (.pure 1 (cJ .i64 fj))=true by simp only[bJ,DZ]),tv _ (show bJ (.int .i64 fj.length)=true from rfl),tv _ (show bJ (.int .i64 0)=true from rfl)]
  (refine E.iv 24 76 3 rfl (E.eW [23,24,112,113,114] ?_);simp only[go_sem])
  exact i ⟨0,by omega,rfl,rfl⟩
 rintro D r ⟨c,av,rfl,rfl⟩;have aP:=dB (c:=c) (by omega)
 by_cases aI:c<fj.length
 ·have d:decide ((c:Int)<fj.length)=true:=aLv;have tM: (0:Int)<=c:=by omega
  have tN: (c:Int)<fj.length:=by omega
  have nM: (cJ .i64 fj).getD c []=[.int .i64 fj[c]]:=by rw[tw aI,aLn,aKS aI,aMW]
  have hw:dm (.int .i64 fj[c]) (de (Ar bf) Y)=some (.agg [.int .i64 fj[c],pk bf fj[c] false,pk bf fj[c] true]):=by rw[EW,Rc (So _ (aLc aI))];rfl
  have Bx:Abs.cV (pk bf fj[c] false)=true:=abc;have iK:Abs.cV (pk bf fj[c] true)=true:=abc;have qC: (fj.take c).map (pU bf)++[[.int .i64 fj[c],pk bf fj[c] false,pk bf fj[c] true]]=(fj.take (c+1)).map (pU bf):=by
   rw[aLz aI,aLU];rfl
  simp only[go_sem,qN,pj,d,tM,tN,nM,mV,hw,aP,Bx,iK];refine⟨by simp;omega,by omega,?_⟩;rw[qC];have axf:jP [.ag 118 3 [[.int .i64 R,.int .i64 ab,.bE 1]],.be (.map false [.int .i64] (de (Ar bf) Y)),.ag 76 3 ((fj.take (c+1)).map (pU bf))]:=by
   intro z bG N
   match z,N with
   |0,N=>cases N;rfl
   |1,N=>cases N;exact LQ λB _=>Lk _ (by unfold Ar;simp only[bJ,bU,abd eZ.fX,aK4])
   |2,N=>cases N;exact kA (Sp eZ.fX)
   |z+3,N=>simp at N
  refine E.drop (r:=[_,_,_]) (t:=[_]) (by simp) axf (by simp[Ez,dt]) ?_;refine i ⟨⟨c+1,by omega,rfl,rfl⟩,?_⟩;simp only[go_sem];omega
 have d:decide ((c:Int)<fj.length)=false:=aK7;simp only[go_sem,qN,pj,d];obtain rfl:c=fj.length:=by omega
 rw[aLb];have abe:dY (fj.map (pU bf))=true:=Sp eZ.fX;have nL:∀r0 aKO:Z,bW [r0,aKO,.ag 76 3 (fj.map (pU bf))] [] [2] (.own 2 fj.length 0 fj.length)= .pure 3 (fj.map (pU bf)):=λr0 aKO=>qx rfl rfl rfl (by simp) abe;have yx:∀r0 aKO:Z,bW [r0,aKO,.ag 76 3 (fj.map (pU bf))] [] [2] (.bo [.own 2 fj.length 0 fj.length,.int .i64 0])= .bo [.pure 3 (fj.map (pU bf)),.int .i64 0]:=λr0 aKO=>by
  rw[bW];simp only[dT,nL];rfl
 refine E.jN [] [2] rfl rfl (by simp only[go_sem]<;>rfl) ?_;have nF:List.take fj.length (fj.map (pU bf))=fj.map (pU bf):=aLZ (by simp);simp only[go_sem,yx,aLe,abe,nF];exact i ⟨⟨aD,K,fC,sz,rC,by rw[<-aaY];show _=F.bo [.pure 3 ((fq Y).map (pU bf)),.int .i64 0];rw[axc];rfl⟩,rfl⟩
noncomputable def ne (z:eD)(ae:List cw)(l:List Ib.Ev)(aq:List eH)(n B:Int):List nb:=
 (if decide (B∈iO (fT z ae l n)) then (Ib.pQ (fT z ae l n) B).map λt=>⟨t.name,t.min⟩ else [])++((lB z ae l n).filter λp=>decide (p.ah=B)).map (λp=>⟨p.name,p.min⟩)++An (nP ae n B aq)
noncomputable def sG (z:eD)(l:List Ib.Ev)(n B:Int):List kn:=((Pr.tY (kZ l n) z.fz).filter (Fb z.M B)).map λa=>⟨a.cB,a.time⟩
noncomputable def pl (z:eD)(ae:List cw)(l:List Ib.Ev)(aq:List eH)(n B:Int):Option CK:=
 if (ne z ae l aq n B).length+(sG z l n B).length=0 then none else some ⟨B,ne z ae l aq n B,sG z l n B⟩
noncomputable def jp (z:eD)(ae:List cw)(l:List Ib.Ev)(aq:List eH)(n R ab:Int):List CK:=((List.range (ab-R+1).toNat).map λ(j:Nat)=>R+(j:Int)).filterMap (pl z ae l aq n)
theorem abl {aa:List Ib.cF}{B:Int}:∀{aD:List Int},aD.Nodup->((jv aa aD).filter λx=>decide (x.1=B)).map (·.2)=if decide (B∈aD) then (Ib.pQ aa B).map λt=> [F.str t.name,.int .i64 t.min] else []
 | [],_=>by simp[jv]
 |e::aD,h=>by
  rw[aNv] at h;have ih:=abl (aa:=aa) (B:=B) h.2;have bF:jv aa (e::aD)=jf aa e++jv aa aD:=rfl;rw[bF,aOA,aLU,ih]
  by_cases he:e=B
  ·subst he;have es: (jf aa e).filter (λx=>decide (x.1=e))=jf aa e:=List.filter_eq_self.2 λx aj=>by
    unfold jf at aj;obtain⟨t,_,rfl⟩:=aKZ.1 aj;simp
   rw[es,S (by simpa using h.1),Rc (by simp),aLY];unfold jf;rw[aLr];rfl
  ·have es: (jf aa e).filter (λx=>decide (x.1=B))=[]:=aP9.2 λx aj=>by
    unfold jf at aj;obtain⟨t,_,rfl⟩:=aKZ.1 aj;simpa using he
   rw[es,aLC,aLV];have: (B∈e::aD)↔B∈aD:=by
    rw[aKV];exact⟨λh=>h.resolve_left λx=>he x.symm,.inr⟩
   simp only[this]
theorem abi {z:eD}{ae:List cw}{l:List Ib.Ev}{aq:List eH}{n R ab:Int}{aD:List Int}{K:List cv}(fC:aD.Perm (iO (fT z ae l n)))(sz:K.Perm (gJ n aq))(rC:K.Pairwise pN){B:Int}(ay:R<=B/\B<=ab):
 (pT z ae l aq n R ab aD K).2 B false=ai (ne z ae l aq n B):=by
 have Im:=H6 (aa:=fT z ae l n) (c:=(fT z ae l n).length) (aKM _);rw[aLb] at Im;unfold pT ne;rw[(Ap _ _).2.1,(Aq _ _).1,Rc ay,aLV,aOA,aOA,aLU,aLU,abl (fC.nodup_iff.2 Im.1)];have iI: (B∈aD)↔B∈iO (fT z ae l n):=fC.mem_iff;simp only[iI];have bF: ((ko (lB z ae l n)).filter λx=>decide (x.1=B)).map (·.2)=ai (((lB z ae l n).filter λp=>decide (p.ah=B)).map λp=>(⟨p.name,p.min⟩:nb)):=by
  unfold ko ai;rw[List.filter_map,aLr,aLr];rfl
 have bK: ((rH (eb ae n aq) K).filter λx=>decide (x.1=B)).map (·.2)=ai (An (nP ae n B aq)):=by
  rw[awE (B:=B) sz rC];unfold rH CF ai;rw[List.filter_map,aLr,aLr,List.filter_filter];have gX: (K.filter λk=>((λx:Int×List F=>decide (x.1=B))∘λk:cv=>(k.B,[F.str k.n,.int .i64 (eb ae n aq k)])) k&&decide (0<eb ae n aq k))=K.filter λk=>decide (k.B=B/\0<eb ae n aq k):=List.filter_congr λk _=>by simp[Function.comp]
  rw[gX];rfl
 rw[bF,bK];unfold ai;rw[aLU,aLU];congr 2;split
 ·rw[aLr];rfl
 ·rfl
theorem abj {z:eD}{ae:List cw}{l:List Ib.Ev}{aq:List eH}{n R ab:Int}{aD:List Int}{K:List cv}{B:Int}(ay:R<=B/\B<=ab):
 (pT z ae l aq n R ab aD K).2 B true=ai (sG z l n B):=by
 unfold pT sG ai;rw[(Ap _ _).1,(Aq _ _).2.1,Rc ay,aLV,aLr];rfl
theorem abf {R ab:Int}:∀(aY:List (Int×List F)) (bw:List Int×(Int->Bool->List (List F))),bw.1.Nodup->(eS R ab bw aY).1.Nodup
 | [],bw,h=>h
 |x::aY,bw,h=>by
  have e:eS R ab bw (x::aY)=eS R ab (nN R ab bw x) aY:=rfl;rw[e];refine abf aY _ ?_;unfold nN;split
  ·exact E4 h
  ·exact h
theorem abg {M:cc}{R ab:Int}:∀(aY:List Pr.kn) (bw:List Int×(Int->Bool->List (List F))),bw.1.Nodup->(kY M R ab bw aY).1.Nodup
 | [],bw,h=>h
 |x::aY,bw,h=>by
  have e:kY M R ab bw (x::aY)=kY M R ab (qF M R ab bw x) aY:=rfl;rw[e];refine abg aY _ ?_;unfold qF;split
  ·exact E4 h
  ·exact h
def CJ (R ab:Int):List Int:=(List.range (ab-R+1).toNat).map λ(j:Nat)=>R+(j:Int)
theorem abh {R ab B:Int}:B∈CJ R ab↔R<=B/\B<=ab:=by
 unfold CJ;rw[aKZ];constructor
 ·rintro⟨j,hj,rfl⟩;rw[aMj] at hj;omega
 ·rintro⟨d,G⟩;exact⟨(B-R).toNat,by rw[aMj];omega,by omega⟩
theorem axg (R ab:Int): (CJ R ab).Pairwise (·< ·):=by
 unfold CJ;rw[aMB];exact List.pairwise_lt_range.imp λh=>by omega
theorem axh {z:eD}{ae:List cw}{l:List Ib.Ev}{aq:List eH}{n R ab:Int}{aD:List Int}{K:List cv}(fC:aD.Perm (iO (fT z ae l n)))(sz:K.Perm (gJ n aq))(rC:K.Pairwise pN){B:Int}:
 B∈(pT z ae l aq n R ab aD K).1↔(R<=B/\B<=ab)/\(pl z ae l aq n B).isSome=true:=by
 have se: (pl z ae l aq n B).isSome=true↔0<(ne z ae l aq n B).length\/0<(sG z l n B).length:=by
  unfold pl;split
  ·exact⟨λh=>(by cases h),λh=>by omega⟩
  ·exact⟨λ_=>by omega,λ_=>rfl⟩
 rw[se]
 by_cases ay:R<=B/\B<=ab
 ·have d:=aKI List.length (abi (R:=R) (ab:=ab) fC sz rC ay);have G:=aKI List.length (abj (z:=z) (ae:=ae) (l:=l) (aq:=aq) (n:=n) (R:=R) (ab:=ab) (aD:=aD) (K:=K) ay);rw[bT] at d G;unfold pT at d G ⊢;rw[(Ap _ _).2.1,(Aq _ _).1,Rc ay,aLV,aLe] at d;rw[(Ap _ _).1,(Aq _ _).2.1,Rc ay,aLV,aLe] at G;rw[(Ap _ _).2.2,(Aq _ _).2.2,<-d,<-G];simp only[aNf,aMX,ay,aMh,aOn,List.length_pos_iff_exists_mem,aNg,aKN]
 ·unfold pT;rw[(Ap _ _).2.2,(Aq _ _).2.2];constructor
  ·rintro ((h|⟨a,b,_⟩)|⟨a,b,_⟩)
   ·cases h
   ·exact absurd ⟨a,b⟩ ay
   ·exact absurd ⟨a,b⟩ ay
  ·rintro⟨h,_⟩;exact absurd h ay
theorem axi {z:eD}{ae:List cw}{l:List Ib.Ev}{aq:List eH}{n R ab:Int}{aD:List Int}{K:List cv}(fC:aD.Perm (iO (fT z ae l n)))(sz:K.Perm (gJ n aq))(rC:K.Pairwise pN):
 fq (pT z ae l aq n R ab aD K).1=(CJ R ab).filter λB=>(pl z ae l aq n B).isSome:=by
 have p:=(axg R ab).filter λB=>(pl z ae l aq n B).isSome;refine abk ((aOC (p.imp λh=>by omega) ?_).2 λB=> ?_) (p.imp λh=>by omega)
 ·unfold pT;exact abg _ _ (abf _ _ aMQ)
 ·rw[aNg,abh,axh fC sz rC]
theorem axj (z:eD)(hh:z.ao.length<=1000000)(aP:z.al.length<=1000000)(ae:List cw)(gy:ae.length<=1000000)(l:List Ib.Ev)(hl:l.length<=1000000)(aq:List eH)
 (hV:∀a∈aq,aO prog 40 [.agg (aJ.J a)] [] (λv rs=>v= .bool true/\rs=[])) (aA:∀a∈aq,Cl a) (ki:∀a∈aq,(Lit.int .i64 a.ah).wf=true/\a.name.size<=maxLen) (n R ab:Int) (dp:E9 aq R ab=0):
 aO prog 11 [.agg z.J,.pure 3 (ai ae),.pure 7 (ai l),.pure 4 (ai aq),.int .i64 n,.int .i64 R,.int .i64 ab] []
  (λv rs=>(if rG z ae l n=0 then v= .bo [.pure 3 (ai (jp z ae l aq n R ab)),.int .i64 0] else v= .bo [.bH,.int .i64 (rG z ae l n)])/\rs=[]):=by
 refine aO.awN (awR z hh aP ae gy l hl aq hV aA ki n R ab dp) ?_;rintro v rs ⟨h,rfl⟩
 by_cases h0:rG z ae l n=0
 rotate_left
 ·rw[S h0] at h;exact⟨v,⟨by rw[S h0];exact h,rfl⟩,λ_ _ h=>h⟩
 rw[Rc h0] at h;obtain⟨aD,K,fC,sz,rC,rfl⟩:=h;refine⟨_,⟨by rw[Rc h0],rfl⟩,λC x aj=> ?_⟩;rw[Rep] at aj ⊢;obtain⟨vs,rfl,aj⟩:=aj;refine⟨vs,rfl,?_⟩;rw[aE] at aj ⊢;obtain⟨a,bS,e,d,G⟩:=aj;refine⟨a,bS,e,?_,G⟩;rw[axi fC sz rC] at d;have bF:ai (jp z ae l aq n R ab)=((CJ R ab).filter λB=>(pl z ae l aq n B).isSome).map λB=> [F.int .i64 B,.pure 2 (ai (ne z ae l aq n B)),.pure 2 (ai (sG z l n B))]:=by
  have key:∀ds:List Int,ai (ds.filterMap (pl z ae l aq n))=(ds.filter λB=>(pl z ae l aq n B).isSome).map λB=> [F.int .i64 B,.pure 2 (ai (ne z ae l aq n B)),.pure 2 (ai (sG z l n B))]:=by
   intro ds
   induction ds with
   |nil=>rfl
   |cons B ds ih=>
    rw[List.filterMap_cons,List.filter_cons];cases h:pl z ae l aq n B with
    |none=>simpa using ih
    |some y=>
     have bt:y=⟨B,ne z ae l aq n B,sG z l n B⟩:=by
      unfold pl at h;split at h
      ·cases h
      ·cases h;rfl
     simp only[Option.isSome_some,aK5,aKP,ai] at ih ⊢;rw[ih,bt];rfl
  exact key (CJ R ab)
 rw[bF];refine awF (λB ay=> ?_) d;have N:=abh.1 (aNg.1 ay).1;unfold pU pk;rw[abi fC sz rC N,abj N,bT,bT];refine⟨rfl,?_,?_,trivial⟩
 ·split
  ·rename_i h;rw[aN5.1 h];simp[le,ai]
  ·exact le_refl _ (λq h=>by cases h) (λq h=>by cases h)
 ·split
  ·rename_i h;rw[aN5.1 h];simp[le,ai]
  ·exact le_refl _ (λq h=>by cases h) (λq h=>by cases h)
end Go.Proofs.YtpincjkjoeopkaaGreatDoor
