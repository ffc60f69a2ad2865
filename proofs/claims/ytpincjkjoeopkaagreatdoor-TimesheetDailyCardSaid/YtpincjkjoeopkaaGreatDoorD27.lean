/- Events and bands. -/
import Derived.Test.YtpincjkjoeopkaaGreatDoorD26
set_option linter.all false
namespace Go.Proofs.YtpincjkjoeopkaaGreatDoor.Ib
open Go Go.Abs Go.Proofs.Tryz
def aDv (aF:ib)(al:List fv)(v:F)(rs:List Z):Prop:=
 (lA aF≠0∧v= .bo [.bH,.int .i64 (lA aF)]∧rs= [])∨
 (lA aF=0∧ew al≠0∧v= .bo [.bH,.int .i64 (ew al)]∧rs= [])∨
 (lA aF=0∧ew al=0∧ ∃ S:List ga,S.Perm (gU al)∧sE S∧v= .bo [.own 0 (run aF (kE S)).aa.length 0 (run aF (kE S)).aa.length,.int .i64 0]∧rs= [.ag 221 4 (ai (run aF (kE S)).aa)])
theorem aDw {aF:ib}(h:lA aF=0):Tt aF:=by
 unfold lA at h;split at h
 ·cases h
 ·split at h
  ·rename_i h1 G;exact⟨by omega,by omega,G.2.1,G.2.2⟩
  ·cases h
theorem Ij {al:List fv}(h:ew al=0):al.length≤1024∧(∀ w∈al,w.gM.length≤1024)∧(∀ w∈al,wV w)∧(gU al).Pairwise pg∧hz (gU al)≤100000:=by
 unfold ew at h;split at h
 ·cases h
 split at h
 ·cases h
 split at h
 ·cases h
 split at h
 ·cases h
 split at h
 ·cases h
 rename_i h1 G au bv cx;refine⟨by omega,fun w aP=> ?_,by simpa using au,by simpa using bv,by omega⟩;have: ¬1024 < w.gM.length:=fun h=>G ⟨w,aP,h⟩;omega
theorem Ii {al:List fv}(h: ∀ w∈al,wV w): ∀ I∈gU al,iB I.R I.ab∧0≤I.ah∧I.ah≤84005:=by
 intro I ao;obtain⟨w,aP,v,an,rfl⟩:=ahn.1 ao;exact⟨(h w aP).2 v an,(h w aP).1⟩
set_option maxHeartbeats 1000000 in
theorem awK (aF:ib)(al:List fv)(oY:al.length≤9223372036854775806):aO prog 41 [aF.v,.pure 2 (ai al)] [] (aDv aF al):=by
 refine cu func41 acE (by simp[AA,C1]) ?_;have hV:=lQ aF;unfold ib.v at *;simp only[go_sem,AA,C1];refine bM hV rfl rfl ?_;simp only[go_sem]
 by_cases an:lA aF=0
 rotate_left
 ·have df: (lA aF != 0)=true:=by simp[an]
  simp only[go_sem,df];exact E.bg rfl (.inl ⟨an,rfl,rfl⟩)
 have df: (lA aF != 0)=false:=by simp[an]
 have dc:=aDw an;simp only[go_sem,df];refine om [] [] (by simp) rfl (qw _ (by first|rfl|simp only[go_sem])) (LH al oY) ?_;rintro _ _ (⟨he,rfl,rfl⟩|⟨he,S,kV,AO,rfl,rfl⟩)
 ·refine⟨.inl rfl,?_⟩;have Py: (ew al != 0)=true:=by simp[he]
  simp only[go_sem,Py];exact E.bg rfl (.inr (.inl ⟨an,he,rfl,rfl⟩))
 refine⟨.inl rfl,?_⟩;obtain⟨_,_,nH,_,Tz⟩:=Ij he;have qE: ∀ I∈S,iB I.R I.ab∧0≤I.ah∧I.ah≤84005:=fun I ao=>Ii nH I (kV.mem_iff.1 ao);have zo: ((kE S).length:Int)≤100000:=by rw[Sj fun I ao=>(qE I ao).1,Il kV];exact Tz
 have Ag:S.length≤100000:=by
  have h1: ∀ aW:List ga,(∀ I∈aW,iB I.R I.ab)→(aW.length:Int)≤hz aW:=by
   intro aW
   induction aW with
   |nil=>intro _;simp[hz]
   |cons I aW ih=>
    intro h;have a:=ih fun x aj=>h x (List.mem_cons_of_mem _ aj);have b:=h I List.mem_cons_self;unfold iB at b;simp only[hz,List.length_cons];omega
  have:=h1 S fun I ao=>(qE I ao).1;rw[Il kV] at this;omega
 simp only[go_sem,bne_self_eq_false];refine dN (fun D r=> ∃ c:Nat,c≤S.length∧D= [(9,.bd 0 1 0 0),(32,.own 4 S.length 0 S.length),(33,.int .i64 S.length),(34,.int .i64 c)]∧r=sK aF (run aF (kE (S.take c))).aD (run aF (kE (S.take c))).W (run aF (kE (S.take c))).aa++ [.ag 216 3 (ai S)])
  (fun D _=>match bs D 34 with| .int _ j=>(S.length-j).toNat|_=>0) ?_ ?_
 ·(refine E.oc (.vQ 4 0 5 221 4 rfl (by simp) (by decide) rfl) ?_;simp only[go_sem,fb])
  (refine E.bB [some 4,some 2,some 3,some 5,some 1] ?_;simp only[go_sem])
  exact E.ac ⟨0,by omega,rfl,rfl⟩
 ·rintro D r ⟨c,av,rfl,rfl⟩;have aP:=dB (c:=c) (by omega);unfold sK;simp only[go_sem,AA,C1];refine cf ?_ ?_<;>intro ct<;>simp only[bC] at ct<;>simp only[go_sem,AA,C1]
  ·have aI:c < S.length:=by omega
   refine⟨by omega,by omega,?_⟩
   try simp only[Int.toNat_natCast]
   rw[cT aI];have hN:=aDx aI;have Ny:=qE S[c] (List.getElem_mem _);have zh: ((kE (S.take (c+1))).length:Int)≤100000:=by
    have h1: (kE S).length=(kE (S.take (c+1))).length+(kE (S.drop (c+1))).length:=by
     unfold kE;rw[←List.length_append,←List.flatMap_append,List.take_append_drop]
    omega
   generalize S[c]=I at hN Ny ⊢;generalize kE (S.take c)=eO at *;obtain⟨Ny,EN,LF⟩:=Ny;unfold iB at Ny;rw[hN,List.length_append,FH,TA] at zh;simp only[go_sem,No];refine dN (fun D r=> ∃ n:Nat,I.R+n≤I.ab∧D= [(9,.bd 0 1 0 0),(11,.bd 5 1 0 0),(12,.int .i64 (I.R+n)),(32,.own 4 S.length 0 S.length),(33,.int .i64 S.length),(34,.int .i64 c)]∧
    r=sK aF (run aF (eO++mE I.ah I.R n)).aD (run aF (eO++mE I.ah I.R n)).W (run aF (eO++mE I.ah I.R n)).aa++ [.ag 216 3 (ai S),.ag 216 3 [[.int .i64 I.ah,.int .i64 I.R,.int .i64 I.ab]]])
    (fun D _=>match bs D 12 with| .int _ j=>(I.ab-j).toNat|_=>0) ?_ ?_
   ·exact E.ac ⟨0,by omega,by simp,by simp[mE,sK]⟩
   rintro D r ⟨n,aH,rfl,rfl⟩;unfold sK;simp only[go_sem,AA,C1];refine cf ?_ ?_<;>intro fH<;>simp only[bC] at fH<;>simp only[go_sem,AA,C1]
   ·have so:=aaL aF (eO++mE I.ah I.R n);rw[List.length_append,TA] at so;obtain⟨b1,eJ,lX⟩:=so;have TB:=b1 I.ah;have TC:=eJ (jh I.ah);have re:=fun k=>aDy aF (eO++mE I.ah I.R n) (mE I.ah (I.R+n) k);generalize run aF (eO++mE I.ah I.R n)=bw at *;obtain⟨aD,W,aa⟩:=bw;simp only at TB TC lX re ⊢;rw[bl (x:=I.ab-(I.R+n)) (by omega) (by omega)]
    (refine fy [0,1,2,3] (aDl aF dc aD W aa I.ah (I.ab-(I.R+n)) EN LF (by omega) (by omega) TB.1 (by omega) TC.1 (by omega)) ?_;rintro _ _ ⟨rfl,rfl⟩;simp only[go_sem])
    have aDz:=aDA dc (aD:=aD) (W:=W) (ah:=I.ah) (most:=I.ab-(I.R+n)) TB.1 TC.1 (by omega);obtain⟨m,hm⟩: ∃ m:Nat,(lT aF aD W I.ah (I.ab-(I.R+n))).2.1=m:=⟨(lT aF aD W I.ah (I.ab-(I.R+n))).2.1.toNat,by omega⟩;have cn:=aDB aF aD W I.ah (I.ab-(I.R+n));have mb:=aDC aF aD W aa I.ah (I.ab-(I.R+n)) (I.R+n) m (by omega) (by omega);rw[←re m,List.append_assoc,←aht] at mb;rw[hm] at cn aDz ⊢;rw[cn.1,cn.2];generalize (lT aF aD W I.ah (I.ab-(I.R+n))).1=b at mb ⊢;unfold sK;simp only[go_sem];rw[bl (x:=I.R+(n:Int)+m) (by omega) (by omega)];have kI:=aDn aF (jb I.ah (ev aD I.ah+m) aD) (if (qc aF aD W I.ah).2=true then jb (jh I.ah) (ev W (jh I.ah)+m) W else W) aa ⟨I.ah,I.R+n,I.R+n+m,b⟩ (by omega);rw[Ah] at kI;unfold sK at kI
    (refine fy [0,1,2,3] (kI) ?_;rintro _ _ ⟨rfl,rfl⟩;simp only[go_sem])
    rw[bl (x:=I.R+(n:Int)+m) (by omega) (by omega)];refine E.ac ⟨⟨n+m,by omega,?_,?_⟩,?_⟩
    ·rw[show I.R+((n+m:Nat):Int)=I.R+(n:Int)+(m:Int) from by omega]
    ·rw[mb];first|done|rfl
    ·simp only[go_sem];omega
   ·have G1:n=(I.ab-I.R).toNat:=by omega
    have dp:eO++mE I.ah I.R n=kE (S.take (c+1)):=by rw[hN,FH,G1]
    rw[dp];simp only[go_sem,aP]
    (refine E.bB [some 0,some 1,some 2,some 3,some 4] ?_;simp only[go_sem])
    refine E.ac ⟨⟨c+1,by omega,rfl,rfl⟩,?_⟩;simp only[go_sem];omega
  ·obtain rfl:c=S.length:=by omega
   rw[List.take_length]
   (refine E.bB [some 3] ?_;simp only[go_sem])
   exact E.ac (.inr (.inr ⟨an,he,S,kV,AO,rfl,rfl⟩))
def gr (b:ByteArray)(m:Int):List jg→List jg
 | []=> [⟨b,m⟩]
 |t::eg=>if ez t.name b then ⟨t.name,t.min+m⟩::eg else t::gr b m eg
def sL (ah:Int)(p:cF):Prop:=p.ah=ah∧iB p.R p.ab
instance (ah:Int) (p:cF):Decidable (sL ah p):=inferInstanceAs (Decidable (p.ah=ah∧iB p.R p.ab))
def jx (ah:Int)(acc:List jg)(p:cF):List jg:=if sL ah p then gr p.ep (p.ab-p.R) acc else acc
def pQ (l:List cF)(ah:Int):List jg:=(l.take 4096).foldl (jx ah) []
def pp (b:ByteArray):List jg→Option Nat
 | []=>none
 |t::eg=>if ez t.name b then some 0 else (pp b eg).map (·+1)
def nl:Nat→List jg→List (F×F)
 |_,[]=> []
 |k,t::eg=>(.str t.name,.int .i64 (k:Nat))::nl (k+1) eg
theorem Nz (a b:ByteArray):ez a b=ez b a:=by unfold ez;rw[Bool.beq_comm]
theorem ahx (a b:ByteArray):fB (.str a) (.str b)=ez b a:=by
 rw[Nz];unfold fB cp ed ez;simp[ed]
theorem ahy (b:ByteArray): ∀ (k:Nat) (acc:List jg),dm (.str b) (nl k acc)=(pp b acc).map fun c=> .int .i64 ((k+c:Nat):Int)
 |_,[]=>rfl
 |k,t::eg=>by
  rw[nl,dm,ahx,pp]
  by_cases h:ez t.name b=true
  ·rw[if_pos h,if_pos h];simp
  ·rw[if_neg h,if_neg h,ahy b (k+1) eg];cases pp b eg with
   |none=>rfl
   |some c=>simp;omega
theorem ahz (b:ByteArray)(m:Int): ∀ (k:Nat) (acc:List jg),pp b acc=none→dy (.str b) (.int .i64 ((k+acc.length:Nat):Int)) (nl k acc)=nl k (acc++ [⟨b,m⟩])
 |k,[],_=>by simp[nl,dy]
 |k,t::eg,h=>by
  rw[pp] at h
  by_cases h1:ez t.name b=true
  ·rw[if_pos h1] at h;cases h
  ·rw[if_neg h1] at h;have G:pp b eg=none:=by cases hh:pp b eg with
    |none=>rfl
    |some c=>rw[hh] at h;simp at h
   have ih:=ahz b m (k+1) eg G;rw[nl,dy,ahx,if_neg h1,List.cons_append,nl,←ih];congr 4;simp only[List.length_cons];omega
theorem TH {b:ByteArray}{m:Int}: ∀ {acc:List jg},pp b acc=none→gr b m acc=acc++ [⟨b,m⟩]
 | [],_=>rfl
 |t::eg,h=>by
  rw[pp] at h
  by_cases h1:ez t.name b=true
  ·rw[if_pos h1] at h;cases h
  ·rw[if_neg h1] at h;have G:pp b eg=none:=by cases hh:pp b eg with
    |none=>rfl
    |some c=>rw[hh] at h;simp at h
   rw[gr,if_neg h1,TH G,List.cons_append]
theorem TI {b:ByteArray}{m:Int}: ∀ {acc:List jg} {c:Nat},pp b acc=some c→ ∃ h:c < acc.length,gr b m acc=acc.set c ⟨acc[c].name,acc[c].min+m⟩
 | [],_,h=>by cases h
 |t::eg,c,h=>by
  rw[pp] at h
  by_cases h1:ez t.name b=true
  ·rw[if_pos h1] at h;cases h;exact⟨by simp,by rw[gr,if_pos h1];rfl⟩
  ·rw[if_neg h1] at h;cases hh:pp b eg with
   |none=>rw[hh] at h;cases h
   |some j=>
    rw[hh] at h;simp at h;subst h;obtain⟨G,au⟩:=TI (m:=m) hh;exact⟨by simp;omega,by rw[gr,if_neg h1,au];rfl⟩
theorem TJ: ∀ (k:Nat) (acc:List jg) (c:Nat) (h:c < acc.length) (m:Int),nl k (acc.set c ⟨acc[c].name,m⟩)=nl k acc
 |_,[],c,h,_=>by simp at h
 |k,t::eg,0,_,m=>rfl
 |k,t::eg,c+1,h,m=>by
  have:=TJ (k+1) eg c (by simpa using h) m;simp only[List.getElem_cons_succ,List.set_cons_succ,nl,this]
theorem ahA {l:List cF}{ah:Int}{c:Nat}(h:c < l.length): (l.take (c+1)).foldl (jx ah) []=jx ah ((l.take c).foldl (jx ah) []) l[c]:=by
 rw[List.take_add_one,List.getElem?_eq_getElem h,Option.toList_some,List.foldl_append];rfl
theorem ahB {b:ByteArray}{m di:Int}(h0:0≤m): ∀ {acc:List jg},0≤di→(∀ t∈acc,0≤t.min∧t.min≤di)→ ∀ t∈gr b m acc,0≤t.min∧t.min≤di+m
 | [],cU,_,t,ht=>by
  simp only[gr,List.mem_singleton] at ht;subst ht;simp only;omega
 |x::acc,cU,h,t,ht=>by
  rw[gr] at ht;have aj:=h x List.mem_cons_self;split at ht
  ·rcases List.mem_cons.1 ht with rfl|ht
   ·simp only;omega
   ·have:=h t (List.mem_cons_of_mem _ ht);omega
  ·rcases List.mem_cons.1 ht with rfl|ht
   ·omega
   ·exact ahB h0 cU (fun y bt=>h y (List.mem_cons_of_mem _ bt)) t ht
theorem ahC (l:List cF)(ah:Int): ∀ c,c≤l.length→(∀ t∈(l.take c).foldl (jx ah) [],0≤t.min∧t.min≤120968640*c)∧((l.take c).foldl (jx ah) []).length≤c
 |0,_=>by simp
 |c+1,h=>by
  obtain⟨h1,G⟩:=ahC l ah c (by omega);rw[ahA (by omega)];rw[jx];split
  ·rename_i ak;obtain⟨_,ak⟩:=ak;unfold iB at ak;refine⟨fun t ht=> ?_,?_⟩
   ·have:=ahB (b:=l[c].ep) (m:=l[c].ab-l[c].R) (di:=120968640*c) (by omega) (by omega) h1 t ht;omega
   ·cases aj:pp l[c].ep ((l.take c).foldl (jx ah) []) with
    |none=>rw[TH aj,List.length_append];simp;omega
    |some j=>obtain⟨_,e⟩:=TI (m:=l[c].ab-l[c].R) aj;rw[e,List.length_set];omega
  ·exact⟨fun t ht=>by have:=h1 t ht;omega,by omega⟩
theorem NA: ∀ (k:Nat) (acc:List jg),kh (nl k acc)=true
 |_,[]=>rfl
 |k,t::eg=>by
  have:=NA (k+1) eg;simp only[kh,nl,List.map_cons,bU,bJ,Bool.true_and] at this ⊢;exact this
set_option maxHeartbeats 1000000 in
theorem ayB (l:List cF)(oY:l.length≤9223372036854775806)(ah:Int):aO prog 117 [.pure 4 (ai l),.int .i64 ah] [] (fun v rs=>v= .own 0 (pQ l ah).length 0 (pQ l ah).length∧rs= [.ag 78 2 (ai (pQ l ah))]):=by
 refine cu func117 adH (by simp[Fq,I5]) ?_;unfold pQ;simp only[go_sem,Fq,I5];have JV: (min (l.length:Int) 4096).toNat=min l.length 4096:=by omega
 rw[JV];refine⟨by omega,by omega,?_⟩;have bF:l.take (min l.length 4096)=l.take 4096:=by
  by_cases h:l.length≤4096
  ·rw[List.take_of_length_le (by omega),List.take_of_length_le h]
  ·congr 1;omega
 try simp only[Int.toNat_zero,List.drop_zero,Nat.sub_zero]
 rw[bF];have Cu: (l.take 4096).length≤4096:=by rw[List.length_take];omega
 generalize l.take 4096=X at Cu ⊢
 try simp only[go_sem]
 refine dN (fun D r=> ∃ c:Nat,c≤X.length∧D= [(1,.int .i64 ah),(5,.own 1 ((X.take c).foldl (jx ah) []).length 0 ((X.take c).foldl (jx ah) []).length),(6,.bE 0),(16,.pure 4 (ai X)),(17,.int .i64 X.length),(18,.int .i64 c)]∧r= [.be (.map false [.str] (nl 0 ((X.take c).foldl (jx ah) []))),.ag 78 2 (ai ((X.take c).foldl (jx ah) []))])
  (fun D _=>match bs D 18 with| .int _ j=>(X.length-j).toNat|_=>0) ?_ ?_
 ·(refine E.iv 5 78 2 rfl (E.eW [1,5,6,16,17,18] ?_);simp only[go_sem])
  exact E.ac ⟨0,by omega,rfl,rfl⟩
 rintro D r ⟨c,av,rfl,rfl⟩;have aP:=dB (c:=c) (by omega);simp only[go_sem,Fq,I5];refine cf ?_ ?_<;>intro ct<;>simp only[bC] at ct<;>simp only[go_sem,Fq,I5]
 ·have aI:c < X.length:=by omega
  refine⟨by omega,by omega,?_⟩
  try simp only[Int.toNat_natCast]
  rw[cT aI];have hN:=ahA (ah:=ah) aI;obtain⟨so,cK⟩:=ahC X ah c av;generalize X[c]=p at hN ⊢;generalize (X.take c).foldl (jx ah) []=acc at hN so cK ⊢;have AU: ∀ {FJ:List jg},FJ=jx ah acc p→ ∃ FK:Nat,FK≤X.length∧([(1,.int .i64 ah),(5,.own 1 FJ.length 0 FJ.length),(6,.bE 0),(16,.pure 4 (ai X)),(17,.int .i64 X.length),(18,.int .i64 ((c+1:Nat):Int))]:aQ)= [(1,.int .i64 ah),(5,.own 1 ((X.take FK).foldl (jx ah) []).length 0 ((X.take FK).foldl (jx ah) []).length),(6,.bE 0),(16,.pure 4 (ai X)),(17,.int .i64 X.length),(18,.int .i64 FK)]∧([.be (.map false [.str] (nl 0 FJ)),.ag 78 2 (ai FJ)]:List Z)= [.be (.map false [.str] (nl 0 ((X.take FK).foldl (jx ah) []))),.ag 78 2 (ai ((X.take FK).foldl (jx ah) []))]:=by
   intro FJ h;exact⟨c+1,by omega,by rw[hN,←h],by rw[hN,←h]⟩
  have gN:=NA 0 acc;simp only[go_sem,Ah]
  by_cases ay:p.ah=ah
  rotate_left
  ·have mS: (p.ah != ah)=true:=by simp[ay]
   simp only[go_sem,mS,aP];refine E.ll [some 0,some 1] [] rfl rfl (by simp only[go_sem,gN]<;>rfl) ?_;simp only[go_sem];refine E.ac ⟨AU (by rw[jx,if_neg (fun h=>ay h.1)]),?_⟩;simp only[go_sem];omega
  have mS: (p.ah != ah)=false:=by simp[ay]
  simp only[go_sem,mS];refine bM (ahf _ _) rfl rfl ?_
  by_cases an:iB p.R p.ab
  rotate_left
  ·simp only[go_sem,an,aP];refine E.ll [some 0,some 1] [] rfl rfl (by simp only[go_sem,gN]<;>rfl) ?_;simp only[go_sem];refine E.ac ⟨AU (by rw[jx,if_neg (fun h=>an h.2)]),?_⟩;simp only[go_sem];omega
  have nD:=an;unfold iB at nD;have aDK:jx ah acc p=gr p.ep (p.ab-p.R) acc:=by rw[jx,if_pos ⟨ay,an⟩]
  rw[aDK] at AU;have NB:=ahy p.ep 0 acc;cases aj:pp p.ep acc with
  |none=>
   rw[aj] at NB;have FL:=ahz p.ep 0 0 acc aj;rw[Nat.zero_add] at FL;obtain⟨di,cU⟩: ∃ di:List jg,di=acc++ [⟨p.ep,0⟩]:=⟨_,rfl⟩;have HU:di.length=acc.length+1:=by rw[cU];simp
   have aX:acc.length < di.length:=by omega
   have TK:di[acc.length]=⟨p.ep,0⟩:=by subst cU;simp
   have kI:gr p.ep (p.ab-p.R) acc=di.set acc.length ⟨di[acc.length].name,di[acc.length].min+(p.ab-p.R)⟩:=by
    rw[TH aj,TK];subst cU;simp
   have gy:nl 0 di=nl 0 (gr p.ep (p.ab-p.R) acc):=by rw[kI,TJ]
   have NC:0≤di[acc.length].min∧di[acc.length].min≤120968640*4096:=by rw[TK];simp
   rw[←cU] at FL;have I6: (ai di).getD acc.length []= [.str di[acc.length].name,.int .i64 di[acc.length].min]:=by rw[cT aX,RU]
   have mc: (ai di).set acc.length [.str di[acc.length].name,.int .i64 (di[acc.length].min+(p.ab-p.R))]=ai (gr p.ep (p.ab-p.R) acc):=by rw[kI];exact xS (x:=jg.mk di[acc.length].name (di[acc.length].min+(p.ab-p.R)))
   have ahD: (gr p.ep (p.ab-p.R) acc).length=di.length:=by rw[kI,List.length_set]
   have yy:=NA 0 (gr p.ep (p.ab-p.R) acc);simp only[go_sem,an,NB,FL,aDc];refine⟨by omega,?_⟩;rw[←cU];simp only[go_sem,HU];refine⟨by omega,by omega,?_⟩
   try simp only[Int.toNat_natCast]
   simp only[go_sem,I6];rw[bl (x:=p.ab-p.R) (by omega) (by omega),bl (x:=di[acc.length].min+(p.ab-p.R)) (by omega) (by omega),aP];refine⟨by omega,by omega,by omega,by omega,?_⟩;rw[mc,gy,show acc.length+1=(gr p.ep (p.ab-p.R) acc).length from by omega];refine E.ll [some 0,some 1] [] rfl rfl (by simp only[go_sem,yy]<;>rfl) ?_;simp only[go_sem];refine E.ac ⟨AU rfl,?_⟩;simp only[go_sem];omega
  |some j=>
   rw[aj] at NB;obtain⟨aX,kI⟩:=TI (m:=p.ab-p.R) aj;have gy:nl 0 acc=nl 0 (gr p.ep (p.ab-p.R) acc):=by rw[kI,TJ]
   have NC:=so acc[j] (List.getElem_mem _);have I6: (ai acc).getD j []= [.str acc[j].name,.int .i64 acc[j].min]:=by rw[cT aX,RU]
   have mc: (ai acc).set j [.str acc[j].name,.int .i64 (acc[j].min+(p.ab-p.R))]=ai (gr p.ep (p.ab-p.R) acc):=by rw[kI];exact xS (x:=jg.mk acc[j].name (acc[j].min+(p.ab-p.R)))
   have ahD: (gr p.ep (p.ab-p.R) acc).length=acc.length:=by rw[kI,List.length_set]
   have yy:=NA 0 (gr p.ep (p.ab-p.R) acc);simp only[go_sem,an,NB];refine⟨by omega,by omega,?_⟩
   try simp only[Int.toNat_natCast]
   simp only[go_sem,I6];rw[bl (x:=p.ab-p.R) (by omega) (by omega),bl (x:=acc[j].min+(p.ab-p.R)) (by omega) (by omega),aP];refine⟨by omega,by omega,?_⟩;rw[mc,gy,show acc.length=(gr p.ep (p.ab-p.R) acc).length from by omega];refine E.ll [some 0,some 1] [] rfl rfl (by simp only[go_sem,yy]<;>rfl) ?_;simp only[go_sem];refine E.ac ⟨AU rfl,?_⟩;simp only[go_sem];omega
 ·obtain rfl:c=X.length:=by omega
  rw[List.take_length]
  (refine E.bB [some 1] ?_;simp only[go_sem])
  exact E.ac ⟨rfl,rfl⟩
end Go.Proofs.YtpincjkjoeopkaaGreatDoor.Ib
