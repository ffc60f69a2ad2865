/- Events and bands. -/
import Derived.Test.YtpincjkjoeopkaaGreatDoorK26
set_option linter.unusedSimpArgs false
set_option linter.unusedVariables false
set_option linter.unusedSectionVars false
namespace Go.Proofs.YtpincjkjoeopkaaGreatDoor.Ib
open Go Go.Abs Go.Proofs.Tryz
def aCd (az:hJ)(af:List eP)(v:z)(rs:List R):Prop:=
 (mu az≠0∧v= .bg [.bD,.int .i64 (mu az)]∧rs= [])∨
 (mu az=0∧ej af≠0∧v= .bg [.bD,.int .i64 (ej af)]∧rs= [])∨
 (mu az=0∧ej af=0∧ ∃ S:List fS,S.Perm (gK af)∧rO S∧v= .bg [.own 0 (run az (ki S)).O.length 0 (run az (ki S)).O.length,.int .i64 0]∧rs= [.aa 221 4 (ac (run az (ki S)).O)])
theorem aCe {az:hJ}(h:mu az=0):Sl az:=by
 unfold mu at h;split at h
 ·cases h
 ·split at h
  ·rename_i h1 B;exact⟨by omega,by omega,B.2.1,B.2.2⟩
  ·cases h
theorem G8 {af:List eP}(h:ej af=0):af.length≤1024∧(∀ w∈af,w.gp.length≤1024)∧(∀ w∈af,vN w)∧(gK af).Pairwise oq∧hg (gK af)≤100000:=by
 unfold ej at h;split at h
 ·cases h
 split at h
 ·cases h
 split at h
 ·cases h
 split at h
 ·cases h
 split at h
 ·cases h
 rename_i h1 B am bp cn;refine⟨by omega,fun w aR=> ?_,by simpa using am,by simpa using bp,by omega⟩;have: ¬1024 < w.gp.length:=fun h=>B ⟨w,aR,h⟩;omega
theorem G7 {af:List eP}(h: ∀ w∈af,vN w): ∀ E∈gK af,ik E.J E.T∧0≤E.ab∧E.ab≤84005:=by
 intro E ak;obtain⟨w,aR,v,ag,rfl⟩:=afW.1 ak;exact⟨(h w aR).2 v ag,(h w aR).1⟩
set_option maxHeartbeats 1000000 in
theorem avc (az:hJ)(af:List eP)(oe:af.length≤9223372036854775806):aK prog 41 [az.v,.pure 2 (ac af)] [] (aCd az af):=by
 refine cr func41 abg (by simp[zp,BV]) ?_;have hV:=mY az;unfold hJ.v at *;simp only[go_sem,zp,BV];refine bH hV rfl rfl ?_;simp only[go_sem]
 by_cases ag:mu az=0
 rotate_left
 ·have db: (mu az != 0)=true:=by simp[ag]
  simp only[go_sem,db];exact s.bb rfl (.inl ⟨ag,rfl,rfl⟩)
 have db: (mu az != 0)=false:=by simp[ag]
 have cU:=aCe ag;simp only[go_sem,db];refine oW [] [] (by simp) rfl (pN _ (by first|rfl|simp only[go_sem])) (Kq af oe) ?_;rintro _ _ (⟨he,rfl,rfl⟩|⟨he,S,jN,zB,rfl,rfl⟩)
 ·refine⟨.inl rfl,?_⟩;have rA: (ej af != 0)=true:=by simp[he]
  simp only[go_sem,rA];exact s.bb rfl (.inr (.inl ⟨ag,he,rfl,rfl⟩))
 refine⟨.inl rfl,?_⟩;obtain⟨_,_,mV,_,Ss⟩:=G8 he;have pW: ∀ E∈S,ik E.J E.T∧0≤E.ab∧E.ab≤84005:=fun E ak=>G7 mV E (jN.mem_iff.1 ak);have uK: ((ki S).length:Int)≤100000:=by rw[Ra fun E ak=>(pW E ak).1,Ha jN];exact Ss
 have yX:S.length≤100000:=by
  have h1: ∀ aP:List fS,(∀ E∈aP,ik E.J E.T)→(aP.length:Int)≤hg aP:=by
   intro aP
   induction aP with
   |nil=>intro _;simp[hg]
   |cons E aP ih=>
    intro h;have a:=ih fun x ad=>h x (List.mem_cons_of_mem _ ad);have b:=h E List.mem_cons_self;unfold ik at b;simp only[hg,List.length_cons];omega
  have:=h1 S fun E ak=>(pW E ak).1;rw[Ha jN] at this;omega
 simp only[go_sem,bne_self_eq_false];refine dR (fun r d=> ∃ c:Nat,c≤S.length∧r= [(9,.aW 0 1 0 0),(32,.own 4 S.length 0 S.length),(33,.int .i64 S.length),(34,.int .i64 c)]∧d=rU az (run az (ki (S.take c))).ax (run az (ki (S.take c))).W (run az (ki (S.take c))).O++ [.aa 216 3 (ac S)])
  (fun r _=>match bn r 34 with| .int _ j=>(S.length-j).toNat|_=>0) ?_ ?_
 ·(refine s.nt (.uP 4 0 5 221 4 rfl (by simp) (by decide) rfl) ?_;simp only[go_sem,eO])
  (refine s.bw [some 4,some 2,some 3,some 5,some 1] ?_;simp only[go_sem])
  exact s.U ⟨0,by omega,rfl,rfl⟩
 ·rintro r d ⟨c,an,rfl,rfl⟩;have aR:=dr (c:=c) (by omega);unfold rU;simp only[go_sem,zp,BV];refine cg ?_ ?_<;>intro ck<;>simp only[bA] at ck<;>simp only[go_sem,zp,BV]
  ·have aC:c < S.length:=by omega
   refine⟨by omega,by omega,?_⟩
   try simp only[Int.toNat_natCast]
   rw[cQ aC];have hv:=aCf aC;have Mv:=pW S[c] (List.getElem_mem _);have xW: ((ki (S.take (c+1))).length:Int)≤100000:=by
    have h1: (ki S).length=(ki (S.take (c+1))).length+(ki (S.drop (c+1))).length:=by
     unfold ki;rw[←List.length_append,←List.flatMap_append,List.take_append_drop]
    omega
   generalize S[c]=E at hv Mv ⊢;generalize ki (S.take c)=dG at *;obtain⟨Mv,Dz,Ko⟩:=Mv;unfold ik at Mv;rw[hv,List.length_append,ED,St] at xW;simp only[go_sem,Mi];refine dR (fun r d=> ∃ n:Nat,E.J+n≤E.T∧r= [(9,.aW 0 1 0 0),(11,.aW 5 1 0 0),(12,.int .i64 (E.J+n)),(32,.own 4 S.length 0 S.length),(33,.int .i64 S.length),(34,.int .i64 c)]∧
    d=rU az (run az (dG++lR E.ab E.J n)).ax (run az (dG++lR E.ab E.J n)).W (run az (dG++lR E.ab E.J n)).O++ [.aa 216 3 (ac S),.aa 216 3 [[.int .i64 E.ab,.int .i64 E.J,.int .i64 E.T]]])
    (fun r _=>match bn r 12 with| .int _ j=>(E.T-j).toNat|_=>0) ?_ ?_
   ·exact s.U ⟨0,by omega,by simp,by simp[lR,rU]⟩
   rintro r d ⟨n,aB,rfl,rfl⟩;unfold rU;simp only[go_sem,zp,BV];refine cg ?_ ?_<;>intro fQ<;>simp only[bA] at fQ<;>simp only[go_sem,zp,BV]
   ·have rD:=Zt az (dG++lR E.ab E.J n);rw[List.length_append,St] at rD;obtain⟨b1,eA,ls⟩:=rD;have Su:=b1 E.ab;have Sv:=eA (iR E.ab);have qv:=fun k=>aCg az (dG++lR E.ab E.J n) (lR E.ab (E.J+n) k);generalize run az (dG++lR E.ab E.J n)=bq at *;obtain⟨ax,W,O⟩:=bq;simp only at Su Sv ls qv ⊢;rw[bf (x:=E.T-(E.J+n)) (by omega) (by omega)]
    (refine eY [0,1,2,3] (aB3 az cU ax W O E.ab (E.T-(E.J+n)) Dz Ko (by omega) (by omega) Su.1 (by omega) Sv.1 (by omega)) ?_;rintro _ _ ⟨rfl,rfl⟩;simp only[go_sem])
    have aCh:=aCi cU (ax:=ax) (W:=W) (ab:=E.ab) (most:=E.T-(E.J+n)) Su.1 Sv.1 (by omega);obtain⟨m,hm⟩: ∃ m:Nat,(lo az ax W E.ab (E.T-(E.J+n))).2.1=m:=⟨(lo az ax W E.ab (E.T-(E.J+n))).2.1.toNat,by omega⟩;have ce:=aCj az ax W E.ab (E.T-(E.J+n));have lx:=aCk az ax W O E.ab (E.T-(E.J+n)) (E.J+n) m (by omega) (by omega);rw[←qv m,List.append_assoc,←agc] at lx;rw[hm] at ce aCh ⊢;rw[ce.1,ce.2];generalize (lo az ax W E.ab (E.T-(E.J+n))).1=b at lx ⊢;unfold rU;simp only[go_sem];rw[bf (x:=E.J+(n:Int)+m) (by omega) (by omega)];have kn:=aB5 az (iL E.ab (ei ax E.ab+m) ax) (if (pt az ax W E.ab).2=true then iL (iR E.ab) (ei W (iR E.ab)+m) W else W) O ⟨E.ab,E.J+n,E.J+n+m,b⟩ (by omega);rw[yY] at kn;unfold rU at kn
    (refine eY [0,1,2,3] (kn) ?_;rintro _ _ ⟨rfl,rfl⟩;simp only[go_sem])
    rw[bf (x:=E.J+(n:Int)+m) (by omega) (by omega)];refine s.U ⟨⟨n+m,by omega,?_,?_⟩,?_⟩
    ·rw[show E.J+((n+m:Nat):Int)=E.J+(n:Int)+(m:Int) from by omega]
    ·rw[lx];first|done|rfl
    ·simp only[go_sem];omega
   ·have FR:n=(E.T-E.J).toNat:=by omega
    have cY:dG++lR E.ab E.J n=ki (S.take (c+1)):=by rw[hv,ED,FR]
    rw[cY];simp only[go_sem,aR]
    (refine s.bw [some 0,some 1,some 2,some 3,some 4] ?_;simp only[go_sem])
    refine s.U ⟨⟨c+1,by omega,rfl,rfl⟩,?_⟩;simp only[go_sem];omega
  ·obtain rfl:c=S.length:=by omega
   rw[List.take_length]
   (refine s.bw [some 3] ?_;simp only[go_sem])
   exact s.U (.inr (.inr ⟨ag,he,S,jN,zB,rfl,rfl⟩))
def gi (b:ByteArray)(m:Int):List iQ→List iQ
 | []=> [⟨b,m⟩]
 |t::fa=>if eo t.name b then ⟨t.name,t.min+m⟩::fa else t::gi b m fa
def rV (ab:Int)(p:cx):Prop:=p.ab=ab∧ik p.J p.T
instance (ab:Int) (p:cx):Decidable (rV ab p):=inferInstanceAs (Decidable (p.ab=ab∧ik p.J p.T))
def jk (ab:Int)(acc:List iQ)(p:cx):List iQ:=if rV ab p then gi p.ep (p.T-p.J) acc else acc
def pf (l:List cx)(ab:Int):List iQ:=(l.take 4096).foldl (jk ab) []
def oA (b:ByteArray):List iQ→Option Nat
 | []=>none
 |t::fa=>if eo t.name b then some 0 else (oA b fa).map (·+1)
def mE:Nat→List iQ→List (z×z)
 |_,[]=> []
 |k,t::fa=>(.str t.name,.int .i64 (k:Nat))::mE (k+1) fa
theorem Mw (a b:ByteArray):eo a b=eo b a:=by unfold eo;rw[Bool.beq_comm]
theorem agh (a b:ByteArray):fp (.str a) (.str b)=eo b a:=by
 rw[Mw];unfold fp cf dU eo;simp[dU]
theorem agi (b:ByteArray): ∀ (k:Nat) (acc:List iQ),dd (.str b) (mE k acc)=(oA b acc).map fun c=> .int .i64 ((k+c:Nat):Int)
 |_,[]=>rfl
 |k,t::fa=>by
  rw[mE,dd,agh,oA]
  by_cases h:eo t.name b=true
  ·rw[if_pos h,if_pos h];simp
  ·rw[if_neg h,if_neg h,agi b (k+1) fa];cases oA b fa with
   |none=>rfl
   |some c=>simp;omega
theorem agj (b:ByteArray)(m:Int): ∀ (k:Nat) (acc:List iQ),oA b acc=none→dp (.str b) (.int .i64 ((k+acc.length:Nat):Int)) (mE k acc)=mE k (acc++ [⟨b,m⟩])
 |k,[],_=>by simp[mE,dp]
 |k,t::fa,h=>by
  rw[oA] at h
  by_cases h1:eo t.name b=true
  ·rw[if_pos h1] at h;cases h
  ·rw[if_neg h1] at h;have B:oA b fa=none:=by cases hh:oA b fa with
    |none=>rfl
    |some c=>rw[hh] at h;simp at h
   have ih:=agj b m (k+1) fa B;rw[mE,dp,agh,if_neg h1,List.cons_append,mE,←ih];congr 4;simp only[List.length_cons];omega
theorem SA {b:ByteArray}{m:Int}: ∀ {acc:List iQ},oA b acc=none→gi b m acc=acc++ [⟨b,m⟩]
 | [],_=>rfl
 |t::fa,h=>by
  rw[oA] at h
  by_cases h1:eo t.name b=true
  ·rw[if_pos h1] at h;cases h
  ·rw[if_neg h1] at h;have B:oA b fa=none:=by cases hh:oA b fa with
    |none=>rfl
    |some c=>rw[hh] at h;simp at h
   rw[gi,if_neg h1,SA B,List.cons_append]
theorem SB {b:ByteArray}{m:Int}: ∀ {acc:List iQ} {c:Nat},oA b acc=some c→ ∃ h:c < acc.length,gi b m acc=acc.set c ⟨acc[c].name,acc[c].min+m⟩
 | [],_,h=>by cases h
 |t::fa,c,h=>by
  rw[oA] at h
  by_cases h1:eo t.name b=true
  ·rw[if_pos h1] at h;cases h;exact⟨by simp,by rw[gi,if_pos h1];rfl⟩
  ·rw[if_neg h1] at h;cases hh:oA b fa with
   |none=>rw[hh] at h;cases h
   |some j=>
    rw[hh] at h;simp at h;subst h;obtain⟨B,am⟩:=SB (m:=m) hh;exact⟨by simp;omega,by rw[gi,if_neg h1,am];rfl⟩
theorem SC: ∀ (k:Nat) (acc:List iQ) (c:Nat) (h:c < acc.length) (m:Int),mE k (acc.set c ⟨acc[c].name,m⟩)=mE k acc
 |_,[],c,h,_=>by simp at h
 |k,t::fa,0,_,m=>rfl
 |k,t::fa,c+1,h,m=>by
  have:=SC (k+1) fa c (by simpa using h) m;simp only[List.getElem_cons_succ,List.set_cons_succ,mE,this]
theorem agk {l:List cx}{ab:Int}{c:Nat}(h:c < l.length): (l.take (c+1)).foldl (jk ab) []=jk ab ((l.take c).foldl (jk ab) []) l[c]:=by
 rw[List.take_add_one,List.getElem?_eq_getElem h,Option.toList_some,List.foldl_append];rfl
theorem agl {b:ByteArray}{m cZ:Int}(h0:0≤m): ∀ {acc:List iQ},0≤cZ→(∀ t∈acc,0≤t.min∧t.min≤cZ)→ ∀ t∈gi b m acc,0≤t.min∧t.min≤cZ+m
 | [],cL,_,t,ht=>by
  simp only[gi,List.mem_singleton] at ht;subst ht;simp only;omega
 |x::acc,cL,h,t,ht=>by
  rw[gi] at ht;have ad:=h x List.mem_cons_self;split at ht
  ·rcases List.mem_cons.1 ht with rfl|ht
   ·simp only;omega
   ·have:=h t (List.mem_cons_of_mem _ ht);omega
  ·rcases List.mem_cons.1 ht with rfl|ht
   ·omega
   ·exact agl h0 cL (fun y bl=>h y (List.mem_cons_of_mem _ bl)) t ht
theorem agm (l:List cx)(ab:Int): ∀ c,c≤l.length→(∀ t∈(l.take c).foldl (jk ab) [],0≤t.min∧t.min≤120968640*c)∧((l.take c).foldl (jk ab) []).length≤c
 |0,_=>by simp
 |c+1,h=>by
  obtain⟨h1,B⟩:=agm l ab c (by omega);rw[agk (by omega)];rw[jk];split
  ·rename_i ae;obtain⟨_,ae⟩:=ae;unfold ik at ae;refine⟨fun t ht=> ?_,?_⟩
   ·have:=agl (b:=l[c].ep) (m:=l[c].T-l[c].J) (cZ:=120968640*c) (by omega) (by omega) h1 t ht;omega
   ·cases ad:oA l[c].ep ((l.take c).foldl (jk ab) []) with
    |none=>rw[SA ad,List.length_append];simp;omega
    |some j=>obtain⟨_,e⟩:=SB (m:=l[c].T-l[c].J) ad;rw[e,List.length_set];omega
  ·exact⟨fun t ht=>by have:=h1 t ht;omega,by omega⟩
theorem Mx: ∀ (k:Nat) (acc:List iQ),jL (mE k acc)=true
 |_,[]=>rfl
 |k,t::fa=>by
  have:=Mx (k+1) fa;simp only[jL,mE,List.map_cons,bP,bE,Bool.true_and] at this ⊢;exact this
set_option maxHeartbeats 1000000 in
theorem awZ (l:List cx)(oe:l.length≤9223372036854775806)(ab:Int):aK prog 117 [.pure 4 (ac l),.int .i64 ab] [] (fun v rs=>v= .own 0 (pf l ab).length 0 (pf l ab).length∧rs= [.aa 78 2 (ac (pf l ab))]):=by
 refine cr func117 acl (by simp[Ei,HR]) ?_;unfold pf;simp only[go_sem,Ei,HR];have IJ: (min (l.length:Int) 4096).toNat=min l.length 4096:=by omega
 rw[IJ];refine⟨by omega,by omega,?_⟩;have bF:l.take (min l.length 4096)=l.take 4096:=by
  by_cases h:l.length≤4096
  ·rw[List.take_of_length_le (by omega),List.take_of_length_le h]
  ·congr 1;omega
 try simp only[Int.toNat_zero,List.drop_zero,Nat.sub_zero]
 rw[bF];have ol: (l.take 4096).length≤4096:=by rw[List.length_take];omega
 generalize l.take 4096=X at ol ⊢
 try simp only[go_sem]
 refine dR (fun r d=> ∃ c:Nat,c≤X.length∧r= [(1,.int .i64 ab),(5,.own 1 ((X.take c).foldl (jk ab) []).length 0 ((X.take c).foldl (jk ab) []).length),(6,.bu 0),(16,.pure 4 (ac X)),(17,.int .i64 X.length),(18,.int .i64 c)]∧d= [.aY (.map false [.str] (mE 0 ((X.take c).foldl (jk ab) []))),.aa 78 2 (ac ((X.take c).foldl (jk ab) []))])
  (fun r _=>match bn r 18 with| .int _ j=>(X.length-j).toNat|_=>0) ?_ ?_
 ·(refine s.iI 5 78 2 rfl (s.eW [1,5,6,16,17,18] ?_);simp only[go_sem])
  exact s.U ⟨0,by omega,rfl,rfl⟩
 rintro r d ⟨c,an,rfl,rfl⟩;have aR:=dr (c:=c) (by omega);simp only[go_sem,Ei,HR];refine cg ?_ ?_<;>intro ck<;>simp only[bA] at ck<;>simp only[go_sem,Ei,HR]
 ·have aC:c < X.length:=by omega
  refine⟨by omega,by omega,?_⟩
  try simp only[Int.toNat_natCast]
  rw[cQ aC];have hv:=agk (ab:=ab) aC;obtain⟨rD,cB⟩:=agm X ab c an;generalize X[c]=p at hv ⊢;generalize (X.take c).foldl (jk ab) []=acc at hv rD cB ⊢;have zH: ∀ {EF:List iQ},EF=jk ab acc p→ ∃ EG:Nat,EG≤X.length∧([(1,.int .i64 ab),(5,.own 1 EF.length 0 EF.length),(6,.bu 0),(16,.pure 4 (ac X)),(17,.int .i64 X.length),(18,.int .i64 ((c+1:Nat):Int))]:aJ)= [(1,.int .i64 ab),(5,.own 1 ((X.take EG).foldl (jk ab) []).length 0 ((X.take EG).foldl (jk ab) []).length),(6,.bu 0),(16,.pure 4 (ac X)),(17,.int .i64 X.length),(18,.int .i64 EG)]∧([.aY (.map false [.str] (mE 0 EF)),.aa 78 2 (ac EF)]:List R)= [.aY (.map false [.str] (mE 0 ((X.take EG).foldl (jk ab) []))),.aa 78 2 (ac ((X.take EG).foldl (jk ab) []))]:=by
   intro EF h;exact⟨c+1,by omega,by rw[hv,←h],by rw[hv,←h]⟩
  have gB:=Mx 0 acc;simp only[go_sem,yY]
  by_cases aq:p.ab=ab
  rotate_left
  ·have mh: (p.ab != ab)=true:=by simp[aq]
   simp only[go_sem,mh,aR];refine s.kb [some 0,some 1] [] rfl rfl (by simp only[go_sem,gB]<;>rfl) ?_;simp only[go_sem];refine s.U ⟨zH (by rw[jk,if_neg (fun h=>aq h.1)]),?_⟩;simp only[go_sem];omega
  have mh: (p.ab != ab)=false:=by simp[aq]
  simp only[go_sem,mh];refine bH (afO _ _) rfl rfl ?_
  by_cases ag:ik p.J p.T
  rotate_left
  ·simp only[go_sem,ag,aR];refine s.kb [some 0,some 1] [] rfl rfl (by simp only[go_sem,gB]<;>rfl) ?_;simp only[go_sem];refine s.U ⟨zH (by rw[jk,if_neg (fun h=>ag h.2)]),?_⟩;simp only[go_sem];omega
  have mR:=ag;unfold ik at mR;have aCs:jk ab acc p=gi p.ep (p.T-p.J) acc:=by rw[jk,if_pos ⟨aq,ag⟩]
  rw[aCs] at zH;have My:=agi p.ep 0 acc;cases ad:oA p.ep acc with
  |none=>
   rw[ad] at My;have EH:=agj p.ep 0 0 acc ad;rw[Nat.zero_add] at EH;obtain⟨cZ,cL⟩: ∃ cZ:List iQ,cZ=acc++ [⟨p.ep,0⟩]:=⟨_,rfl⟩;have GM:cZ.length=acc.length+1:=by rw[cL];simp
   have aT:acc.length < cZ.length:=by omega
   have SD:cZ[acc.length]=⟨p.ep,0⟩:=by subst cL;simp
   have kn:gi p.ep (p.T-p.J) acc=cZ.set acc.length ⟨cZ[acc.length].name,cZ[acc.length].min+(p.T-p.J)⟩:=by
    rw[SA ad,SD];subst cL;simp
   have gm:mE 0 cZ=mE 0 (gi p.ep (p.T-p.J) acc):=by rw[kn,SC]
   have Mz:0≤cZ[acc.length].min∧cZ[acc.length].min≤120968640*4096:=by rw[SD];simp
   rw[←cL] at EH;have HS: (ac cZ).getD acc.length []= [.str cZ[acc.length].name,.int .i64 cZ[acc.length].min]:=by rw[cQ aT,QR]
   have ly: (ac cZ).set acc.length [.str cZ[acc.length].name,.int .i64 (cZ[acc.length].min+(p.T-p.J))]=ac (gi p.ep (p.T-p.J) acc):=by rw[kn];exact ve (x:=iQ.mk cZ[acc.length].name (cZ[acc.length].min+(p.T-p.J)))
   have agn: (gi p.ep (p.T-p.J) acc).length=cZ.length:=by rw[kn,List.length_set]
   have Ey:=Mx 0 (gi p.ep (p.T-p.J) acc);simp only[go_sem,ag,My,EH,aBU];refine⟨by omega,?_⟩;rw[←cL];simp only[go_sem,GM];refine⟨by omega,by omega,?_⟩
   try simp only[Int.toNat_natCast]
   simp only[go_sem,HS];rw[bf (x:=p.T-p.J) (by omega) (by omega),bf (x:=cZ[acc.length].min+(p.T-p.J)) (by omega) (by omega),aR];refine⟨by omega,by omega,by omega,by omega,?_⟩;rw[ly,gm,show acc.length+1=(gi p.ep (p.T-p.J) acc).length from by omega];refine s.kb [some 0,some 1] [] rfl rfl (by simp only[go_sem,Ey]<;>rfl) ?_;simp only[go_sem];refine s.U ⟨zH rfl,?_⟩;simp only[go_sem];omega
  |some j=>
   rw[ad] at My;obtain⟨aT,kn⟩:=SB (m:=p.T-p.J) ad;have gm:mE 0 acc=mE 0 (gi p.ep (p.T-p.J) acc):=by rw[kn,SC]
   have Mz:=rD acc[j] (List.getElem_mem _);have HS: (ac acc).getD j []= [.str acc[j].name,.int .i64 acc[j].min]:=by rw[cQ aT,QR]
   have ly: (ac acc).set j [.str acc[j].name,.int .i64 (acc[j].min+(p.T-p.J))]=ac (gi p.ep (p.T-p.J) acc):=by rw[kn];exact ve (x:=iQ.mk acc[j].name (acc[j].min+(p.T-p.J)))
   have agn: (gi p.ep (p.T-p.J) acc).length=acc.length:=by rw[kn,List.length_set]
   have Ey:=Mx 0 (gi p.ep (p.T-p.J) acc);simp only[go_sem,ag,My];refine⟨by omega,by omega,?_⟩
   try simp only[Int.toNat_natCast]
   simp only[go_sem,HS];rw[bf (x:=p.T-p.J) (by omega) (by omega),bf (x:=acc[j].min+(p.T-p.J)) (by omega) (by omega),aR];refine⟨by omega,by omega,?_⟩;rw[ly,gm,show acc.length=(gi p.ep (p.T-p.J) acc).length from by omega];refine s.kb [some 0,some 1] [] rfl rfl (by simp only[go_sem,Ey]<;>rfl) ?_;simp only[go_sem];refine s.U ⟨zH rfl,?_⟩;simp only[go_sem];omega
 ·obtain rfl:c=X.length:=by omega
  rw[List.take_length]
  (refine s.bw [some 1] ?_;simp only[go_sem])
  exact s.U ⟨rfl,rfl⟩
end Go.Proofs.YtpincjkjoeopkaaGreatDoor.Ib
