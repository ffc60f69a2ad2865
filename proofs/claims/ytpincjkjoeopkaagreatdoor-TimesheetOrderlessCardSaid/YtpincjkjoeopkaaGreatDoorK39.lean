/- Time evaluation. -/
import Derived.Test.YtpincjkjoeopkaaGreatDoorK38
import Derived.Test.YtpincjkjoeopkaaGreatDoorK29
import Derived.Test.YtpincjkjoeopkaaGreatDoorK30
set_option linter.unusedSimpArgs false
set_option linter.unusedVariables false
set_option linter.unusedSectionVars false
namespace Go.Proofs.YtpincjkjoeopkaaGreatDoor
open Go Go.Abs
noncomputable def my (i:er)(Y:List cp)(l:List Ib.Ev)(ai:List eS)(n o:Int):List mt:=
 (if decide (o∈iB (fK i Y l n)) then (Ib.pf (fK i Y l n) o).map fun t=>⟨t.name,t.min⟩ else [])++((kX i Y l n).filter fun p=>decide (p.ab=o)).map (fun p=>⟨p.name,p.min⟩)++ze (nf Y n o ai)
noncomputable def rQ (i:er)(l:List Ib.Ev)(n o:Int):List jQ:=((Pr.sW (kE l n) i.fm).filter (D3 i.D o)).map fun a=>⟨a.cH,a.time⟩
noncomputable def ov (i:er)(Y:List cp)(l:List Ib.Ev)(ai:List eS)(n o:Int):Option BB:=
 if (my i Y l ai n o).length+(rQ i l n o).length=0 then none else some ⟨o,my i Y l ai n o,rQ i l n o⟩
noncomputable def iZ (i:er)(Y:List cp)(l:List Ib.Ev)(ai:List eS)(n J T:Int):List BB:=((List.range (T-J+1).toNat).map fun (j:Nat)=>J+(j:Int)).filterMap (ov i Y l ai n)
theorem ZT {O:List Ib.cx}{o:Int}: ∀ {ax:List Int},ax.Nodup→((ji O ax).filter fun x=>decide (x.1=o)).map (·.2)=if decide (o∈ax) then (Ib.pf O o).map fun t=> [z.str t.name,.int .i64 t.min] else []
 | [],_=>by simp[ji]
 |e::ax,h=>by
  rw[List.nodup_cons] at h;have ih:=ZT (O:=O) (o:=o) h.2;have bF:ji O (e::ax)=iP O e++ji O ax:=rfl;rw[bF,List.filter_append,List.map_append,ih]
  by_cases he:e=o
  ·subst he;have et: (iP O e).filter (fun x=>decide (x.1=e))=iP O e:=List.filter_eq_self.2 fun x ad=>by
    unfold iP at ad;obtain⟨t,_,rfl⟩:=List.mem_map.1 ad;simp
   rw[et,if_neg (by simpa using h.1),if_pos (by simp),List.append_nil];unfold iP;rw[List.map_map];rfl
  ·have et: (iP O e).filter (fun x=>decide (x.1=o))= []:=List.filter_eq_nil_iff.2 fun x ad=>by
    unfold iP at ad;obtain⟨t,_,rfl⟩:=List.mem_map.1 ad;simpa using he
   rw[et,List.map_nil,List.nil_append];have: (o∈e::ax)↔o∈ax:=by
    rw[List.mem_cons];exact⟨fun h=>h.resolve_left fun x=>he x.symm,.inr⟩
   simp only[this]
theorem ZQ {i:er}{Y:List cp}{l:List Ib.Ev}{ai:List eS}{n J T:Int}{ax:List Int}{K:List cm}(fr:ax.Perm (iB (fK i Y l n)))(rJ:K.Perm (gy n ai))(qL:K.Pairwise pb){o:Int}(aq:J≤o∧o≤T):
 (pk i Y l ai n J T ax K).2 o false=ac (my i Y l ai n o):=by
 have Hb:=GY (O:=fK i Y l n) (c:=(fK i Y l n).length) (Nat.le_refl _);rw[List.take_length] at Hb;unfold pk my;rw[(zg _ _).2.1,(zh _ _).1,if_pos aq,List.nil_append,List.filter_append,List.filter_append,List.map_append,List.map_append,ZT (fr.nodup_iff.2 Hb.1)];have iT: (o∈ax)↔o∈iB (fK i Y l n):=fr.mem_iff;simp only[iT];have bF: ((jR (kX i Y l n)).filter fun x=>decide (x.1=o)).map (·.2)=ac (((kX i Y l n).filter fun p=>decide (p.ab=o)).map fun p=>(⟨p.name,p.min⟩:mt)):=by
  unfold jR ac;rw[List.filter_map,List.map_map,List.map_map];rfl
 have bJ: ((qR (dS Y n ai) K).filter fun x=>decide (x.1=o)).map (·.2)=ac (ze (nf Y n o ai)):=by
  rw[auW (o:=o) rJ qL];unfold qR Bw ac;rw[List.filter_map,List.map_map,List.map_map,List.filter_filter];have it: (K.filter fun k=>((fun x:Int×List z=>decide (x.1=o))∘fun k:cm=>(k.o,[z.str k.n,.int .i64 (dS Y n ai k)])) k&&decide (0 < dS Y n ai k))=K.filter fun k=>decide (k.o=o∧0 < dS Y n ai k):=List.filter_congr fun k _=>by simp[Function.comp]
  rw[it];rfl
 rw[bF,bJ];unfold ac;rw[List.map_append,List.map_append];congr 2;split
 ·rw[List.map_map];rfl
 ·rfl
theorem ZR {i:er}{Y:List cp}{l:List Ib.Ev}{ai:List eS}{n J T:Int}{ax:List Int}{K:List cm}{o:Int}(aq:J≤o∧o≤T):
 (pk i Y l ai n J T ax K).2 o true=ac (rQ i l n o):=by
 unfold pk rQ ac;rw[(zg _ _).1,(zh _ _).2.1,if_pos aq,List.nil_append,List.map_map];rfl
open Go.Proofs.Tryz
theorem ZN {J T:Int}: ∀ (aU:List (Int×List z)) (bq:List Int×(Int→Bool→List (List z))),bq.1.Nodup→(eJ J T bq aU).1.Nodup
 | [],bq,h=>h
 |x::aU,bq,h=>by
  have e:eJ J T bq (x::aU)=eJ J T (nb J T bq x) aU:=rfl;rw[e];refine ZN aU _ ?_;unfold nb;split
  ·exact DU h
  ·exact h
theorem ZO {D:bZ}{J T:Int}: ∀ (aU:List Pr.jQ) (bq:List Int×(Int→Bool→List (List z))),bq.1.Nodup→(kC D J T bq aU).1.Nodup
 | [],bq,h=>h
 |x::aU,bq,h=>by
  have e:kC D J T bq (x::aU)=kC D J T (pX D J T bq x) aU:=rfl;rw[e];refine ZO aU _ ?_;unfold pX;split
  ·exact DU h
  ·exact h
def BA (J T:Int):List Int:=(List.range (T-J+1).toNat).map fun (j:Nat)=>J+(j:Int)
theorem ZP {J T o:Int}:o∈BA J T↔J≤o∧o≤T:=by
 unfold BA;rw[List.mem_map];constructor
 ·rintro⟨j,aT,rfl⟩;rw[List.mem_range] at aT;omega
 ·rintro⟨h1,B⟩;exact⟨(o-J).toNat,by rw[List.mem_range];omega,by omega⟩
theorem avy (J T:Int): (BA J T).Pairwise (·< ·):=by
 unfold BA;rw[List.pairwise_map];exact List.pairwise_lt_range.imp fun h=>by omega
theorem avz {i:er}{Y:List cp}{l:List Ib.Ev}{ai:List eS}{n J T:Int}{ax:List Int}{K:List cm}(fr:ax.Perm (iB (fK i Y l n)))(rJ:K.Perm (gy n ai))(qL:K.Pairwise pb){o:Int}:
 o∈(pk i Y l ai n J T ax K).1↔(J≤o∧o≤T)∧(ov i Y l ai n o).isSome=true:=by
 have rp: (ov i Y l ai n o).isSome=true↔0 < (my i Y l ai n o).length∨0 < (rQ i l n o).length:=by
  unfold ov;split
  ·exact⟨fun h=>(by cases h),fun h=>by omega⟩
  ·exact⟨fun _=>by omega,fun _=>rfl⟩
 rw[rp]
 by_cases aq:J≤o∧o≤T
 ·have h1:=congrArg List.length (ZQ (J:=J) (T:=T) fr rJ qL aq);have B:=congrArg List.length (ZR (i:=i) (Y:=Y) (l:=l) (ai:=ai) (n:=n) (J:=J) (T:=T) (ax:=ax) (K:=K) aq);rw[bO] at h1 B;unfold pk at h1 B ⊢;rw[(zg _ _).2.1,(zh _ _).1,if_pos aq,List.nil_append,List.length_map] at h1;rw[(zg _ _).1,(zh _ _).2.1,if_pos aq,List.nil_append,List.length_map] at B;rw[(zg _ _).2.2,(zh _ _).2.2,←h1,←B];simp only[List.not_mem_nil,false_or,aq,true_and,and_self,List.length_pos_iff_exists_mem,List.mem_filter,decide_eq_true_eq]
 ·unfold pk;rw[(zg _ _).2.2,(zh _ _).2.2];constructor
  ·rintro ((h|⟨a,b,_⟩)|⟨a,b,_⟩)
   ·cases h
   ·exact absurd ⟨a,b⟩ aq
   ·exact absurd ⟨a,b⟩ aq
  ·rintro⟨h,_⟩;exact absurd h aq
theorem avA {i:er}{Y:List cp}{l:List Ib.Ev}{ai:List eS}{n J T:Int}{ax:List Int}{K:List cm}(fr:ax.Perm (iB (fK i Y l n)))(rJ:K.Perm (gy n ai))(qL:K.Pairwise pb):
 fh (pk i Y l ai n J T ax K).1=(BA J T).filter fun o=>(ov i Y l ai n o).isSome:=by
 have p:=(avy J T).filter fun o=>(ov i Y l ai n o).isSome;refine ZS ((List.perm_ext_iff_of_nodup (p.imp fun h=>by omega) ?_).2 fun o=> ?_) (p.imp fun h=>by omega)
 ·unfold pk;exact ZO _ _ (ZN _ _ List.nodup_nil)
 ·rw[List.mem_filter,ZP,avz fr rJ qL]
theorem avB (i:er)(hh:i.ak.length≤1000000)(aR:i.af.length≤1000000)(Y:List cp)(gm:Y.length≤1000000)(l:List Ib.Ev)(hl:l.length≤1000000)(ai:List eS)
 (hV: ∀ a∈ai,aK prog 40 [.agg (aG.F a)] [] (fun v rs=>v= .bool true∧rs= [])) (ar: ∀ a∈ai,Be a) (je: ∀ a∈ai,(Lit.int .i64 a.ab).wf=true∧a.name.size≤maxLen) (n J T:Int) (cY:D1 ai J T=0):
 aK prog 11 [.agg i.F,.pure 3 (ac Y),.pure 7 (ac l),.pure 4 (ac ai),.int .i64 n,.int .i64 J,.int .i64 T] []
  (fun v rs=>(if qQ i Y l n=0 then v= .bg [.pure 3 (ac (iZ i Y l ai n J T)),.int .i64 0] else v= .bg [.bD,.int .i64 (qQ i Y l n)])∧rs= []):=by
 refine aK.avf (avj i hh aR Y gm l hl ai hV ar je n J T cY) ?_;rintro v rs ⟨h,rfl⟩
 by_cases h0:qQ i Y l n=0
 rotate_left
 ·rw[if_neg h0] at h;exact⟨v,⟨by rw[if_neg h0];exact h,rfl⟩,fun _ _ h=>h⟩
 rw[if_pos h0] at h;obtain⟨ax,K,fr,rJ,qL,rfl⟩:=h;refine⟨_,⟨by rw[if_pos h0],rfl⟩,fun C x ad=> ?_⟩;rw[Rep] at ad ⊢;obtain⟨vs,rfl,ad⟩:=ad;refine⟨vs,rfl,?_⟩;rw[ay] at ad ⊢;obtain⟨a,bW,e,h1,B⟩:=ad;refine⟨a,bW,e,?_,B⟩;rw[avA fr rJ qL] at h1;have bF:ac (iZ i Y l ai n J T)=((BA J T).filter fun o=>(ov i Y l ai n o).isSome).map fun o=> [z.int .i64 o,.pure 2 (ac (my i Y l ai n o)),.pure 2 (ac (rQ i l n o))]:=by
  have key: ∀ ds:List Int,ac (ds.filterMap (ov i Y l ai n))=(ds.filter fun o=>(ov i Y l ai n o).isSome).map fun o=> [z.int .i64 o,.pure 2 (ac (my i Y l ai n o)),.pure 2 (ac (rQ i l n o))]:=by
   intro ds
   induction ds with
   |nil=>rfl
   |cons o ds ih=>
    rw[List.filterMap_cons,List.filter_cons];cases h:ov i Y l ai n o with
    |none=>simpa using ih
    |some y=>
     have bl:y=⟨o,my i Y l ai n o,rQ i l n o⟩:=by
      unfold ov at h;split at h
      ·cases h
      ·cases h;rfl
     simp only[Option.isSome_some,if_true,List.map_cons,ac] at ih ⊢;rw[ih,bl];rfl
  exact key (BA J T)
 rw[bF];refine auX (fun o aq=> ?_) h1;have G:=ZP.1 (List.mem_filter.1 aq).1;unfold pl ou;rw[ZQ fr rJ qL G,ZR G,bO,bO];refine⟨rfl,?_,?_,trivial⟩
 ·split
  ·rename_i h;rw[List.length_eq_zero_iff.1 h];simp[le,ac]
  ·exact le_refl _ (fun q h=>by cases h) (fun q h=>by cases h)
 ·split
  ·rename_i h;rw[List.length_eq_zero_iff.1 h];simp[le,ac]
  ·exact le_refl _ (fun q h=>by cases h) (fun q h=>by cases h)
def Kt (a:eS):Prop:=1≤a.bh∧a.bh≤2147483647∧0≤a.ab∧a.ab≤84005∧ -1≤a.min∧a.min≤1440
theorem atk (a:eS)(h:Kt a)(aB:aK prog 108 [.str a.name] [] (fun v rs=>v= .bool true∧rs= [])):aK prog 40 [.agg (aG.F a)] [] (fun v rs=>v= .bool true∧rs= []):=by
 obtain⟨h1,B,am,bp,cn,dj⟩:=h;have d1:decide (1≤a.bh)=true:=decide_eq_true h1;have kd:decide (a.bh≤2147483647)=true:=decide_eq_true B;have uY:decide (0≤a.ab)=true:=decide_eq_true am;have yr:decide (a.ab≤84005)=true:=decide_eq_true bp;have Gm:decide (-1≤a.min)=true:=decide_eq_true cn;have Gn:decide (a.min≤1440)=true:=decide_eq_true dj;refine cr func40 XM (by simp[Ku,PZ]) ?_;simp only[go_sem,Ku,PZ,PX,d1,kd,uY,yr,Gm,Gn,P0];refine bH aB rfl rfl ?_;simp only[go_sem,Gm,Gn,P0];exact s.bb rfl ⟨rfl,rfl⟩
theorem Xn {l:List cp}{a b o:Int}:ac l++ [[.int .i64 a,.int .i64 b,.int .i64 o]]=ac (l++ [⟨a,b,o⟩]):=kz (x:=cp.mk a b o)
def PK:ByteArray:=⟨#[115,105,99,107]⟩
def PL:ByteArray:=⟨#[108,101,97,118,101]⟩
def PM:ByteArray:=⟨#[111,116,49]⟩
def Km (a:eS):Prop:=(a.bh=1∨a.bh=2)∧20454≤a.ab∧a.ab≤20458∧(a.name=PK∨a.name=PL∨a.name=PM)∧(a.min= -1∨a.min=480∨a.min=0∨a.min=60)
theorem asj (l:List Int)(hl:kx l)(n:Int)(Gh:0≤n)(aB:n≤1000)(aD:Int)(h0:0≤aD)(h1:aD≤l.length):aK prog 24 [.aW 0 1 0 0,.int .i64 n] [fx l aD]
 (fun v rs=> ∃ (a:Int) (ai:List eS),v= .own 1 ai.length 0 ai.length∧rs= [fx l a,.aa 25 4 (ac ai)]∧0≤a∧a≤l.length∧ai.length≤n∧ ∀ x∈ai,Km x):=by
 refine hr func24 Xo (by simp[a24,Gi]) ?_;simp only[go_sem,a24,Gi,fx];have PN:IntKind.i64.wrap (n+1)=n+1:=bf (by omega) (by omega)
 (refine s.U ?_;simp only[go_sem])
 (refine s.U ?_;simp only[go_sem])
 rw[PN]
 (refine ie (fB l hl (n+1) (by omega)) ?_;rintro _ aD _ _ ⟨k,rfl,_,_⟩;simp only[go_sem])
 (refine s.U ?_;simp only[go_sem])
 refine gY (fun r d=> ∃ (a:Int) (ai:List eS) (j:Int),r= [(0,.aW 0 1 0 0),(5,.own 1 ai.length 0 ai.length),(6,.int .i64 j)]∧d= [dK 143 l a,.aa 25 4 (ac ai)]∧0≤a∧a≤l.length∧0≤j∧ai.length+j≤n∧ ∀ x∈ai,Km x)
  (fun r _=>match bn r 6 with| .int _ j=>j.toNat|_=>0) ?_ ?_
 ·(refine s.iI 5 25 4 rfl (s.eW [0,5,6] ?_);simp only[go_sem])
  exact s.U ⟨aD,[],k,rfl,rfl,by omega,by omega,by omega,by simp;omega,by simp⟩
 rintro r d ⟨aD,ai,j,rfl,rfl,_,_,_,jv,sw⟩;simp only[go_sem,a24,Gi]
 (refine s.U ?_;simp only[go_sem])
 refine dg ?_ ?_<;>intro ao<;>simp only[bA] at ao<;>simp only[go_sem,a24,Gi]
 ·(refine s.U ?_;simp only[go_sem])
  (refine wP (fB l hl 4 (by omega)) ?_;rintro _ aD _ _ ⟨e,rfl,_,_⟩;simp only[go_sem])
  have he:e.tdiv 3=0∨e.tdiv 3=1:=by rw[Int.tdiv_eq_ediv_of_nonneg (by omega)];omega
  generalize e.tdiv 3=q at *;have asl:IntKind.i64.wrap q=q:=bf (by omega) (by omega);have asm:IntKind.i64.wrap (1+q)=1+q:=bf (by omega) (by omega);simp only[go_sem,asl,asm];refine⟨by omega,?_⟩
  (refine wP (fB l hl 5 (by omega)) ?_;rintro _ aD _ _ ⟨o,rfl,_,_⟩;simp only[go_sem])
  have vq:IntKind.i64.wrap (20454+o)=20454+o:=bf (by omega) (by omega);simp only[go_sem,vq]
  (refine wP (fB l hl 3 (by omega)) ?_;rintro _ aD _ _ ⟨x,rfl,_,_⟩;simp only[go_sem])
  refine⟨by omega,by omega,?_⟩
  (refine FU [-1,480,0,60] (gG l hl _ (by simp) (by simp)) ?_;rintro _ aD _ _ ⟨m,bV,rfl⟩;simp only[fA] at bV;simp only[go_sem])
  have hm:=bV;clear bV;rcases (show x=0∨x=1∨x=2 by omega) with rfl|rfl|rfl
  all_goals
   simp only[go_sem]
   try refine⟨by omega,?_⟩
  ·(refine s.bw [some 0,some 1] ?_;simp only[go_sem])
   (refine s.U ?_;simp only[go_sem])
   rw[bf (by omega) (by omega)];refine s.U ⟨⟨aD,ai++ [⟨1+q,20454+o,PK,m⟩],j-1,by simp,by rw[←kz];rfl,by omega,by omega,by omega,by simp;omega,?_⟩,?_⟩
   ·intro y bl;rcases List.mem_append.1 bl with bl|bl
    ·exact sw y bl
    ·rw[List.mem_singleton] at bl;subst bl;refine⟨by simp only;omega,by simp only;omega,by simp only;omega,by simp,by simp only;omega⟩
   ·simp only[go_sem];omega
  ·(refine s.bw [some 0,some 1] ?_;simp only[go_sem])
   (refine s.U ?_;simp only[go_sem])
   rw[bf (by omega) (by omega)];refine s.U ⟨⟨aD,ai++ [⟨1+q,20454+o,PL,m⟩],j-1,by simp,by rw[←kz];rfl,by omega,by omega,by omega,by simp;omega,?_⟩,?_⟩
   ·intro y bl;rcases List.mem_append.1 bl with bl|bl
    ·exact sw y bl
    ·rw[List.mem_singleton] at bl;subst bl;refine⟨by simp only;omega,by simp only;omega,by simp only;omega,by simp,by simp only;omega⟩
   ·simp only[go_sem];omega
  ·(refine s.bw [some 0,some 1] ?_;simp only[go_sem])
   (refine s.U ?_;simp only[go_sem])
   rw[bf (by omega) (by omega)];refine s.U ⟨⟨aD,ai++ [⟨1+q,20454+o,PM,m⟩],j-1,by simp,by rw[←kz];rfl,by omega,by omega,by omega,by simp;omega,?_⟩,?_⟩
   ·intro y bl;rcases List.mem_append.1 bl with bl|bl
    ·exact sw y bl
    ·rw[List.mem_singleton] at bl;subst bl;refine⟨by simp only;omega,by simp only;omega,by simp only;omega,by simp,by simp only;omega⟩
   ·simp only[go_sem];omega
 ·(refine s.U ?_;simp only[go_sem])
  (refine s.U ?_;simp only[go_sem])
  exact s.U ⟨aD,ai,rfl,rfl,by omega,by omega,by omega,sw⟩
def vr (D:bZ):Int→List cp→Int
 |e,[]=>e
 |_,E::l=>vr D (fO D E).T l
theorem Xp {D:bZ}{E:cp}(ak:ej D E=0): ∀ {l:List cp} {e:Int},nD D e l=0→vr D e l≤(fO D E).J→nD D e (l++ [E])=0∧vr D e (l++ [E])=(fO D E).T
 | [],e,_,h=>by
  rw[vr] at h;rw[List.nil_append,nD,if_pos ak,if_neg (by omega),nD,vr,vr];exact⟨rfl,rfl⟩
 |x::l,e,h,B=>by
  rw[nD] at h;rw[vr] at B;rw[List.cons_append,nD,vr]
  by_cases ad:ej D x=0
  ·rw[if_pos ad] at h ⊢;split at h
   ·cases h
   ·rename_i am;rw[if_neg am];exact Xp ak h B
  ·rw[if_neg ad] at h;exact absurd h ad
theorem asn {t:Int}(h0:0≤t)(h1:t≤120968639):tY ⟨0,[]⟩ t=t:=by
 unfold tY;rw[if_neg (by omega)];simp only[lH,sE];rw[show max 0 (max t (-840)-0)=t by omega,if_pos (by omega)]
theorem aso {E:cp}(h:xa E)(B:E.ab*1440+E.bq+E.cF≤120968640):ej ⟨0,[]⟩ E=0∧fO ⟨0,[]⟩ E=⟨E.ab*1440+E.bq,E.ab*1440+E.bq+E.cF⟩:=by
 have cJ:=h;unfold xa at cJ;have e:pS ⟨0,[]⟩ E=E.ab*1440+E.bq:=asn (by omega) (by omega);have bF:ej ⟨0,[]⟩ E=0:=by
  unfold ej;rw[if_pos (show eR ⟨0,[]⟩=0 from rfl),if_pos h,e,if_neg (by omega)]
 exact⟨bF,by unfold fO;rw[if_pos bF,e]⟩
def Kn (Y:List cp)(aP:Int):Prop:=nD ⟨0,[]⟩ 0 Y=0∧vr ⟨0,[]⟩ 0 Y≤aP
def Gj (Y:List cp)(o:Int):Prop:=Kn Y ((20454+o)*1440+360)
theorem PO {Y:List cp}{aP:Int}{E:cp}(h:Kn Y aP)(ak: (20454≤E.ab∧E.ab≤21000)∧(0≤E.bq∧E.bq < 1440)∧1≤E.cF∧E.cF≤1440)(hv:aP≤E.ab*1440+E.bq)(e:Int)(he:E.ab*1440+E.bq+E.cF≤e):Kn (Y++ [E]) e:=by
 obtain⟨h1,B⟩:=h;obtain⟨a,b⟩:=aso (E:=E) ⟨by omega,by omega,by omega⟩ (by omega);obtain⟨F,f⟩:=Xp a h1 (by rw[b];simp only;omega);exact⟨F,by rw[f,b];simp only;omega⟩
theorem Xq {Y:List cp}{o:Int}{E:cp}(h:Gj Y o)(aq:0≤o∧o≤500)(ak:E.ab=20454+o∧360≤E.bq∧E.bq < 1440∧1≤E.cF∧E.cF≤1440)(e:Int)(he:E.ab*1440+E.bq+E.cF≤(20454+e)*1440+360):
 Gj (Y++ [E]) e:=PO h (by omega) (by omega) _ he
theorem asp {Y:List cp}{o:Int}(h:Gj Y o)(hl:Y.length≤1024):iN ⟨0,[]⟩ Y=0:=by
 unfold iN;rw[if_neg (by omega),if_pos (show eR ⟨0,[]⟩=0 from rfl)];exact h.1
def Gk (Y:List cp)(o:Int):Prop:=(∀ x,(Y.filter fun E=>decide (E.ab=x)).length≤2)∧ ∀ E∈Y,E.ab < 20454+o
theorem PP {Y S:List cp}{o e:Int}(h:Gk Y o)(de: ∀ E∈S,E.ab=20454+o)(hl:S.length≤2)(he:o < e):Gk (Y++S) e:=by
 refine⟨fun x=> ?_,fun E ak=> ?_⟩
 ·rw[List.filter_append,List.length_append];have h1:=h.1 x
  by_cases ad:x=20454+o
  ·have:Y.filter (fun E=>decide (E.ab=x))= []:=List.filter_eq_nil_iff.2 fun E ak=>by
    have:=h.2 E ak;simp;omega
   rw[this];have:=List.length_filter_le (fun E:cp=>decide (E.ab=x)) S;simp;omega
  ·have:S.filter (fun E=>decide (E.ab=x))= []:=List.filter_eq_nil_iff.2 fun E ak=>by
    have:=de E ak;simp;omega
   rw[this];simpa using h1
 ·rcases List.mem_append.1 ak with ak|ak
  ·have:=h.2 E ak;omega
  ·have:=de E ak;omega
theorem asq {Y:List cp}{o e:Int}(h:Gk Y o)(he:o≤e):Gk Y e:=⟨h.1,fun E ak=>by have:=h.2 E ak;omega⟩
def Dx (E:cp):Prop:=20454≤E.ab∧E.ab≤20554∧1≤E.cF∧E.cF≤510
theorem asr (l:List Int)(hl:kx l)(n:Int)(Gh:0≤n)(aB:n≤50)(aD:Int)(h0:0≤aD)(h1:aD≤l.length):aK prog 18 [.aW 0 1 0 0,.int .i64 n] [fx l aD]
 (fun v rs=> ∃ (a:Int) (Y:List cp),v= .own 1 Y.length 0 Y.length∧rs= [fx l a,.aa 140 3 (ac Y)]∧0≤a∧a≤l.length∧Y.length≤2*n∧iN ⟨0,[]⟩ Y=0∧(∀ x,(Y.filter fun E=>decide (E.ab=x)).length≤2)∧ ∀ E∈Y,Dx E):=by
 refine hr func18 Xr (by simp[Dy,Gl]) ?_;simp only[go_sem,Dy,Gl,fx]
 (refine s.U ?_;simp only[go_sem])
 (refine s.U ?_;simp only[go_sem])
 refine s.U ?_
 try simp only[go_sem]
 refine gY (fun r d=> ∃ (a:Int) (Y:List cp) (o:Int),r= [(0,.aW 0 1 0 0),(1,.int .i64 n),(5,.own 1 Y.length 0 Y.length),(6,.int .i64 o)]∧d= [dK 143 l a,.aa 140 3 (ac Y)]∧0≤a∧a≤l.length∧0≤o∧o≤n+1∧Y.length≤2*o∧Y.length≤2*n∧Gj Y o∧Gk Y o∧ ∀ E∈Y,Dx E)
  (fun r _=>match bn r 6 with| .int _ j=>(n+1-j).toNat|_=>0) ?_ ?_
 ·(refine s.iI 5 140 3 rfl (s.eW [0,1,5,6] ?_);simp only[go_sem])
  exact s.U ⟨aD,[],0,rfl,rfl,by omega,by omega,by omega,by omega,by simp,by simp;omega,⟨rfl,by simp[vr]⟩,⟨by simp,by simp⟩,by simp⟩
 rintro r d ⟨aD,Y,o,rfl,rfl,_,_,Dz,Ko,hn,Bb,DA,pa,jO⟩;simp only[go_sem,Dy,Gl]
 (refine s.U ?_;simp only[go_sem])
 refine dg ?_ ?_<;>intro ao<;>simp only[bA] at ao<;>simp only[go_sem,Dy,Gl]
 ·(refine s.U ?_;simp only[go_sem])
  (refine ie (fB l hl 5 (by omega)) ?_;rintro _ aD _ _ ⟨F,rfl,_,_⟩;simp only[go_sem])
  have vq:IntKind.i64.wrap (20454+o)=20454+o:=bf (by omega) (by omega);have Kp:IntKind.i64.wrap (o+1)=o+1:=bf (by omega) (by omega);have ass:IntKind.i64.wrap (o+1+1)=o+2:=by rw[bf (by omega) (by omega)];omega
  rcases (show F=0∨F=1∨F=2∨(3≤F∧F < 5) by omega) with rfl|rfl|rfl|V
  ·(refine s.U ?_;simp only[go_sem])
   (refine s.U ?_;simp only[go_sem])
   try rw[vq]
   (refine iy [480,360,450] (gG l hl _ (by simp) (by simp)) ?_;rintro _ aD _ _ ⟨E,bV,rfl⟩;simp only[fA] at bV;simp only[go_sem])
   have ak:E=480∨E=360∨E=450:=bV;clear bV
   (refine iy [480,510,300] (gG l hl _ (by simp) (by simp)) ?_;rintro _ aD _ _ ⟨m,bV,rfl⟩;simp only[fA] at bV;simp only[go_sem])
   have hm:m=480∨m=510∨m=300:=bV;clear bV;refine⟨by omega,?_⟩;rw[Xn]
   (refine s.bw [some 0,some 1] ?_;simp only[go_sem])
   (refine s.U ?_;simp only[go_sem])
   rw[Kp];refine s.U ⟨⟨aD,_,o+1,by rw[List.length_append];rfl,rfl,by omega,by omega,by omega,by omega,?_,?_,Xq DA (by omega) ?_ _ ?_,PP pa (by simp) (by simp) (by omega),?_⟩,?_⟩
   ·rw[List.length_append,List.length_singleton];omega
   ·rw[List.length_append,List.length_singleton];omega
   ·simp only[true_and];omega
   ·simp only;omega
   ·intro y bl;rcases List.mem_append.1 bl with bl|bl
    ·exact jO y bl
    ·rw[List.mem_singleton] at bl;subst bl;unfold Dx;simp only;omega
   ·simp only[go_sem];omega
  ·(refine s.U ?_;simp only[go_sem])
   (refine s.U ?_;simp only[go_sem])
   (refine s.U ?_;simp only[go_sem])
   try rw[vq]
   refine⟨by omega,?_⟩;rw[Xn]
   (refine s.bw [some 0,some 1] ?_;simp only[go_sem])
   (refine s.U ?_;simp only[go_sem])
   (refine s.U ?_;simp only[go_sem])
   rw[Kp,ass];refine s.U ⟨⟨aD,_,o+2,by rw[List.length_append];rfl,rfl,by omega,by omega,by omega,by omega,?_,?_,Xq DA (by omega) ?_ _ ?_,PP pa (by simp) (by simp) (by omega),?_⟩,?_⟩
   ·rw[List.length_append,List.length_singleton];omega
   ·rw[List.length_append,List.length_singleton];omega
   ·simp only[true_and];omega
   ·simp only;omega
   ·intro y bl;rcases List.mem_append.1 bl with bl|bl
    ·exact jO y bl
    ·rw[List.mem_singleton] at bl;subst bl;unfold Dx;simp only;omega
   ·simp only[go_sem];omega
  ·(refine s.U ?_;simp only[go_sem])
   (refine s.U ?_;simp only[go_sem])
   (refine s.U ?_;simp only[go_sem])
   (refine s.U ?_;simp only[go_sem])
   try rw[vq]
   (refine iy [240,60] (gG l hl _ (by simp) (by simp)) ?_;rintro _ aD _ _ ⟨m,bV,rfl⟩;simp only[fA] at bV;simp only[go_sem])
   have hm:m=240∨m=60:=bV;clear bV;refine⟨by omega,?_⟩;have aQ:ac Y++ [[.int .i64 (20454+o),.int .i64 360,.int .i64 240],[.int .i64 (20454+o),.int .i64 720,.int .i64 m]]=ac (Y++ [⟨20454+o,360,240⟩]++ [⟨20454+o,720,m⟩]):=by
    rw[←kz,←kz,List.append_assoc];rfl
   rw[aQ]
   (refine s.bw [some 0,some 1] ?_;simp only[go_sem])
   (refine s.U ?_;simp only[go_sem])
   rw[Kp];have h1:Kn (Y++ [⟨20454+o,360,240⟩]) ((20454+o)*1440+600):=PO DA (by simp only;omega) (by simp only;omega) _ (by simp only;omega);have B:Gj (Y++ [⟨20454+o,360,240⟩]++ [⟨20454+o,720,m⟩]) (o+1):=PO h1 (by simp only;omega) (by simp only;omega) _ (by simp only;omega);have cB: (Y++ [(⟨20454+o,360,240⟩:cp)]++ [(⟨20454+o,720,m⟩:cp)]).length=Y.length+2:=by simp
   refine s.U ⟨⟨aD,_,o+1,by rw[cB],rfl,by omega,by omega,by omega,by omega,by rw[cB];omega,by rw[cB];omega,B,by rw[List.append_assoc];exact PP pa (by simp) (by simp) (by omega),?_⟩,?_⟩
   ·intro y bl;rcases List.mem_append.1 bl with bl|bl
    ·rcases List.mem_append.1 bl with bl|bl
     ·exact jO y bl
     ·rw[List.mem_singleton] at bl;subst bl;unfold Dx;simp only;omega
    ·rw[List.mem_singleton] at bl;subst bl;unfold Dx;simp only;omega
   ·simp only[go_sem];omega
  ·have iT: (F==0)=false:=beq_eq_false_iff_ne.2 (by omega);have bF: (F==1)=false:=beq_eq_false_iff_ne.2 (by omega);have bJ: (F==2)=false:=beq_eq_false_iff_ne.2 (by omega);refine s.U ?_;simp only[go_sem,iT,bF,bJ];refine s.U ?_;simp only[go_sem,iT,bF,bJ];refine s.U ?_;simp only[go_sem,iT,bF,bJ];refine s.U ?_;simp only[go_sem,iT,bF,bJ];refine s.U ?_;simp only[go_sem,iT,bF,bJ];refine s.U ?_;simp only[go_sem,iT,bF,bJ];rw[Kp];obtain⟨h1,B⟩:=DA;refine⟨⟨aD,Y,o+1,rfl,rfl,by omega,by omega,by omega,by omega,by omega,by omega,⟨h1,by omega⟩,asq pa (by omega),jO⟩,by omega⟩
 ·(refine s.U ?_;simp only[go_sem])
  (refine s.U ?_;simp only[go_sem])
  exact s.U ⟨aD,Y,rfl,rfl,by omega,by omega,Bb,asp DA (by omega),pa.1,jO⟩
end Go.Proofs.YtpincjkjoeopkaaGreatDoor
