/- Time evaluation. -/
import Derived.Test.YtpincjkjoeopkaaGreatDoorK41
import Derived.Test.YtpincjkjoeopkaaGreatDoorK36
import Derived.Test.YtpincjkjoeopkaaGreatDoorK37
set_option linter.unusedSimpArgs false
set_option linter.unusedVariables false
set_option linter.unusedSectionVars false
namespace Go.Proofs.YtpincjkjoeopkaaGreatDoor
open Go Go.Abs Go.Proofs.Tryz
def Lw:List (z×z)→Option (List ByteArray)
 | []=>some []
 | (.str n,_)::l=>match Lw l with|some hk=>some (n::hk)|none=>none
 |_::_=>none
theorem aap: ∀ {l:List (z×z)} {hk:List ByteArray},Lw l=some hk→l.map (·.1)=hk.map (z.str ·)
 | [],hk,h=>by cases h;rfl
 |p::l,hk,h=>by
  unfold Lw at h;split at h
  ·cases ‹_::_= []›
  ·rename_i n v bX lB;cases lB;split at h
   ·rename_i kt uK;cases h;rw[List.map_cons,aap uK];rfl
   ·cases h
  ·cases h
def xt:List UInt8→List UInt8→Bool
 | [],_=>true
 |_::_,[]=>false
 |x::ai,y::ys=>if x.toNat < y.toNat then true else if y.toNat < x.toNat then false else xt ai ys
theorem Rw: ∀ (x y:List UInt8),xt x y=true→x≤y
 | [],y,_=>List.nil_le y
 |_::_,[],h=>by simp[xt] at h
 |x::ai,y::ys,h=>by
  rw[xt] at h;split at h
  ·rename_i hl;exact List.le_of_lt (List.cons_lt_cons_iff.2 (.inl hl))
  ·split at h
   ·cases h
   ·rename_i h1 B;obtain rfl:x=y:=UInt8.toNat_inj.1 (by omega);exact List.cons_le_cons_iff.2 (.inr ⟨rfl,Rw ai ys h⟩)
theorem aaq: ∀ (x y:List UInt8),xt x y=false→xt y x=true
 | [],y,h=>by simp[xt] at h
 |_::_,[],_=>rfl
 |x::ai,y::ys,h=>by
  rw[xt] at h ⊢;split at h
  ·cases h
  ·split at h
   ·rename_i h1 B;rw[if_pos B]
   ·rename_i h1 B;rw[if_neg B,if_neg h1];exact aaq ai ys h
def BF (x:List UInt8):List (List UInt8)→List (List UInt8)
 | []=> [x]
 |y::ys=>if xt x y then x::y::ys else y::BF x ys
def Hh:List (List UInt8)→List (List UInt8)
 | []=> []
 |x::ai=>BF x (Hh ai)
theorem Rx (x:List UInt8): ∀ l:List (List UInt8),(BF x l).Perm (x::l)
 | []=>List.Perm.refl _
 |y::ys=>by
  rw[BF];split
  ·exact List.Perm.refl _
  ·exact ((Rx x ys).cons y).trans (List.Perm.swap x y ys)
theorem aar: ∀ l:List (List UInt8),(Hh l).Perm l
 | []=>List.Perm.refl _
 |x::ai=>(Rx x _).trans ((aar ai).cons x)
theorem aas (x:List UInt8): ∀ {l:List (List UInt8)},l.Pairwise (·≤ ·)→(BF x l).Pairwise (·≤ ·)
 | [],_=>by simp[BF]
 |y::ys,h=>by
  rw[List.pairwise_cons] at h;rw[BF];split
  ·rename_i V;have h1:=Rw _ _ V;exact List.pairwise_cons.2 ⟨fun D aS=>by
    rcases List.mem_cons.1 aS with rfl|aS
    ·exact h1
    ·exact List.le_trans h1 (h.1 D aS),List.pairwise_cons.2 h⟩
  ·rename_i V;have h1:=Rw _ _ (aaq _ _ (by simpa using V));exact List.pairwise_cons.2 ⟨fun D aS=>by
    rcases List.mem_cons.1 ((Rx x ys).mem_iff.1 aS) with rfl|aS
    ·exact h1
    ·exact h.1 D aS,aas x h.2⟩
theorem aat: ∀ l:List (List UInt8),(Hh l).Pairwise (·≤ ·)
 | []=>List.Pairwise.nil
 |x::ai=>aas x (aat ai)
theorem awx (M:List ByteArray):Ll M=(Hh (M.map fun E=>E.data.toList)).map D6:=by
 unfold Ll;congr 1;have kb: ∀ a b F:List UInt8,leB a b=true→leB b F=true→leB a F=true:=fun a b F h1 B=>by simp only[leB,decide_eq_true_eq] at *;exact List.le_trans h1 B
 have T: ∀ a b:List UInt8,(leB a b||leB b a)=true:=fun a b=>by simp only[leB,Bool.or_eq_true,decide_eq_true_eq];exact List.le_total a b
 refine List.Perm.eq_of_pairwise (le:=fun a b=>leB a b=true) (fun a b _ _ h1 B=> ?_) (List.pairwise_mergeSort kb T _) ((aat _).imp fun h=>decide_eq_true h) ((List.mergeSort_perm _ leB).trans (aar _).symm);simp only[leB,decide_eq_true_eq] at h1 B;exact List.le_antisymm h1 B
def Lx:List (List UInt8)→Bool
 | []=>true
 |x::ai=> !ai.contains x&&Lx ai
theorem aau: ∀ {l:List ByteArray},Lx (l.map fun E=>E.data.toList)=true→l.Nodup
 | [],_=>List.nodup_nil
 |x::ai,h=>by
  simp only[List.map_cons,Lx,Bool.and_eq_true,Bool.not_eq_true',List.contains_eq_mem,decide_eq_false_iff_not] at h;exact List.nodup_cons.2 ⟨fun hm=>h.1 (List.mem_map_of_mem hm),aau h.2⟩
def Ry (args:List z)(d:List R):Option (z×List R):=
 match args with
 | [.fn 189 [.aW b 1 0 0]]=>
  match d[b]? with
  |some (.aa _ 1 [[.bu a]])=>
   match d[a]? with
   |some (.aY (.map false [.str] ents))=>
    match Lw ents with
    |some M=>if Lx (M.map fun E=>E.data.toList)=true∧M.all (fun E=>decide (E.size≤1000))=true∧M.length≤1000000 then some (.pure 1 (xs ((Hh (M.map fun E=>E.data.toList)).map D6)),d) else none
    |none=>none
   |_=>none
  |_=>none
 |_=>none
theorem awy (args:List z)(d:List R)(v:z)(rs:List R)(h:Ry args d=some (v,rs)):aK prog 104 args d fun gq gX=>gq=v∧gX=rs:=by
 unfold Ry at h;split at h
 ·split at h
  ·rename_i Z;split at h
   ·rename_i aw;split at h
    ·rename_i M kK;split at h
     ·rename_i V;simp only[Option.some.injEq,Prod.mk.injEq] at h;obtain⟨rfl,rfl⟩:=h;rw[←awx];exact avU aw Z (aap kK) (aau V.1) (fun x ad=>Nat.le_trans (of_decide_eq_true (List.all_eq_true.1 V.2.1 x ad)) (by decide)) V.2.2
     ·cases h
    ·cases h
   ·cases h
  ·cases h
 ·cases h
theorem awz {d:List R}{a:Nat}:aK prog 105 [.bu a] d
 (fun v rs=>v= .fn 189 [.aW d.length 1 0 0]∧rs=d++ [.aa 201 1 [[.bu a]]]):=by
 refine aK.qw fun nh w=> ?_
 go_enter func105,ntmps105
 go_wp2
 go_ret
 exact⟨rfl,rfl⟩
def awA:List (tU prog):=⟨104,Ry,awy⟩::⟨105,D9 189 201,Lu fun _ _=>awz⟩::awB
set_option maxRecDepth 1000000
theorem awp:aK prog 15 [] [] (fun v rs=>v= .bool true∧rs= []):=
 yD (aP:=zj) (aU:=awA) 60 [(.bool true,[]),(.bool true,[])] (by kernel_rfl) (by intro L h;simp only[List.mem_cons,List.not_mem_nil,or_false,or_self] at h;subst h;exact⟨rfl,rfl⟩)
end Go.Proofs.YtpincjkjoeopkaaGreatDoor
namespace Go.Proofs.YtpincjkjoeopkaaGreatDoor.Ib
open Go Go.Abs Go.Proofs.Tryz
def vI (t:Int):Prop:=29453760≤t∧t≤29470000
def my (e:Ev):Prop:=ul e∧vI e.time
theorem afx {bd:Type}{P:bd→Prop}{l:List bd}{c:Nat}{x:bd}(h: ∀ y∈l,P y)(ad:P x): ∀ y∈l.set c x,P y:=by
 intro y bl;rcases List.mem_or_eq_of_mem_set bl with h1|h1
 ·exact h y h1
 ·subst h1;exact ad
theorem aBk (l:List Int)(hl:kx l)(n:Int)(Gh:0≤n)(aB:n≤10)(aD:Int)(h0:0≤aD)(h1:aD≤l.length):aK prog 23 [.aW 0 1 0 0,.int .i64 n] [fx l aD]
 (fun v rs=> ∃ (a:Int) (al:List Ev),v= .own 1 al.length 0 al.length∧rs= [fx l a,.aa 71 7 (ac al)]∧0≤a∧a≤l.length∧al.length≤5*n∧ ∀ e∈al,my e):=by
 refine hr func23 aaW (by simp[a23,rS]) ?_;unfold fx;simp only[go_sem,a23,rS]
 repeat (refine s.U ?_;simp only[go_sem])
 refine gY (fun r d=> ∃ (a:Int) (o:Nat) (al:List Ev),0≤a∧a≤l.length∧o≤n∧al.length≤5*o∧(∀ e∈al,my e)∧r= [(0,.aW 0 1 0 0),(1,.int .i64 n),(5,.own 1 al.length 0 al.length),(6,.int .i64 (20+4*o)),(7,.int .i64 o)]∧d= [dK 143 l a,.aa 71 7 (ac al)])
  (fun r _=>match bn r 7 with| .int _ j=>(n-j).toNat|_=>0) ?_ ?_
 ·(refine s.iI 5 71 7 rfl (s.eW [0,1,5,6,7] ?_);simp only[go_sem])
  exact s.U ⟨aD,0,[],by omega,by omega,by omega,by simp,by simp,rfl,rfl⟩
 clear h0 h1;rintro r d ⟨aD,o,al,h0,h1,aq,iV,iu,rfl,rfl⟩;have cW:=dr (c:=o) (by omega);simp only[go_sem,a23,rS]
 repeat (refine s.U ?_;simp only[go_sem])
 refine dg ?_ ?_<;>intro ao<;>simp only[bA] at ao<;>simp only[go_sem,a23,rS]
 ·repeat (refine s.U ?_;simp only[go_sem])
  rw[bf (x:=(o:Int)*1440) (by omega) (by omega),bf (x:=29453760+(o:Int)*1440) (by omega) (by omega)]
  (refine iy [480,465,1320,360,477] (gG l hl _ (by simp) (by simp)) ?_;rintro _ aD _ _ ⟨p,bV,rfl⟩;simp only[fA] at bV;simp only[go_sem])
  have ae:0≤p∧p≤1320:=by omega
  clear bV;rw[bf (x:=29453760+(o:Int)*1440+p) (by omega) (by omega)]
  (refine ie (fB l hl 7 (by omega)) ?_;rintro _ aD _ _ ⟨q,rfl,_,_⟩;simp only[go_sem])
  rw[bf (by omega) (by omega)];have afy:vI (29453760+(o:Int)*1440+p+q)∧29453760+(o:Int)*1440+p+q≤29468100:=by unfold vI;omega
  generalize 29453760+(o:Int)*1440+p+q=J at afy;unfold vI at afy
  repeat (refine s.U ?_;simp only[go_sem])
  (refine iy [480,510,540,660,300,75] (gG l hl _ (by simp) (by simp)) ?_;rintro _ aD _ _ ⟨y,bV,rfl⟩;simp only[fA] at bV;simp only[go_sem])
  have bl:0≤y∧y≤660:=by omega
  clear bV;rw[bf (by omega) (by omega)]
  (refine s.bw [some 0,some 1] ?_;simp only[go_sem])
  (refine s.U ?_;simp only[go_sem])
  (refine s.U ?_;simp only[go_sem])
  refine s.U (VO (fun r d=> ∃ (a:Int) (aP K:List Int) (bW:List R),0≤a∧a≤l.length∧K.length=aP.length∧aP.length≤4∧(∀ t∈aP,vI t)∧(∀ k∈K,1≤k∧k≤4)∧eW [0,1,5,6,7,8,10,11] r= [(0,.aW 0 1 0 0),(1,.int .i64 n),(5,.own 1 al.length 0 al.length),(6,.int .i64 (20+4*o)),(7,.int .i64 o),(8,.int .i64 J),(10,.own 2 aP.length 0 aP.length),(11,.own 3 aP.length 0 aP.length)]∧d=dK 143 l a:: .aa 71 7 (ac al):: .aa 3 1 (cC .i64 aP):: .aa 3 1 (cC .i64 K)::bW) ?_ ?_)
  ·simp only[go_sem]
   (refine ie (fB l hl 2 (by omega)) ?_;rintro _ aD _ _ ⟨b,rfl,_,_⟩;simp only[go_sem])
   repeat (refine s.U ?_;simp only[go_sem])
   refine dg ?_ ?_<;>intro ck<;>simp only[bA] at ck<;>simp only[go_sem,a23,rS]
   ·repeat (refine s.U ?_;simp only[go_sem])
    (refine iy [120,240,60] (gG l hl _ (by simp) (by simp)) ?_;rintro _ aD _ _ ⟨u,bV,rfl⟩;simp only[fA] at bV;simp only[go_sem])
    have aZ:0≤u∧u≤240:=by omega
    clear bV;rw[bf (by omega) (by omega)]
    repeat (refine s.U ?_;simp only[go_sem])
    (refine iy [30,15,45] (gG l hl _ (by simp) (by simp)) ?_;rintro _ aD _ _ ⟨w,bV,rfl⟩;simp only[fA] at bV;simp only[go_sem])
    have aR:0≤w∧w≤45:=by omega
    clear bV;rw[bf (by omega) (by omega)]
    repeat (refine s.U ?_;simp only[go_sem])
    refine⟨aD,[J,J+y,J+u,J+u+w],[1,2,3,4],_,by omega,by omega,rfl,by simp,?_,?_,rfl,rfl⟩
    ·intro t ht;unfold vI;simp only[fA] at ht;omega
    ·intro t ht;simp only[fA] at ht;omega
   ·refine⟨aD,[J,J+y],[1,2],[],by omega,by omega,rfl,by simp,?_,?_,rfl,rfl⟩
    ·intro t ht;unfold vI;simp only[fA] at ht;omega
    ·intro t ht;simp only[fA] at ht;omega
  clear h0 h1;rintro r d ⟨aD,aP,K,bW,h0,h1,aBl,aIH,hv,cs,pC,rfl⟩;refine s.eW [0,1,5,6,7,8,10,11] ?_;rw[pC];clear pC;refine s.kc [some 0,some 1] [2,3] rfl rfl (by simp only[go_sem]<;>rfl) ?_;simp only[go_sem,aBl];have mT:K.take aP.length=K:=List.take_of_length_le (by omega);rw[mT]
  repeat (refine s.U ?_;simp only[go_sem])
  refine gY (fun r d=> ∃ (a:Int) (j:Nat) (nI:List Ev),0≤a∧a≤l.length∧j≤aP.length∧nI.length≤5*o+j∧(∀ e∈nI,my e)∧r= [(0,.aW 0 1 0 0),(1,.int .i64 n),(5,.own 1 nI.length 0 nI.length),(6,.int .i64 (20+4*o)),(7,.int .i64 o),(8,.int .i64 J),(10,.pure 1 (cC .i64 aP)),(11,.pure 1 (cC .i64 K)),(13,.int .i64 j)]∧d= [dK 143 l a,.aa 71 7 (ac nI)])
   (fun r _=>match bn r 13 with| .int _ j=>(aP.length-j).toNat|_=>0) ?_ ?_
  ·exact s.U ⟨aD,0,al,by omega,by omega,by omega,by omega,iu,rfl,rfl⟩
  clear h0 h1 iu iV al;rintro r d ⟨aD,j,al,h0,h1,aT,iV,iu,rfl,rfl⟩;have nJ:=dr (c:=j) (by omega);simp only[go_sem,a23,rS]
  repeat (refine s.U ?_;simp only[go_sem])
  refine dg ?_ ?_<;>intro ck<;>simp only[bA] at ck<;>simp only[go_sem,a23,rS]
  ·(refine s.U ?_;simp only[go_sem])
   (refine ie (fB l hl 14 (by omega)) ?_;rintro _ aD _ _ ⟨b,rfl,_,_⟩;simp only[go_sem])
   (refine s.U ?_;simp only[go_sem])
   refine dg ?_ ?_<;>intro fQ<;>simp only[bA] at fQ<;>simp only[go_sem,a23,rS]
   ·repeat (refine s.U ?_;simp only[go_sem])
    simp only[go_sem,nJ];exact⟨⟨aD,j+1,al,by omega,by omega,by omega,by omega,iu,rfl,rfl⟩,by omega⟩
   ·have aC:j < aP.length:=by omega
    have gZ:j < K.length:=by omega
    have z0: (0:Int)≤j:=by omega
    have lj: (j:Int) < aP.length:=by omega
    have D8: (j:Int) < K.length:=by omega
    have Lo: (cC .i64 aP).getD j []= [.int .i64 aP[j]]:=by rw[sA aC,List.getD_eq_getElem?_getD,List.getElem?_eq_getElem aC,Option.getD_some]
    have ss: (cC .i64 K).getD j []= [.int .i64 K[j]]:=by rw[sA gZ,List.getD_eq_getElem?_getD,List.getElem?_eq_getElem gZ,Option.getD_some]
    have aBm:=hv _ (List.getElem_mem aC);have aII:=cs _ (List.getElem_mem gZ);generalize aP[j]=ln at *;generalize K[j]=IF at *;unfold vI at aBm
    (refine s.U ?_;simp only[go_sem])
    simp only[go_sem,z0,lj,D8,Lo,ss];rw[bf (x:=20+4*(o:Int)+j) (by omega) (by omega)];refine⟨by omega,?_⟩;rw[R3]
    (refine s.bw [some 0,some 1] ?_;simp only[go_sem])
    repeat (refine s.U ?_;simp only[go_sem])
    simp only[go_sem,nJ];refine⟨⟨aD,j+1,al++ [⟨2,20+4*o+j,1,ln,IF,0,0⟩],by omega,by omega,by omega,by simp;omega,?_,by simp,rfl⟩,by omega⟩;intro e he;simp only[List.mem_append,List.mem_singleton] at he;rcases he with he|rfl
    ·exact iu e he
    ·simp only[my,ul,vI,qT,tb,and_true];omega
  ·refine s.U (VO (fun r d=> ∃ (a:Int) (nI:List Ev) (bW:List R),0≤a∧a≤l.length∧nI.length≤5*o+5∧(∀ e∈nI,my e)∧eW [0,1,5,6,7] r= [(0,.aW 0 1 0 0),(1,.int .i64 n),(5,.own 1 nI.length 0 nI.length),(6,.int .i64 (20+4*o)),(7,.int .i64 o)]∧d=dK 143 l a:: .aa 71 7 (ac nI)::bW) ?_ ?_)
   ·simp only[go_sem]
    (refine ie (fB l hl 6 (by omega)) ?_;rintro _ aD _ _ ⟨b,rfl,_,_⟩;simp only[go_sem])
    repeat (refine s.U ?_;simp only[go_sem])
    refine dg ?_ ?_<;>intro fQ<;>simp only[bA] at fQ<;>simp only[go_sem,a23,rS]
    ·repeat (refine s.U ?_;simp only[go_sem])
     rw[bf (by omega) (by omega)]
     (refine iy [6,5] (gG l hl _ (by simp) (by simp)) ?_;rintro _ aD _ _ ⟨u,bV,rfl⟩;simp only[fA] at bV;simp only[go_sem])
     refine⟨by omega,?_⟩;rw[R3]
     repeat (refine s.U ?_;simp only[go_sem])
     refine⟨aD,al++ [⟨3,20+4*o,1,J+10,u,2,20+4*o⟩],_,by omega,by omega,by simp;omega,?_,by simp,rfl⟩;intro e he;simp only[List.mem_append,List.mem_singleton] at he;rcases he with he|rfl
     ·exact iu e he
     ·simp only[my,ul,vI,qT,tb,and_true];omega
    ·exact⟨aD,al,[],by omega,by omega,by omega,iu,rfl,rfl⟩
   clear h0 h1 iu iV al;rintro r d ⟨aD,al,bW,h0,h1,iV,iu,pC,rfl⟩;refine s.eW [0,1,5,6,7] ?_;rw[pC];clear pC;refine s.kb [some 0,some 1] [] rfl rfl (by simp only[go_sem]<;>rfl) ?_;simp only[go_sem]
   repeat (refine s.U ?_;simp only[go_sem])
   rw[bf (x:=20+4*(o:Int)+4) (by omega) (by omega)];simp only[go_sem,cW];refine⟨⟨aD,o+1,al,by omega,by omega,by omega,by omega,iu,?_,rfl⟩,by omega⟩;simp;omega
 ·repeat (refine s.U ?_;simp only[go_sem])
  refine gY (fun r d=> ∃ (a:Int) (j:Int) (nI:List Ev),0≤a∧a≤l.length∧ -1≤j∧j < nI.length∧nI.length≤5*n∧(∀ e∈nI,my e)∧r= [(0,.aW 0 1 0 0),(5,.own 1 nI.length 0 nI.length),(14,.int .i64 j)]∧d= [dK 143 l a,.aa 71 7 (ac nI)])
   (fun r _=>match bn r 14 with| .int _ j=>j.toNat|_=>0) ?_ ?_
  ·rw[bf (by omega) (by omega)];exact s.U ⟨aD,al.length-1,al,by omega,by omega,by omega,by omega,by omega,iu,rfl,rfl⟩
  clear h0 h1 iu iV al;rintro r d ⟨aD,j,al,h0,h1,tc,aT,iV,iu,rfl,rfl⟩;simp only[go_sem,a23,rS]
  repeat (refine s.U ?_;simp only[go_sem])
  refine dg ?_ ?_<;>intro ck<;>simp only[bA] at ck<;>simp only[go_sem,a23,rS]
  ·repeat (refine s.U ?_;simp only[go_sem])
   (refine ie (fB l hl 3 (by omega)) ?_;rintro _ aD _ _ ⟨b,rfl,_,_⟩;simp only[go_sem])
   repeat (refine s.U ?_;simp only[go_sem])
   refine dg ?_ ?_<;>intro fQ<;>simp only[bA] at fQ<;>simp only[go_sem,a23,rS]
   ·repeat (refine s.U ?_;simp only[go_sem])
    rw[bf (by omega) (by omega)]
    (refine ie (fB l hl (j+1) (by omega)) ?_;rintro _ aD _ _ ⟨k,rfl,_,_⟩;simp only[go_sem])
    obtain⟨j,rfl⟩: ∃ q:Nat,j=q:=⟨j.toNat,by omega⟩;obtain⟨k,rfl⟩: ∃ q:Nat,k=q:=⟨k.toNat,by omega⟩;have oY:j < al.length:=by omega
    have fP:k < al.length:=by omega
    have z0: (0:Int)≤j:=by omega
    have lj: (j:Int) < al.length:=by omega
    have D8: (0:Int)≤k:=by omega
    have z3: (k:Int) < al.length:=by omega
    have Hf: (ac al).getD j []=aG.F al[j]:=cQ oY;have gk: (ac al).getD k []=aG.F al[k]:=cQ fP;have yy: ∀ x:Ev,List.drop 7 (aG.F x)= []:=fun _=>rfl;have gZ:k < (al.set j al[k]).length:=by rw[List.length_set];omega
    (refine s.U ?_;simp only[go_sem])
    simp only[go_sem,z0,lj,D8,z3,Hf,gk];rw[yy,List.append_nil,ve,cQ gZ,yy,List.append_nil,ve]
    repeat (refine s.U ?_;simp only[go_sem])
    rw[bf (by omega) (by omega)];refine⟨⟨aD,j-1,(al.set j al[k]).set k al[j],by omega,by omega,by omega,by simp only[List.length_set];omega,by simp only[List.length_set];omega,afx (afx iu (iu _ (List.getElem_mem fP))) (iu _ (List.getElem_mem oY)),by simp,rfl⟩,by omega⟩
   ·repeat (refine s.U ?_;simp only[go_sem])
    rw[bf (by omega) (by omega)];exact⟨⟨aD,j-1,al,by omega,by omega,by omega,by omega,by omega,iu,rfl,rfl⟩,by omega⟩
  ·repeat (refine s.U ?_;simp only[go_sem])
   exact s.U ⟨aD,al,rfl,rfl,by omega,by omega,by omega,iu⟩
theorem awb (l:List Int)(hl:kx l)(n:Int)(Gh:0≤n)(aB:n≤10)(aD:Int)(h0:0≤aD)(h1:aD≤l.length):aK prog 23 [.aW 0 1 0 0,.int .i64 n] [fx l aD]
 (fun v rs=> ∃ (a:Int) (al:List Ev),v= .own 1 al.length 0 al.length∧rs= [fx l a,.aa 71 7 (ac al)]∧0≤a∧a≤l.length∧al.length≤5*n∧ ∀ e∈al,ul e):=
 (aBk l hl n Gh aB aD h0 h1).mono fun v rs ⟨a,al,h1,B,am,bp,cn,dj⟩=>⟨a,al,h1,B,am,bp,cn,fun e he=>(dj e he).1⟩
structure ow (l:List Ev) (n:Nat):Prop where
 v: ∀ e∈l,qT e
 len:l.length≤n
theorem ow.all {l:List Ev}{n:Nat}(h:ow l n):oz l=true:=by
 unfold oz;rw[List.all_eq_true];exact fun e he=>decide_eq_true (h.v e he)
theorem ow.hQ {l:List Ev}{n:Nat}(h:ow l n)(aB:n≤1024):cD l=0:=by
 have:=h.len;unfold Ib.cD;rw[if_neg (by omega),if_pos h.all]
theorem ow.lC {a b:List Ev}{n m:Nat}(aw:ow a n)(Z:ow b m):ow (a++b) (n+m):=
 ⟨fun e he=>(List.mem_append.1 he).elim (aw.v e) (Z.v e),by have:=aw.len;have:=Z.len;rw[List.length_append];omega⟩
theorem ow.fi {a:List Ev}{n:Nat}(h:ow a n):ow (fi a) n:=
 ⟨fun e he=>h.v e ((D7 a e).1 he),Nat.le_trans (R2 a) h.len⟩
theorem aag {a b:List Ev}{n m:Nat}(aw:ow a n)(Z:ow b m)(ak:n+m≤1000):aK prog 32 [.pure 7 (ac a),.pure 7 (ac b)] [] (fun v rs=>v= .bg [.own 0 (fi (a++b)).length 0 (fi (a++b)).length,.int .i64 0]∧rs= [.aa 71 7 (ac (fi (a++b)))]):=by
 have h1:=aw.len;have B:=Z.len;have am:=(aw.lC Z).fi.len;have h0:EA a b=0:=by
  unfold EA;rw[if_neg (by omega),if_neg (by simp[aw.all,Z.all]),if_neg (by omega)]
 refine (aBZ a b (by omega) (by omega)).mono ?_;rintro v rs (⟨h,_⟩|⟨_,rfl,rfl⟩)
 ·exact (h h0).elim
 ·exact⟨rfl,rfl⟩
theorem awk {e:Ev}(h:ul e):qT e:=h.1
end Go.Proofs.YtpincjkjoeopkaaGreatDoor.Ib
