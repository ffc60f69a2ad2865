/- Time evaluation. -/
import Derived.Test.YtpincjkjoeopkaaGreatDoorW40
import Derived.Test.YtpincjkjoeopkaaGreatDoorW37
import Derived.Test.YtpincjkjoeopkaaGreatDoorW39
import Derived.Test.YtpincjkjoeopkaaGreatDoorW20
set_option linter.all false
namespace Go.Proofs.YtpincjkjoeopkaaGreatDoor
open Go Go.Abs Go.Proofs.Tryz
def aLV:List (F×F)→Option (List ByteArray)
 | []=>some []
 | (.str n,_)::l=>match aLV l with|some jJ=>some (n::jJ)|none=>none
 |_::_=>none
theorem aNf: ∀ {l:List (F×F)} {jJ:List ByteArray},aLV l=some jJ→l.map (·.1)=jJ.map (F.str ·)
 | [],jJ,h=>by cases h;rfl
 |p::l,jJ,h=>by
  unfold aLV at h;split at h
  ·cases ‹_::_= []›
  ·rename_i n v cb nx;cases nx;split at h
   ·rename_i lk zo;cases h;rw[List.map_cons,aNf zo];rfl
   ·cases h
  ·cases h
def aK6:List UInt8→List UInt8→Bool
 | [],_=>true
 |_::_,[]=>false
 |x::aq,d::i=>if x.toNat < d.toNat then true else if d.toNat < x.toNat then false else aK6 aq i
theorem aMh: ∀ (x d:List UInt8),aK6 x d=true→x≤d
 | [],d,_=>List.nil_le d
 |_::_,[],h=>by simp[aK6] at h
 |x::aq,d::i,h=>by
  rw[aK6] at h;split at h
  ·rename_i hl;exact List.le_of_lt (List.cons_lt_cons_iff.2 (.inl hl))
  ·split at h
   ·cases h
   ·rename_i h1 G;obtain rfl:x=d:=UInt8.toNat_inj.1 (by omega);exact List.cons_le_cons_iff.2 (.inr ⟨rfl,aMh aq i h⟩)
theorem aNg: ∀ (x d:List UInt8),aK6 x d=false→aK6 d x=true
 | [],d,h=>by simp[aK6] at h
 |_::_,[],_=>rfl
 |x::aq,d::i,h=>by
  rw[aK6] at h ⊢;split at h
  ·cases h
  ·split at h
   ·rename_i h1 G;rw[if_pos G]
   ·rename_i h1 G;rw[if_neg G,if_neg h1];exact aNg aq i h
def aLi (x:List UInt8):List (List UInt8)→List (List UInt8)
 | []=> [x]
 |d::i=>if aK6 x d then x::d::i else d::aLi x i
def aLI:List (List UInt8)→List (List UInt8)
 | []=> []
 |x::aq=>aLi x (aLI aq)
theorem aMi (x:List UInt8): ∀ l:List (List UInt8),(aLi x l).Perm (x::l)
 | []=>List.Perm.refl _
 |d::i=>by
  rw[aLi];split
  ·exact List.Perm.refl _
  ·exact ((aMi x i).cons d).trans (List.Perm.swap x d i)
theorem aNh: ∀ l:List (List UInt8),(aLI l).Perm l
 | []=>List.Perm.refl _
 |x::aq=>(aMi x _).trans ((aNh aq).cons x)
theorem aNi (x:List UInt8): ∀ {l:List (List UInt8)},l.Pairwise (·≤ ·)→(aLi x l).Pairwise (·≤ ·)
 | [],_=>by simp[aLi]
 |d::i,h=>by
  rw[List.pairwise_cons] at h;rw[aLi];split
  ·rename_i ad;have h1:=aMh _ _ ad;exact List.pairwise_cons.2 ⟨fun M ba=>by
    rcases List.mem_cons.1 ba with rfl|ba
    ·exact h1
    ·exact List.le_trans h1 (h.1 M ba),List.pairwise_cons.2 h⟩
  ·rename_i ad;have h1:=aMh _ _ (aNg _ _ (by simpa using ad));exact List.pairwise_cons.2 ⟨fun M ba=>by
    rcases List.mem_cons.1 ((aMi x i).mem_iff.1 ba) with rfl|ba
    ·exact h1
    ·exact h.1 M ba,aNi x h.2⟩
theorem aNj: ∀ l:List (List UInt8),(aLI l).Pairwise (·≤ ·)
 | []=>List.Pairwise.nil
 |x::aq=>aNi x (aNj aq)
theorem aO1 (Y:List ByteArray):aLU Y=(aLI (Y.map fun I=>I.data.toList)).map aLo:=by
 unfold aLU;congr 1;have ll: ∀ a b J:List UInt8,leB a b=true→leB b J=true→leB a J=true:=fun a b J h1 G=>by simp only[leB,decide_eq_true_eq] at *;exact List.le_trans h1 G
 have ab: ∀ a b:List UInt8,(leB a b||leB b a)=true:=fun a b=>by simp only[leB,Bool.or_eq_true,decide_eq_true_eq];exact List.le_total a b
 refine List.Perm.eq_of_pairwise (le:=fun a b=>leB a b=true) (fun a b _ _ h1 G=> ?_) (List.pairwise_mergeSort ll ab _) ((aNj _).imp fun h=>decide_eq_true h) ((List.mergeSort_perm _ leB).trans (aNh _).symm);simp only[leB,decide_eq_true_eq] at h1 G;exact List.le_antisymm h1 G
def aLW:List (List UInt8)→Bool
 | []=>true
 |x::aq=> !aq.contains x&&aLW aq
theorem aNk: ∀ {l:List ByteArray},aLW (l.map fun I=>I.data.toList)=true→l.Nodup
 | [],_=>List.nodup_nil
 |x::aq,h=>by
  simp only[List.map_cons,aLW,Bool.and_eq_true,Bool.not_eq_true',List.contains_eq_mem,decide_eq_false_iff_not] at h;exact List.nodup_cons.2 ⟨fun hm=>h.1 (List.mem_map_of_mem hm),aNk h.2⟩
def aMj (args:List F)(r:List Z):Option (F×List Z):=
 match args with
 | [.fn 189 [.bd b 1 0 0]]=>
  match r[b]? with
  |some (.ag _ 1 [[.bE a]])=>
   match r[a]? with
   |some (.be (.map false [.str] s))=>
    match aLV s with
    |some Y=>if aLW (Y.map fun I=>I.data.toList)=true∧Y.all (fun I=>decide (I.size≤1000))=true∧Y.length≤1000000 then some (.pure 1 (aK4 ((aLI (Y.map fun I=>I.data.toList)).map aLo)),r) else none
    |none=>none
   |_=>none
  |_=>none
 |_=>none
theorem aO2 (args:List F)(r:List Z)(v:F)(rs:List Z)(h:aMj args r=some (v,rs)):aO prog 104 args r fun gA hs=>gA=v∧hs=rs:=by
 unfold aMj at h;split at h
 ·split at h
  ·rename_i af;split at h
   ·rename_i aC;split at h
    ·rename_i Y mg;split at h
     ·rename_i ad;simp only[Option.some.injEq,Prod.mk.injEq] at h;obtain⟨rfl,rfl⟩:=h;rw[←aO1];exact aOP aC af (aNf mg) (aNk ad.1) (fun x aj=>Nat.le_trans (of_decide_eq_true (List.all_eq_true.1 ad.2.1 x aj)) (by decide)) ad.2.2
     ·cases h
    ·cases h
   ·cases h
  ·cases h
 ·cases h
theorem aO3 {r:List Z}{a:Nat}:aO prog 105 [.bE a] r
 (fun v rs=>v= .fn 189 [.bd r.length 1 0 0]∧rs=r++ [.ag 201 1 [[.bE a]]]):=by
 refine aO.rZ fun oy w=> ?_
 go_enter func105,ntmps105
 go_wp2
 go_ret
 exact⟨rfl,rfl⟩
def aO4:List (uU prog):=⟨104,aMj,aO2⟩::⟨105,Iv 189 201,SC fun _ _=>aO3⟩::aO5
set_option maxRecDepth 1000000
theorem aO0:aO prog 15 [] [] (fun v rs=>v= .bool true∧rs= []):=
 zN (aW:=As) (aY:=aO4) 60 [(.bool true,[]),(.bool true,[])] (by kernel_rfl) (by intro o h;simp only[List.mem_cons,List.not_mem_nil,or_false,or_self] at h;subst h;exact⟨rfl,rfl⟩)
theorem aNb {z:eD}{ae:List cw}: ∀ {ds:List eX},AM z ae ds=0→ ∀ B∈ds,AK z ae B=0
 | [],_,B,ay=>by cases ay
 |x::t,h,B,ay=>by
  rw[AM] at h;split at h
  ·rcases List.mem_cons.1 ay with rfl|ay
   ·assumption
   ·exact aNb h B ay
  ·contradiction
theorem aNc {z:eD}{ae:List cw}{ds:List eX}(h: ∀ B∈ds,AK z ae B=0): ∀ {c:Nat},c≤ds.length→Pr.dd 0 120968640 (nc z ae (ds.take c)).2=true∧ ∀ w∈(nc z ae (ds.take c)).1,w.gM.length≤120968640
 |0,_=>⟨rfl,by simp[nc]⟩
 |c+1,av=>by
  obtain⟨h1,G⟩:=aNc (z:=z) (ae:=ae) h (c:=c) (by omega);rw[aaG (by omega)];unfold Mq;split
  ·exact⟨h1,G⟩
  ·have aP:Pr.dd 0 120968640 (AL z ae (ds[c]'(by omega)))=true∧(AL z ae (ds[c]'(by omega))).length≤100000:=awC (h _ (List.getElem_mem (by omega)));obtain⟨aF,bF,bK,gX⟩:=acf (acc:= []) aP.1 h1;rw[List.nil_append] at bF;rw[bF];refine⟨(ayf h1 bK gX).1,fun w aP=> ?_⟩;rcases List.mem_append.1 aP with aP|aP
   ·exact G w aP
   ·rw[List.mem_singleton] at aP;subst aP;have:=SO bK (by omega);show aF.length≤120968640;omega
noncomputable def aLp (z:eD)(ae:List cw)(l:List Ib.Ev)(n:Int):List wE:=if rE z ae l n=0 then (nc z ae (tX z ae l n)).1 else []
noncomputable def aLq (z:eD)(ae:List cw)(l:List Ib.Ev)(n:Int):List Pr.kn:=if rE z ae l n=0 then Pr.tY (kZ l n) z.fz else []
theorem aOQ {z:eD}{ae:List cw}{l:List Ib.Ev}{n:Int}: (aLp z ae l n).length≤1024∧(aLq z ae l n).length≤1024∧ ∀ w∈aLp z ae l n,w.gM.length≤120968640:=by
 unfold aLp aLq
 by_cases h:rE z ae l n=0
 ·simp only[if_pos h];obtain⟨a,b,J,B,e⟩:=aaH h;have eZ:AM z ae (tX z ae l n)=0:=by
   unfold rE at h;split at h
   ·contradiction
   split at h
   ·contradiction
   split at h
   ·contradiction
   split at h
   ·contradiction
   exact h
  have G:=(aNc (aNb eZ) (Nat.le_refl _)).2;rw[List.take_length] at G;exact⟨B,e,G⟩
 ·simp only[if_neg h];exact⟨by simp,by simp,by simp⟩
theorem aNd {P:Program}{f:FuncId}{args:List F}{z:eD}{ae:List cw}{l:List Ib.Ev}{n:Int}(h:aO P f args [] (fun v rs=>(if rE z ae l n=0 then v= .bo [.pure 2 (ai (nc z ae (tX z ae l n)).1),.pure 2 (ai (Pr.tY (kZ l n) z.fz)),.int .i64 0] else v= .bo [.bH,.bH,.int .i64 (rE z ae l n)])∧rs= [])):
 aO P f args [] (fun v rs=>v= .bo [.pure 2 (ai (aLp z ae l n)),.pure 2 (ai (aLq z ae l n)),.int .i64 (rE z ae l n)]∧rs= []):=by
 refine aO.awN h ?_;rintro v rs ⟨an,rfl⟩;refine⟨_,⟨rfl,rfl⟩,fun C x aj=> ?_⟩;unfold aLp aLq
 by_cases h0:rE z ae l n=0
 ·rw[if_pos h0] at an;simp only[if_pos h0];rw[h0];rw[an] at aj;exact aj
 ·rw[if_neg h0] at an;simp only[if_neg h0];rw[an] at aj;exact W3 _ _ _ (by simp[le,hK,ai]) aj
theorem aOR (l:List Pr.kn):ai (l.map fun a=>(⟨a.cB,a.time⟩:kn))=ai l:=by
 unfold ai;rw[List.map_map];rfl
theorem aOS (l:List Pr.kn)(hl:l.length≤1000000):aO prog 22 [.pure 2 (ai l),.pure 2 (ai l)] [] (fun v rs=>v= .bool true∧rs= []):=by
 have:=ayP (l.map fun a=>(⟨a.cB,a.time⟩:kn)) (by simpa using hl);rw[aOR] at this;exact this
set_option maxHeartbeats 8000000 in
theorem aOT (hN:aO prog 15 [] [] (fun v rs=>v= .bool true∧rs= []))(l:List Int)(hl:mW l)(n:Int):aO prog 4 [.pure 1 (cJ .i64 l),.int .i64 n] [] (fun v rs=>v= .bool true∧rs= []):=by
 refine hJ func4 azm (by simp[a4,xb]) ?_;simp only[go_sem,a4,xb]
 (repeat (first| (refine E.ac ?_;simp only[go_sem])|simp only[go_sem]))
 (refine rv (atG l) ?_;rintro _ _ ⟨rfl,rfl⟩;simp only[go_sem])
 (repeat (first| (refine E.ac ?_;simp only[go_sem])|simp only[go_sem]))
 (refine fy [0] (aOU l hl 0 (by omega) (by omega)) ?_;rintro _ _ ⟨abz,z,ap,rfl,eK,rfl,h0,h1,ba,V8,pP,avX,nH,aJX,pV⟩;simp only[go_sem])
 simp only[go_sem,gp]
 (refine fy [0] (aud l hl 4 (by omega) (by omega) abz h0 h1) ?_;rintro _ _ ⟨axC,ae,rfl,rfl,G,au,gy,Cv,aJZ,EO⟩;simp only[go_sem])
 simp only[go_sem,gp]
 (refine fy [0] (aOE l hl axC G au) ?_;rintro _ _ ⟨aJY,bh,rfl,rfl,bv,cx,aM5⟩;simp only[go_sem])
 have ob:=Fc ap z.J eK z.fX;have axD: ∀ f,jm f ap=ap:=fun f=>Dw f ap ob;simp only[go_sem,gp,axD];obtain⟨gN,vk⟩:=abp ap z.J eK z.on;refine⟨gN,vk,?_⟩;have gN:ap.length=14:=gN;have zI: ∀ fj:List F,fj.length=14→ap++List.drop ap.length fj=ap:=fun fj aJ0=>by rw[List.drop_eq_nil_of_le (by omega),List.append_nil]
 simp only[go_sem,zI];refine E.jN [some 3] [1,2] rfl rfl (by simp only[go_sem,ob]<;>rfl) ?_;simp only[go_sem,ob]
 (refine E.ac ?_;simp only[go_sem])
 (refine E.ac ?_;simp only[go_sem])
 refine hv (fun D r=> ∃ c:Nat,c≤3∧D= [(6,.bd 0 1 0 0),(7,.pure 3 (ai ae)),(8,.pure 7 (ai bh)),(28,.own 1 3 0 3),(29,.int .i64 3),(30,.int .i64 c)]∧r= [.ag 42 14 [ap],.ag 3 1 [[.int .i64 1],[.int .i64 2],[.int .i64 n]]])
  (fun D _=>match bs D 30 with| .int _ j=>(3-j).toNat|_=>0) ?_ ?_
 ·exact E.ac ⟨0,by omega,rfl,rfl⟩
 rintro D r ⟨c,av,rfl,rfl⟩;have aP:=dB (c:=c) (by omega)
 by_cases aI:c < 3
 rotate_left
 ·have q1:decide ((c:Int) < 3)=false:=decide_eq_false (by omega);simp only[go_sem,a4,xb,q1]
  repeat (refine E.ac ?_;(show eG _ _ _ _ _ _);simp only[go_sem,q1])
  refine bM hN rfl rfl ?_;simp only[go_sem]
  repeat (refine E.ac ?_;simp only[go_sem])
  exact E.bg rfl ⟨rfl,rfl⟩
 have q1:decide ((c:Int) < 3)=true:=decide_eq_true (by omega);obtain⟨m,aNe⟩: ∃ m:Int,([[.int .i64 1],[.int .i64 2],[.int .i64 n]]:List (List F)).getD c []= [.int .i64 m]:=by
  have:c=0∨c=1∨c=2:=by omega
  rcases this with rfl|rfl|rfl
  ·exact⟨_,rfl⟩
  ·exact⟨_,rfl⟩
  ·exact⟨_,rfl⟩
 have ja:=aNd (awS z (by omega) (by omega) ae (by omega) bh (by omega) m);have aOV:=aNd (aOW z (by omega) (by omega) ae (by omega) bh (by omega) m);obtain⟨Mt,aPY,aOX⟩:=aOQ (z:=z) (ae:=ae) (l:=bh) (n:=m);have aOY:=aOS (aLq z ae bh m) (by omega);generalize aLp z ae bh m=W at *;generalize aLq z ae bh m=A at *;generalize rE z ae bh m=el at *;have c1:=aO.le ja (args':= [.agg ap,.pure 3 (ai ae),.pure 7 (ai bh),.int .i64 m]) (by simp[hK,le,eK]);have c2:=aO.le aOV (args':= [.agg ap,.pure 3 (ai ae),.pure 7 (ai bh),.int .i64 m]) (by simp[hK,le,eK]);have ht:List.take 14 ap=ap:=List.take_of_length_le (by omega);have oM:bU [.agg ap,.pure 3 (ai ae),.pure 7 (ai bh),.int .i64 m]=true:=by simp only[bU,bJ,ob,ck,Bool.and_self]
 simp only[go_sem,a4,xb,q1]
 repeat (refine E.ac ?_;(show eG _ _ _ _ _ _);simp only[go_sem,q1,aNe,ht,gN])
 repeat (refine And.intro (by omega) ?_)
 repeat (refine E.ac ?_;(show eG _ _ _ _ _ _);simp only[go_sem,q1,aNe,ht,gN])
 refine bM c1 oM (by simp only[bU,bJ,ck,Bool.and_self,Bool.and_true]) ?_;simp only[go_sem,ck]
 repeat (refine E.ac ?_;(show eG _ _ _ _ _ _);simp only[go_sem,ht,gN])
 refine bM c2 oM (by simp only[bU,bJ,ck,Bool.and_self,Bool.and_true]) ?_;simp only[go_sem,ck]
 repeat (refine E.ac ?_;(show eG _ _ _ _ _ _);simp only[go_sem,bT,bne_self_eq_false])
 refine bM aOY (by simp only[bU,bJ,ck,Bool.and_self]) rfl ?_;simp only[go_sem,bne_self_eq_false]
 (refine E.ac ?_;simp only[go_sem])
 repeat (refine E.ac ?_;simp only[go_sem])
 refine hv (fun D r=> ∃ j:Nat,j≤W.length∧D= [(6,.bd 0 1 0 0),(7,.pure 3 (ai ae)),(8,.pure 7 (ai bh)),(11,.pure 2 (ai W)),(14,.pure 2 (ai W)),(17,.int .i64 j),(28,.own 1 3 0 3),(29,.int .i64 3),(30,.int .i64 c)]∧r= [.ag 42 14 [ap],.ag 3 1 [[.int .i64 1],[.int .i64 2],[.int .i64 n]]])
  (fun D _=>match bs D 17 with| .int _ j=>(W.length-j).toNat|_=>0) ?_ ?_
 ·exact E.ac ⟨0,by omega,rfl,rfl⟩
 rintro D r ⟨j,hj,rfl,rfl⟩;have nf:=dB (c:=j) (by omega)
 by_cases nC:j < W.length
 rotate_left
 ·have eQ:decide ((j:Int) < W.length)=false:=decide_eq_false (by omega);simp only[go_sem,a4,xb,eQ,bT]
  repeat (refine E.ac ?_;(show eG _ _ _ _ _ _);simp only[go_sem,eQ,bT])
  refine E.ac ⟨⟨c+1,by omega,by rw[aP],rfl⟩,?_⟩;simp only[go_sem,aP];omega
 have eQ:decide ((j:Int) < W.length)=true:=decide_eq_true (by omega);have aK5: (ai W).getD j []=aJ.J W[j]:=cT nC;have sF:=aOX W[j] (List.getElem_mem nC);generalize W[j]=w at *;simp only[go_sem,a4,xb,eQ,bT]
 repeat (refine E.ac ?_;(show eG _ _ _ _ _ _);simp only[go_sem,eQ,bT,aK5,aLr,bne_self_eq_false])
 repeat (refine And.intro (by omega) ?_)
 refine E.ac ?_;simp only[go_sem];refine E.ac ?_;simp only[go_sem];refine E.ac ?_
 try simp only[go_sem]
 refine hv (fun D r=> ∃ k:Nat,k≤w.gM.length∧D= [(6,.bd 0 1 0 0),(7,.pure 3 (ai ae)),(8,.pure 7 (ai bh)),(11,.pure 2 (ai W)),(14,.pure 2 (ai W)),(17,.int .i64 j),(18,.int .i64 k),(28,.own 1 3 0 3),(29,.int .i64 3),(30,.int .i64 c)]∧r= [.ag 42 14 [ap],.ag 3 1 [[.int .i64 1],[.int .i64 2],[.int .i64 n]]])
  (fun D _=>match bs D 18 with| .int _ j=>(w.gM.length-j).toNat|_=>0) ?_ ?_
 ·exact E.ac ⟨0,by omega,rfl,rfl⟩
 rintro D r ⟨k,O,rfl,rfl⟩;have nH:=dB (c:=k) (by omega)
 by_cases gO:k < w.gM.length
 rotate_left
 ·have eF:decide ((k:Int) < w.gM.length)=false:=decide_eq_false (by omega);simp only[go_sem,a4,xb,aK5,aLr,bT]
  repeat (refine And.intro (by omega) ?_)
  try simp only[go_sem,eF]
  repeat (refine E.ac ?_;(show eG _ _ _ _ _ _);simp only[go_sem,eF,bT,aK5,aLr])
  repeat (refine And.intro (by omega) ?_)
  try simp only[go_sem,eF]
  repeat (refine E.ac ?_;(show eG _ _ _ _ _ _);simp only[go_sem,eF,bT,aK5,aLr])
  refine E.ac ⟨⟨j+1,by omega,by rw[nf],rfl⟩,?_⟩;simp only[go_sem,nf];omega
 have eF:decide ((k:Int) < w.gM.length)=true:=decide_eq_true (by omega);have aOZ: (ai w.gM).getD k []=aJ.J w.gM[k]:=cT gO;generalize w.gM[k]=v at *;simp only[go_sem,a4,xb,aK5,aLr,bT]
 repeat (refine And.intro (by omega) ?_)
 simp only[go_sem,eF]
 repeat (refine E.ac ?_;(show eG _ _ _ _ _ _);simp only[go_sem,eF,bT,aK5,aOZ,Pr.eY,aLr,beq_self_eq_true,bne_self_eq_false])
 repeat (refine And.intro (by omega) ?_)
 repeat (refine E.ac ?_;(show eG _ _ _ _ _ _);simp only[go_sem,beq_self_eq_true,bne_self_eq_false])
 refine E.ac ⟨⟨k+1,by omega,by rw[nH],rfl⟩,?_⟩;simp only[go_sem,nH];omega
theorem timesheetWorks (l:List Int)(hl:mW l)(n:Int):aO prog 4 [.pure 1 (cJ .i64 l),.int .i64 n] [] (fun v rs=>v= .bool true∧rs= []):=aOT aO0 l hl n
end Go.Proofs.YtpincjkjoeopkaaGreatDoor
