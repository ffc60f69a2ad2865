/- Time evaluation. -/
import Derived.Test.YtpincjkjoeopkaaGreatDoorD25
import Derived.Test.YtpincjkjoeopkaaGreatDoorD27
import Derived.Test.YtpincjkjoeopkaaGreatDoorD18
import Derived.Test.YtpincjkjoeopkaaGreatDoorD17
import Derived.Test.YtpincjkjoeopkaaGreatDoorD6
import Derived.Test.YtpincjkjoeopkaaGreatDoorD5
set_option linter.all false
namespace Go.Abs
variable [dE]
theorem aO.fX {P:Program}{f:FuncId}{args:List F}{r:List Z}{bh:F→List Z→Prop}(h:aO P f args r (fun v rs=>E r.length (fun D hs=>bh (bs D 0) hs) [(0,v)] rs)):aO P f args r bh:=by
 intro C dA N aA hG dv;refine (h C dA N aA hG dv).mono ?_;rintro e w' ⟨aZ,v,aB,rfl,aP,h1,G,au,bv⟩;obtain⟨fl,hs,nH,aV⟩:=bv;have GT:tl 1 [(0,v)] aB ⟨#[aZ],[]⟩:=by
  refine⟨G,rfl,rfl,fun t=> ?_⟩;simp only[bs];split
  ·rename_i ht;subst ht;exact h1
  ·simp[Rep]
 obtain⟨ayA,gI,HW,ao,hl⟩:=Kc nH aB rfl GT au;exact⟨aZ,bs fl 0,ayA,rfl,gI.trans aP,ao.jo 0,ao.ok,hl,by rw[HW];exact aV⟩
end Go.Abs
namespace Go.Proofs.YtpincjkjoeopkaaGreatDoor
open Go Go.Abs Go.Proofs.Tryz
theorem awi (l:List Ib.cF)(oY:l.length≤1000000)(ah:Int):aO prog 117 [.pure 4 (ai l),.int .i64 ah] [] (fun v rs=>v= .pure 2 (ai (Ib.pQ l ah))∧rs= []):=by
 refine aO.fX ((Ib.ayB l (by omega) ah).mono ?_);rintro v rs ⟨rfl,rfl⟩;have nL:bW [.ag 78 2 (ai (Ib.pQ l ah))] [] [0] (.own 0 (Ib.pQ l ah).length 0 (Ib.pQ l ah).length)= .pure 2 (ai (Ib.pQ l ah)):=qx rfl rfl rfl (by rw[bT]) ck;refine E.jN [] [0] rfl rfl (by simp only[go_sem]<;>rfl) ?_;simp only[List.map_cons,List.map_nil,nL];exact E.ac ⟨rfl,rfl⟩
end Go.Proofs.YtpincjkjoeopkaaGreatDoor
namespace Go.Proofs.YtpincjkjoeopkaaGreatDoor
open Go Go.Abs Go.Proofs.Tryz
def iO (aa:List Ib.cF):List Int:=aa.foldl (fun Y p=>ek p.ah Y) []
theorem ZU {aa:List Ib.cF}{c:Nat}(h:c < aa.length):iO (aa.take (c+1))=ek aa[c].ah (iO (aa.take c)):=by
 unfold iO;rw[List.take_succ_eq_append_getElem h,List.foldl_append];rfl
theorem H6 {aa:List Ib.cF}: ∀ {c:Nat},c≤aa.length→(iO (aa.take c)).Nodup∧(iO (aa.take c)).length≤c
 |0,_=>by simp[iO]
 |c+1,h=>by
  obtain⟨h1,G⟩:=H6 (aa:=aa) (c:=c) (by omega);rw[ZU (by omega)];refine⟨E4 h1,?_⟩;unfold ek;split
  ·omega
  ·simp;omega
def jf (aa:List Ib.cF)(B:Int):List (Int×List F):=(Ib.pQ aa B).map fun t=>(B,[.str t.name,.int .i64 t.min])
def jv (aa:List Ib.cF)(aD:List Int):List (Int×List F):=aD.flatMap (jf aa)
theorem RN {R ab:Int}{bw:List Int×(Int→Bool→List (List F))}{aY eO:List (Int×List F)}:eS R ab bw (aY++eO)=eS R ab (eS R ab bw aY) eO:=by unfold eS;rw[List.foldl_append]
theorem awb {R ab B:Int}{aa:List Ib.cF}{bw:List Int×(Int→Bool→List (List F))}(h: ¬(R≤B∧B≤ab)):eS R ab bw (jf aa B)=bw:=by
 unfold jf eS;generalize Ib.pQ aa B=aW
 induction aW with
 |nil=>rfl
 |cons t aW ih=>
  rw[List.map_cons,List.foldl_cons];have:nN R ab bw (B,[.str t.name,.int .i64 t.min])=bw:=by unfold nN;rw[if_neg h]
  rw[this];exact ih
def pe (Y:List Int):List (F×F):=de (fun _=> .bool true) Y
theorem ZV {n:Nat}{Y:List Int}:nG n (pe Y)=true:=LQ fun _ _=>rfl
theorem awc {Y:List Int}:zD false [.int .i64] (pe Y):=by
 intro p ak;obtain⟨k,_,rfl⟩:=List.mem_map.1 ak
 trivial
theorem awd {B:Int}{Y:List Int}(h:Y.Nodup):dy (.int .i64 B) (.bool true) (pe Y)=pe (ek B Y):=EX (f:=fun _=> .bool true) (g:=fun _=> .bool true) (fun _ _=>rfl) h
theorem awe {W:List Z}{I m:Nat}{R ab:Int}{Y:List Int}{bf:Int→Bool→List (List F)}(h0:hQ W I m R ab Y bf){c n lq:Nat}{a b:List Nat}(av:W[c]? =some (.be (.eh n a))):hQ (W.set c (.be (.eh lq b))) I m R ab Y bf:=by
 obtain⟨X,h⟩:=h0;have h1:c≠I:=fun e=>by rw[e,h.I] at av;cases av
 have G:c≠m:=fun e=>by rw[e,h.m] at av;cases av
 refine⟨X,Co h.all rfl,?_,?_,h.HK,h.ea,h.fX,fun B k an=> ?_,h.inj⟩
 ·rw[List.getElem?_set,if_neg h1];exact h.I
 ·rw[List.getElem?_set,if_neg G];exact h.m
 ·have aj:=h.x B k an;rw[List.getElem?_set,if_neg (fun e=>by rw[←e,av] at aj;cases aj)];exact aj
set_option maxHeartbeats 4000000 in
theorem awf {r:List Z}{I m:Nat}{R ab:Int}{Y:List Int}{bf:Int→Bool→List (List F)}(h0:hQ r I m R ab Y bf)(cU: ∀ B k,(bf B k).length≤1000)(aa:List Ib.cF)(hl:aa.length≤100000)(hN: ∀ aD:List Int,aD.Nodup→(∀ B∈aD,B∈iO aa)→(jv aa aD).length≤90000):
 aO prog 43 [.bd I 1 0 0,.pure 4 (ai aa)] r
  (fun v W=>v= .bo []∧gf r W m∧ ∃ aD:List Int,aD.Perm (iO aa)∧hQ W I m R ab (eS R ab (Y,bf) (jv aa aD)).1 (eS R ab (Y,bf) (jv aa aD)).2):=by
 have fF:=km h0.choose_spec.I;have zh:=km h0.choose_spec.m;have hall:=h0.choose_spec.all;refine cu func43 ZW (by simp[qI,rD]) ?_;simp only[go_sem,qI,rD,bT];refine dN (fun D W=> ∃ c:Nat,c≤aa.length∧D= [(0,.bd I 1 0 0),(1,.pure 4 (ai aa)),(4,.bE r.length),(11,.pure 4 (ai aa)),(12,.int .i64 aa.length),(13,.int .i64 c)]∧W=r++ [.be (.map false [.int .i64] (pe (iO (aa.take c))))])
  (fun D _=>match bs D 13 with| .int _ j=>(aa.length-j).toNat|_=>0) ?_ ?_
 ·exact E.ac ⟨0,by omega,rfl,rfl⟩
 rintro D W ⟨c,av,rfl,rfl⟩;have aP:=dB (c:=c) (by omega)
 by_cases aI:c < aa.length
 ·have h1: (c:Int) < aa.length:=by omega
  have z0: (0:Int)≤c:=by omega
  have aw: (ai aa).getD c []=aJ.J aa[c]:=cT aI;have dV:=ZU aI;have O:=awd (B:=aa[c].ah) (H6 (aa:=aa) (c:=c) av).1;rw[←dV] at O;generalize aa[c]=p at *;simp only[go_sem,qI,rD,z0,h1,aw,Ib.Ah,bT,Int.toNat_natCast,List.append_assoc,dO,dH,ee,ec,List.length_append,O,aP,awc];have HE: ∀ {t:List Z} {K:aQ→List Z→Prop} {x:Z},jc (r.length+1) x=true→E r.length K [(0,.bd I 1 0 0),(1,.pure 4 (ai aa)),(4,.bE r.length),(11,.pure 4 (ai aa)),(12,.int .i64 aa.length),(13,.int .i64 ((c+1:Nat):Int))] (r++ [x])→E r.length K [(0,.bd I 1 0 0),(1,.pure 4 (ai aa)),(4,.bE r.length),(11,.pure 4 (ai aa)),(12,.int .i64 aa.length),(13,.int .i64 ((c+1:Nat):Int))] (r++x::t):=fun {t K x} aj ad=>by
   have:=E.drop (t:=t) (by simp) (HF hall aj) (by simp[Ez,dt];omega) ad;simpa using this
  refine HE ZV (E.ac ⟨⟨c+1,by omega,rfl,rfl⟩,?_⟩);simp only[go_sem];omega
 have h1: ¬(c:Int) < aa.length:=by omega
 obtain rfl:c=aa.length:=by omega
 rw[List.take_length];simp only[go_sem,qI,rD,h1,dH,dO,List.append_assoc];clear aP aI h1 av;obtain⟨RO,RP⟩:=H6 (aa:=aa) (c:=aa.length) (Nat.le_refl _);rw[List.take_length] at RO RP;have RQ: (pe (iO aa)).length=(iO aa).length:=by unfold pe de;rw[List.length_map]
 have ve: ∀ j,j < (iO aa).length→((pe (iO aa)).getD j (.cj,.cj))=(.int .i64 ((iO aa).getD j 0),.bool true):=fun j aX=>by
  unfold pe de;rw[List.getD_eq_getElem?_getD,List.getElem?_map,List.getD_eq_getElem?_getD,List.getElem?_eq_getElem aX];rfl
 have KU: ∀ j,j < (iO aa).length→(iO aa).getD j 0∈iO aa:=fun j aX=>by rw[List.getD_eq_getElem?_getD,List.getElem?_eq_getElem aX];exact List.getElem_mem aX
 have ZX: ∀ a b,a < (iO aa).length→b < (iO aa).length→(iO aa).getD a 0=(iO aa).getD b 0→a=b:=fun a b aC hb e=>by
  rw[List.getD_eq_getElem?_getD,List.getD_eq_getElem?_getD,List.getElem?_eq_getElem aC,List.getElem?_eq_getElem hb] at e;exact (List.getElem_inj RO).1 e
 have va:hQ (r++ [.be (.map false [.int .i64] (pe (iO aa))),.be (.eh (pe (iO aa)).length [])]) I m R ab Y bf:=by
  obtain⟨yk,yl⟩:=h0;exact⟨yk,yl.ext (by intro bG hrow;simp only[fR] at hrow;rcases hrow with rfl|rfl;exact ZV;rfl)⟩
 generalize iO aa=gS at *;refine dN (fun D W=> ∃ bX:List Nat,bX.Nodup∧(∀ j∈bX,j < gS.length)∧D= [(0,.bd I 1 0 0),(1,.pure 4 (ai aa)),(22,.fO (r.length+1) r.length)]∧gf r W m∧W[r.length]? =some (.be (.map false [.int .i64] (pe gS)))∧W[r.length+1]? =some (.be (.eh gS.length bX))∧hQ W I m R ab (eS R ab (Y,bf) (jv aa (bX.map fun j=>gS.getD j 0))).1 (eS R ab (Y,bf) (jv aa (bX.map fun j=>gS.getD j 0))).2)
  (fun _ W=>match W[r.length+1]? with|some (.be (.eh n bX))=>n-bX.length|_=>0) ?_ ?_
 ·rw[show (r++ [Z.be (zd.map false [cW.int .i64] (pe gS))]).length=r.length+1 by simp];rw[RQ] at va ⊢;exact E.ac ⟨[],List.nodup_nil,by simp,rfl,gf.mh,by rw[dH];rfl,by rw[dO];rfl,va⟩
 rintro D W ⟨bX,qC,H7,rfl,hF,Cn,hX,dc⟩;simp only[go_sem,qI,rD];unfold Pi sa;simp only[Cn,hX];have RR: (bX.map fun j=>gS.getD j 0).Nodup:=List.pairwise_map.2 (qC.imp_of_mem fun aC hb hne e=>hne (ZX _ _ (H7 _ aC) (H7 _ hb) e));have awg: ∀ B∈bX.map (fun j=>gS.getD j 0),B∈gS:=fun B ay=>by
  obtain⟨j,aX,rfl⟩:=List.mem_map.1 ay;exact KU j (H7 j aX)
 refine⟨RQ.symm,by omega,fun yj=> ?_,fun j aX Mb=> ?_⟩
 ·simp only[go_sem,qI,rD];refine E.ac ⟨rfl,hF,_,(List.perm_ext_iff_of_nodup RR RO).2 fun B=>⟨awg B,fun ay=> ?_⟩,dc⟩;obtain⟨j,aX,rfl⟩:=List.getElem_of_mem ay;exact List.mem_map.2 ⟨j,yj j aX,by rw[List.getD_eq_getElem?_getD,List.getElem?_eq_getElem aX];rfl⟩
 have aJM:bX.length+1≤gS.length:=by
  have h1: (bX++ [j]).Nodup:=List.nodup_append.2 ⟨qC,by simp,fun a aC b hb=>by rw[List.mem_singleton] at hb;subst hb;exact fun e=>Mb (e▸aC)⟩;have G: (bX++ [j]).length≤(List.range gS.length).length:=h1.length_le_of_subset fun x aj=>by
   rw[List.mem_range];rcases List.mem_append.1 aj with aj|aj
   ·exact H7 x aj
   ·rw[List.mem_singleton] at aj;omega
  simpa using G
 have H8: (bX++ [j]).Nodup:=List.nodup_append.2 ⟨qC,by simp,fun a aC b hb=>by rw[List.mem_singleton] at hb;subst hb;exact fun e=>Mb (e▸aC)⟩;have Mc: ∀ q∈bX++ [j],q < gS.length:=fun q aV=>by
  rcases List.mem_append.1 aV with aV|aV
  ·exact H7 q aV
  ·rw[List.mem_singleton] at aV;omega
 have awh:=km hX;have E5: (W.set (r.length+1) (.be (.eh gS.length (bX++ [j]))))[r.length]? =some (.be (.map false [.int .i64] (pe gS))):=by rw[List.getElem?_set,if_neg (by omega)];exact Cn
 have vW: (W.set (r.length+1) (.be (.eh gS.length (bX++ [j]))))[r.length+1]? =some (.be (.eh gS.length (bX++ [j]))):=by rw[List.getElem?_set,if_pos rfl,if_pos awh]
 have Ai:=awe (lq:=gS.length) (b:=bX++ [j]) dc hX;have Cw:gf r (W.set (r.length+1) (.be (.eh gS.length (bX++ [j])))) m:=⟨by rw[List.length_set];exact hF.1,fun z bG h1 G au=>by rw[List.getElem?_set,if_neg (by have:=km h1;omega)];exact hF.2 z bG h1 G au⟩;have dV:jv aa ((bX++ [j]).map fun j=>gS.getD j 0)=jv aa (bX.map fun j=>gS.getD j 0)++jf aa (gS.getD j 0):=by unfold jv;rw[List.map_append,List.flatMap_append];simp
 have nK:=hN ((bX++ [j]).map fun j=>gS.getD j 0) (List.pairwise_map.2 (H8.imp_of_mem fun aC hb hne e=>hne (ZX _ _ (Mc _ aC) (Mc _ hb) e))) (fun B ay=>by
  obtain⟨q,aV,rfl⟩:=List.mem_map.1 ay;exact KU q (Mc q aV))
 have cK:=Cx (R:=R) (ab:=ab) (jv aa (bX.map fun j=>gS.getD j 0)) (Y,bf) 1000 cU;rw[dV,List.length_append] at nK;rw[ve j aX];simp only[go_sem,qI,rD];generalize W.set (r.length+1) (.be (.eh gS.length (bX++ [j])))=hx at *;generalize cn:eS R ab (Y,bf) (jv aa (bX.map fun j=>gS.getD j 0))=bw at *;obtain⟨rB,im⟩:=bw;simp only at cK Ai;unfold Ku;simp only[vW,E5,List.getLastD_concat];refine⟨RQ.symm,by simp,aX,?_⟩;rw[ve j aX];generalize gS.getD j 0=ah at *;have lo:=Ai.choose_spec.I;simp only[go_sem,qI,rD,lo];have mX: ∀ (gg:List Z),gf r gg m→gg[r.length]? =some (.be (.map false [.int .i64] (pe gS)))→gg[r.length+1]? =some (.be (.eh gS.length (bX++ [j])))→hQ gg I m R ab (eS R ab (rB,im) (jf aa ah)).1 (eS R ab (rB,im) (jf aa ah)).2→
  (∃ bX:List Nat,bX.Nodup∧(∀ j∈bX,j < gS.length)∧([(0,.bd I 1 0 0),(1,.pure 4 (ai aa)),(22,.fO (r.length+1) r.length)]:aQ)= [(0,.bd I 1 0 0),(1,.pure 4 (ai aa)),(22,.fO (r.length+1) r.length)]∧gf r gg m∧gg[r.length]? =some (.be (.map false [.int .i64] (pe gS)))∧gg[r.length+1]? =some (.be (.eh gS.length bX))∧hQ gg I m R ab (eS R ab (Y,bf) (jv aa (bX.map fun j=>gS.getD j 0))).1 (eS R ab (Y,bf) (jv aa (bX.map fun j=>gS.getD j 0))).2):=fun gg a b J B=>
  ⟨bX++ [j],H8,Mc,rfl,a,b,J,by rw[dV,RN,cn];exact B⟩
 have RS: ∀ gg:List Z,gg[r.length+1]? =some (.be (.eh gS.length (bX++ [j])))→(match gg[r.length+1]? with|some (.be (.eh n bX))=>n-bX.length|_=>0) < gS.length-bX.length:=fun gg h=>by
  rw[h];simp only[List.length_append,List.length_singleton];omega
 by_cases N:R≤ah∧ah≤ab
 rotate_left
 ·have Md:eS R ab (rB,im) (jf aa ah)=(rB,im):=awb N;have jt:hQ hx I m R ab (eS R ab (rB,im) (jf aa ah)).1 (eS R ab (rB,im) (jf aa ah)).2:=by rw[Md];exact Ai
  by_cases d1:ah < R
  ·have q1:decide (ah < R)=true:=decide_eq_true d1;simp only[go_sem,qI,rD,q1];refine E.eW [0,1,22] ?_;simp only[go_sem];exact E.ac ⟨mX hx Cw E5 vW jt,RS hx vW⟩
  ·have q1:decide (ah < R)=false:=decide_eq_false d1;have eQ:decide (ab < ah)=true:=decide_eq_true (by omega);simp only[go_sem,qI,rD,q1,eQ,lo];refine E.eW [0,1,22] ?_;simp only[go_sem];exact E.ac ⟨mX hx Cw E5 vW jt,RS hx vW⟩
 have q1:decide (ah < R)=false:=decide_eq_false (by omega);have eQ:decide (ab < ah)=false:=decide_eq_false (by omega);simp only[go_sem,qI,rD,q1,eQ,lo];refine bM (awi aa (by omega) ah) (by simp only[bU,bJ,ck,Bool.and_self,Bool.and_true]) (by simp only[bJ,ck]) ?_;obtain⟨aW,RT⟩: ∃ aW,aW=Ib.pQ aa ah:=⟨_,rfl⟩;rw[←RT];have aJN: (jf aa ah).length=aW.length:=by unfold jf;rw[List.length_map,RT]
 have awj: ∀ q (h:q < aW.length),(jf aa ah)[q]'(by omega)=(ah,[.str aW[q].name,.int .i64 aW[q].min]):=fun q h=>by subst RT;unfold jf;rw[List.getElem_map]
 simp only[go_sem,bT];refine dN (fun D W=> ∃ q:Nat,q≤aW.length∧D= [(0,.bd I 1 0 0),(1,.pure 4 (ai aa)),(7,.int .i64 ah),(22,.fO (r.length+1) r.length),(43,.pure 2 (ai aW)),(44,.int .i64 aW.length),(45,.int .i64 q)]∧gf r W m∧W[r.length]? =some (.be (.map false [.int .i64] (pe gS)))∧W[r.length+1]? =some (.be (.eh gS.length (bX++ [j])))∧hQ W I m R ab (eS R ab (rB,im) ((jf aa ah).take q)).1 (eS R ab (rB,im) ((jf aa ah).take q)).2)
  (fun D _=>match bs D 45 with| .int _ j=>(aW.length-j).toNat|_=>0) ?_ ?_
 ·exact E.ac ⟨0,by omega,rfl,Cw,E5,vW,Ai⟩
 rintro D gg ⟨q,aV,rfl,pO,ZY,BJ,jt⟩;have aP:=dB (c:=q) (by omega)
 by_cases aI:q < aW.length
 rotate_left
 ·have h1: ¬(q:Int) < aW.length:=by omega
  obtain rfl:q=aW.length:=by omega
  rw[List.take_of_length_le (by omega)] at jt;simp only[go_sem,qI,rD,h1];refine E.eW [0,1,22] ?_;simp only[go_sem];exact E.ac ⟨mX gg pO ZY BJ jt,RS gg BJ⟩
 have h1: (q:Int) < aW.length:=by omega
 have z0: (0:Int)≤q:=by omega
 have aw: (ai aW).getD q []=aJ.J aW[q]:=cT aI;have ZZ:=Z0 (R:=R) (ab:=ab) (bw:=(rB,im)) (aY:=jf aa ah) (c:=q) (by omega);rw[awj q aI] at ZZ;have awk:=Cx (R:=R) (ab:=ab) ((jf aa ah).take q) (rB,im) 91000 (fun B k=>Nat.le_trans (cK B k) (by omega));have aJO: ((jf aa ah).take q).length≤90000:=by rw[List.length_take];omega
 generalize aW[q]=x at *;have wC:hQ (gg++ [.ag 78 2 [[.str x.name,.int .i64 x.min]]]) I m R ab (eS R ab (rB,im) ((jf aa ah).take q)).1 (eS R ab (rB,im) ((jf aa ah).take q)).2:=by
  obtain⟨yk,yl⟩:=jt;exact⟨yk,yl.ext (by intro bG hrow;rw[List.mem_singleton] at hrow;subst hrow;exact kA rfl)⟩
 simp only[go_sem,qI,rD,z0,h1,aw,Ib.RU,bT,Int.toNat_natCast,List.append_assoc,dO,dH,ee,ec,List.length_append];refine uV wC.choose_spec.all (by
  have au:=km wC.choose_spec.I;simp only[gx,dt,au,decide_true,Bool.and_true]) (Q8 wC (fun B k=>Nat.le_trans (awk B k) (by omega)) ah x.name x.min) ?_
 rintro _ W' ⟨rfl,Aj,Cy⟩;refine⟨Aj.1,?_⟩;simp only[go_sem,aP];have Gk:r.length≠m:=by omega
 have awl:r.length+1≠m:=by omega
 refine E.ac ⟨⟨q+1,by omega,rfl,pO.trans (gf.mh.trans Aj),Aj.2 _ _ (bQ ZY) Gk (fun k am e=>by cases e),Aj.2 _ _ (bQ BJ) awl (fun k am e=>by cases e),?_⟩,?_⟩
 ·rw[ZZ];unfold nN;simp only;rw[if_pos N] at Cy ⊢;exact Cy
 ·simp only[go_sem];omega
def MD:List (F×F)→Option (List Int)
 | []=>some []
 | (.int .i64 n,_)::l=>match MD l with|some jJ=>some (n::jJ)|none=>none
 |_::_=>none
theorem ME: ∀ {l:List (F×F)} {jJ:List Int},MD l=some jJ→l.map (·.1)=jJ.map (F.int .i64 ·)
 | [],jJ,h=>by cases h;rfl
 |p::l,jJ,h=>by
  unfold MD at h;split at h
  ·cases ‹_::_= []›
  ·rename_i n v cb nx;cases nx;split at h
   ·rename_i lk zo;cases h;rw[List.map_cons,ME zo];rfl
   ·cases h
  ·cases h
def CM (x:Int):List Int→List Int
 | []=> [x]
 |y::ys=>if x≤y then x::y::ys else y::CM x ys
def Iu:List Int→List Int
 | []=> []
 |x::aq=>CM x (Iu aq)
theorem Sz (x:Int): ∀ l:List Int,(CM x l).Perm (x::l)
 | []=>List.Perm.refl _
 |y::ys=>by
  rw[CM];split
  ·exact List.Perm.refl _
  ·exact ((Sz x ys).cons y).trans (List.Perm.swap x y ys)
theorem abK: ∀ l:List Int,(Iu l).Perm l
 | []=>List.Perm.refl _
 |x::aq=>(Sz x (Iu aq)).trans ((abK aq).cons x)
theorem abL (x:Int): ∀ l:List Int,l.Pairwise (·≤ ·)→(CM x l).Pairwise (·≤ ·)
 | [],_=>by simp[CM]
 |y::ys,h=>by
  rw[List.pairwise_cons] at h;rw[CM];split
  ·rename_i Fd;rw[List.pairwise_cons,List.pairwise_cons];exact⟨fun M ba=>by rcases List.mem_cons.1 ba with rfl|ba;(·exact Fd);exact Int.le_trans Fd (h.1 M ba),h⟩
  ·rename_i Fd;rw[List.pairwise_cons];refine⟨fun M ba=> ?_,abL x ys h.2⟩;rcases List.mem_cons.1 ((Sz x ys).mem_iff.1 ba) with rfl|ba
   ·omega
   ·exact h.1 M ba
theorem abM: ∀ l:List Int,(Iu l).Pairwise (·≤ ·)
 | []=>List.Pairwise.nil
 |x::aq=>abL x _ (abM aq)
theorem abk {l cb:List Int}(ak:cb.Perm l)(ao:cb.Pairwise (·≤ ·)):fq l=cb:=by
 have h1: (fq l).Pairwise (·≤ ·):=by
  unfold fq;have:=List.pairwise_mergeSort (le:=fun x y:Int=>decide (x≤y)) (fun a b J h1 G=>by simp only[decide_eq_true_eq] at *;omega) (fun a b=>by simp;omega) l;exact this.imp fun h=>by simpa using h
 have G: (fq l).Perm cb:=by
  unfold fq;exact (List.mergeSort_perm l _).trans ak.symm
 exact G.eq_of_pairwise (fun a b _ _ h1 G=>Int.le_antisymm h1 G) h1 ao
def abN (n:Int):Bool:=(Lit.int .i64 n).wf
def MF:List Int→Bool
 | []=>true
 |x::aq=> !aq.contains x&&MF aq
theorem MG: ∀ {l:List Int},MF l=true→l.Nodup
 | [],_=>List.nodup_nil
 |x::aq,h=>by
  simp only[MF,Bool.and_eq_true,Bool.not_eq_true',List.contains_eq_mem,decide_eq_false_iff_not] at h;exact List.nodup_cons.2 ⟨h.1,MG h.2⟩
def SA (args:List F)(r:List Z):Option (F×List Z):=
 match args with
 | [.fn g [.bd b 1 0 0]]=>
  match r[b]? with
  |some (.ag _ 1 [[.bE a]])=>
   match r[a]? with
   |some (.be (.map false [.int .i64] ents))=>
    match MD ents with
    |some Y=>if (g=128∨g=168∨g=204)∧MF Y=true∧Y.all abN=true∧Y.length≤1000000 then some (.pure 1 (cJ .i64 (Iu Y)),r) else none
    |none=>none
   |_=>none
  |_=>none
 |_=>none
theorem axT (args:List F)(r:List Z)(v:F)(rs:List Z)(h:SA args r=some (v,rs)):aO prog 47 args r fun gA hs=>gA=v∧hs=rs:=by
 unfold SA at h;split at h
 ·rename_i g b;split at h
  ·rename_i aW a hb;split at h
   ·rename_i ents aC;split at h
    ·rename_i Y mg;split at h
     ·rename_i ad;simp only[Option.some.injEq,Prod.mk.injEq] at h;obtain⟨rfl,rfl⟩:=h;obtain⟨aw,h1,G,au⟩:=ad;have aP: ∀ x∈Y,(Lit.int .i64 x).wf=true:=fun x aj=>List.all_eq_true.1 G x aj;rw[←abk (abK Y) (abM Y)];rcases aw with rfl|rfl|rfl
      ·exact aba aC hb (ME mg) (MG h1) aP au
      ·exact axy aC hb (ME mg) (MG h1) aP au
      ·exact YW aC hb (ME mg) (MG h1) aP au
     ·cases h
    ·cases h
   ·cases h
  ·cases h
 ·cases h
structure nb where
 n:ByteArray
 m:Int
instance:aJ nb:=⟨fun a=> [.str a.n,.int .i64 a.m],2,fun _=>rfl,fun _=>rfl,fun _=>rfl⟩
theorem ayF (e:nb):aJ.J e= [.str e.n,.int .i64 e.m]:=rfl
theorem ayG:aJ.U nb=2:=rfl
theorem ayH (e:nb):List.take 2 (aJ.J e)=aJ.J e:=rfl
attribute [go_sem] ayG ayH
def gr (ef:ByteArray)(cN:Int):List nb→List nb
 | []=> [⟨ef,cN⟩]
 |x::t=>if x.n.toList < ef.toList then x::gr ef cN t else if x.n=ef then ⟨ef,x.m+cN⟩::t else ⟨ef,cN⟩::x::t
def nP (ae:List cw)(bk ah:Int)(l:List eH):List nb:=l.foldl (fun S a=>if a.bk=bk∧a.ah=ah then gr a.name (su ae a) S else S) []
theorem aap {ae:List cw}{bk ah:Int}{l:List eH}{c:Nat}(av:c < l.length):nP ae bk ah (l.take (c+1))=if l[c].bk=bk∧l[c].ah=ah then gr l[c].name (su ae l[c]) (nP ae bk ah (l.take c)) else nP ae bk ah (l.take c):=by
 unfold nP;rw[List.take_succ_eq_append_getElem av,List.foldl_append];rfl
theorem abo (ef:ByteArray)(cN:Int): ∀ l:List nb,(gr ef cN l).length≤l.length+1
 | []=>by simp[gr]
 |y::t=>by
  have:=abo ef cN t;unfold gr;split
  ·simp;omega
  ·split<;>simp
def An (l:List nb):List nb:=l.filter fun x=>decide (0 < x.m)
structure kn where
 t:Int
 k:Int
instance:aJ kn:=⟨fun a=> [.int .i64 a.t,.int .i64 a.k],2,fun _=>rfl,fun _=>rfl,fun _=>rfl⟩
structure CK where
 ah:Int
 eg:List nb
 jR:List kn
instance:aJ CK:=⟨fun a=> [.int .i64 a.ah,.pure 2 (ai a.eg),.pure 2 (ai a.jR)],3,fun _=>rfl,fun a=>by simp only[bU,bJ,ck,Bool.and_self,Bool.and_true,Bool.true_and],fun _=>rfl⟩
theorem abU (e:CK):aJ.J e= [.int .i64 e.ah,.pure 2 (ai e.eg),.pure 2 (ai e.jR)]:=rfl
theorem ayD:aJ.U CK=3:=rfl
theorem ayE (e:CK):List.take 3 (aJ.J e)=aJ.J e:=rfl
attribute [go_sem] ayD ayE
def E9 (l:List eH)(R ab:Int):Int:=if 1024 < l.length then 3 else if R < 0∨84005 < R∨ab < 0∨84005 < ab then 2 else if ab < R then 1 else 0
theorem ayO (l:List nb)(hl:l.length≤1000000):aO prog 56 [.pure 2 (ai l),.pure 2 (ai l)] [] (fun v rs=>v= .bool true∧rs= []):=by
 refine cu func56 abZ (by simp[Fi,IB]) ?_;simp only[go_sem,Fi,IB,bT,bne_self_eq_false];refine dN (fun D r=> ∃ c:Nat,c≤l.length∧D= [(0,.pure 2 (ai l)),(1,.pure 2 (ai l)),(5,.int .i64 c)]∧r= [])
  (fun D _=>match bs D 5 with| .int _ j=>(l.length-j).toNat|_=>0) ?_ ?_
 ·exact E.ac ⟨0,by omega,rfl,rfl⟩
 rintro D r ⟨c,av,rfl,rfl⟩;have aP:=dB (c:=c) (by omega)
 by_cases aI:c < l.length
 ·have h1:decide ((c:Int) < l.length)=true:=decide_eq_true (by omega);have z0: (0:Int)≤c:=by omega
  have mn: (c:Int) < l.length:=by omega
  have nM: (ai l).getD c []=aJ.J l[c]:=cT aI;simp only[go_sem,Fi,IB,h1,z0,mn,nM,bT,ayF,bne_self_eq_false,beq_self_eq_true,aP];refine E.ac ⟨⟨c+1,by omega,rfl,rfl⟩,?_⟩;simp only[go_sem];omega
 have h1:decide ((c:Int) < l.length)=false:=decide_eq_false (by omega);simp only[go_sem,Fi,IB,h1,bT];exact E.bg rfl ⟨rfl,rfl⟩
theorem ayP (l:List kn)(hl:l.length≤1000000):aO prog 22 [.pure 2 (ai l),.pure 2 (ai l)] [] (fun v rs=>v= .bool true∧rs= []):=by
 refine cu func22 aca (by simp[a22,IC]) ?_;simp only[go_sem,a22,IC,bT,bne_self_eq_false];refine dN (fun D r=> ∃ c:Nat,c≤l.length∧D= [(0,.pure 2 (ai l)),(1,.pure 2 (ai l)),(5,.int .i64 c)]∧r= [])
  (fun D _=>match bs D 5 with| .int _ j=>(l.length-j).toNat|_=>0) ?_ ?_
 ·exact E.ac ⟨0,by omega,rfl,rfl⟩
 rintro D r ⟨c,av,rfl,rfl⟩;have aP:=dB (c:=c) (by omega)
 by_cases aI:c < l.length
 ·have h1:decide ((c:Int) < l.length)=true:=decide_eq_true (by omega);have z0: (0:Int)≤c:=by omega
  have mn: (c:Int) < l.length:=by omega
  have nM: (ai l).getD c []= [.int .i64 l[c].t,.int .i64 l[c].k]:=cT aI;simp only[go_sem,a22,IC,h1,z0,mn,nM,bT,bne_self_eq_false,beq_self_eq_true,aP];refine E.ac ⟨⟨c+1,by omega,rfl,rfl⟩,?_⟩;simp only[go_sem];omega
 have h1:decide ((c:Int) < l.length)=false:=decide_eq_false (by omega);simp only[go_sem,a22,IC,h1,bT];exact E.bg rfl ⟨rfl,rfl⟩
theorem abJ (l:List CK)(hl:l.length≤1000000)(hb: ∀ x∈l,x.eg.length≤1000000∧x.jR.length≤1000000):aO prog 14 [.pure 3 (ai l),.pure 3 (ai l)] [] (fun v rs=>v= .bool true∧rs= []):=by
 refine cu func14 acb (by simp[Fj,Aw]) ?_;simp only[go_sem,Fj,Aw,bT,bne_self_eq_false];refine dN (fun D r=> ∃ c:Nat,c≤l.length∧D= [(0,.pure 3 (ai l)),(1,.pure 3 (ai l)),(5,.int .i64 c)]∧r= [])
  (fun D _=>match bs D 5 with| .int _ j=>(l.length-j).toNat|_=>0) ?_ ?_
 ·exact E.ac ⟨0,by omega,rfl,rfl⟩
 rintro D r ⟨c,av,rfl,rfl⟩;have aP:=dB (c:=c) (by omega)
 by_cases aI:c < l.length
 ·have h1:decide ((c:Int) < l.length)=true:=decide_eq_true (by omega);have z0: (0:Int)≤c:=by omega
  have mn: (c:Int) < l.length:=by omega
  have nM: (ai l).getD c []=aJ.J l[c]:=cT aI;obtain⟨uv,rX⟩:=hb l[c] (List.getElem_mem aI);simp only[go_sem,Fj,Aw,h1,z0,mn,nM,bT,abU,bne_self_eq_false];refine gG (ayO l[c].eg uv) (by simp only[bU,bJ,ck,Bool.and_true]) rfl ?_;simp only[go_sem,z0,mn,nM,bT,abU];refine gG (ayP l[c].jR rX) (by simp only[bU,bJ,ck,Bool.and_true]) rfl ?_;simp only[go_sem,aP];refine E.ac ⟨⟨c+1,by omega,rfl,rfl⟩,?_⟩;simp only[go_sem];omega
 have h1:decide ((c:Int) < l.length)=false:=decide_eq_false (by omega);simp only[go_sem,Fj,Aw,h1,bT];exact E.bg rfl ⟨rfl,rfl⟩
def pk (bf:Int→Bool→List (List F))(B:Int)(k:Bool):F:=if (bf B k).length=0 then .bH else .pure 2 (bf B k)
def Ar (bf:Int→Bool→List (List F))(B:Int):F:= .agg [.int .i64 B,pk bf B false,pk bf B true]
theorem axs {W:List Z}{I m:Nat}{R ab:Int}{Y:List Int}{bf:Int→Bool→List (List F)}{X:Int→Bool→Nat}(h:rz W I m R ab Y bf X)(B:Int)(k:Bool):
 bW W [some I,some m] (List.range W.length) (hy X bf B k)=pk bf B k:=by
 unfold hy pk;split
 ·rfl
 ·rename_i an;have hne:bf B k≠ []:=fun e=>an (by rw[e];rfl);have aj:=h.x B k hne;have h1:X B k≠I:=fun e=>by
   have:=h.I;rw[←e,aj] at this;simp only[Option.some.injEq,Z.ag.injEq] at this;have:=this.2.1;omega
  have G:X B k≠m:=fun e=>by have:=h.m;rw[←e,aj] at this;cases this
  refine qx ?_ ?_ aj rfl (h.fX B k)
  ·simp[hE,h1.symm,G.symm]
  ·simp;exact km aj
theorem axd {W:List Z}{I m:Nat}{R ab:Int}{Y:List Int}{bf:Int→Bool→List (List F)}{X:Int→Bool→Nat}(h:rz W I m R ab Y bf X):
 eC W (List.range W.length) [some I,some m] [some I,some m]=some [.ag 118 3 [[.int .i64 R,.int .i64 ab,.bE 1]],.be (.map false [.int .i64] (de (Ar bf) Y))]:=by
 have zo:I≠m:=fun e=>by have h1:=h.I;rw[e,h.m] at h1;cases h1
 have hb:bW W [some I,some m] (List.range W.length) (.bE m)= .bE 1:=by
  simp[bW,hE,zo]
 have ay: ∀ B,bW W [some I,some m] (List.range W.length) (nI X bf B)=Ar bf B:=fun B=>by
  unfold nI Ar;rw[bW];simp only[dT,axs h];rfl
 simp only[eC,h.I,h.m];congr 1;have jS:hr W [some I,some m] (List.range W.length) (.ag 118 3 [[.int .i64 R,.int .i64 ab,.bE m]])= .ag 118 3 [[.int .i64 R,.int .i64 ab,.bE 1]]:=by
  simp only[hr,lJ,List.map_cons,List.map_nil,dT,hb];rfl
 have HW:hr W [some I,some m] (List.range W.length) (.be (.map false [.int .i64] (de (nI X bf) Y)))= .be (.map false [.int .i64] (de (Ar bf) Y)):=by
  simp only[hr,de,List.map_map];congr 2;refine List.map_congr_left fun B _=> ?_;simp only[Function.comp_apply,ay];rfl
 rw[jS,HW]
def pU (bf:Int→Bool→List (List F))(B:Int):List F:= [.int .i64 B,pk bf B false,pk bf B true]
theorem abc {bf:Int→Bool→List (List F)}{B:Int}{k:Bool}:Abs.cV (pk bf B k)=true:=by
 unfold pk;split<;>rfl
theorem abd {bf:Int→Bool→List (List F)}(h: ∀ B k,dY (bf B k)=true){B:Int}{k:Bool}:bJ (pk bf B k)=true:=by
 unfold pk;split
 ·rfl
 ·simp only[bJ,h]
theorem Sp {bf:Int→Bool→List (List F)}(h: ∀ B k,dY (bf B k)=true): ∀ {fj:List Int},dY (fj.map (pU bf))=true
 | []=>rfl
 |B::fj=>by
  rw[List.map_cons,dY,Sp h (fj:=fj)];simp only[pU,bU,abd h,bJ,Bool.and_self]
def CF (S:cv→Int)(B:Int)(aY:List cv):List nb:=(aY.filter fun k=>decide (k.B=B∧0 < S k)).map fun k=>⟨k.n,S k⟩
theorem aak (a b:ByteArray):a.toList < b.toList∨a.toList=b.toList∨b.toList < a.toList:=by
 by_cases h1:a.toList < b.toList
 ·exact .inl h1
 ·by_cases G:b.toList < a.toList
  ·exact .inr (.inr G)
  ·exact .inr (.inl (List.le_antisymm (List.not_lt.1 G) (List.not_lt.1 h1)))
def tT (a b:nb):Prop:=a.n.toList < b.n.toList
theorem Sg {ef Ih:ByteArray}{cN:Int}: ∀ {t:List nb},Ih∈(gr ef cN t).map (·.n)↔Ih=ef∨Ih∈t.map (·.n)
 | []=>by simp[gr]
 |x::t=>by
  have ih:=Sg (ef:=ef) (Ih:=Ih) (cN:=cN) (t:=t);unfold gr;split
  ·simp only[List.map_cons,List.mem_cons,ih];exact or_left_comm
  ·split
   ·rename_i e;simp only[List.map_cons,List.mem_cons,←e];exact or_self_left.symm
   ·simp only[List.map_cons,List.mem_cons]
theorem aal {ef:ByteArray}{cN:Int}: ∀ {t:List nb},t.Pairwise tT→(gr ef cN t).Pairwise tT
 | [],_=>by simp[gr]
 |x::t,h=>by
  rw[List.pairwise_cons] at h;unfold gr;split
  ·rename_i aj;rw[List.pairwise_cons];refine⟨fun y bt=> ?_,aal h.2⟩;rcases Sg.1 (List.mem_map_of_mem (f:=(·.n)) bt) with e|bt
   ·unfold tT;rw[e];exact aj
   ·obtain⟨M,ba,e⟩:=List.mem_map.1 bt;have:=h.1 M ba;unfold tT at *;rw[←e];exact this
  ·split
   ·rename_i e;rw[List.pairwise_cons];exact⟨fun y bt=>by have:=h.1 y bt;unfold tT at *;rw[←e];exact this,h.2⟩
   ·rename_i h1 G;have au:ef.toList < x.n.toList:=by
     rcases aak ef x.n with h|h|h
     ·exact h
     ·exact absurd (Mp h.symm) G
     ·exact absurd h h1
    rw[List.pairwise_cons,List.pairwise_cons];refine⟨fun y bt=> ?_,h⟩;rcases List.mem_cons.1 bt with rfl|bt
    ·exact au
    ·exact List.lt_trans au (h.1 y bt)
theorem aam {ef:ByteArray}{cN:Int}{bm:ByteArray→Int}: ∀ {t:List nb},t.Pairwise tT→(∀ x∈t,x.m=bm x.n)→(ef∉t.map (·.n)→bm ef=0)→ ∀ x∈gr ef cN t,x.m=bm x.n+if x.n=ef then cN else 0
 | [],_,_,h0,x,aj=>by
  rw[gr,List.mem_singleton] at aj;subst aj;have:=h0 (by simp);simp[this]
 |y::t,h,hF,h0,x,aj=>by
  rw[List.pairwise_cons] at h;have CG: ∀ {a:ByteArray},¬a.toList < a.toList:=fun {a}=>List.lt_irrefl _;unfold gr at aj;split at aj
  ·rename_i bt;have aan:y.n≠ef:=fun e=>by rw[e] at bt;exact CG bt
   rcases List.mem_cons.1 aj with rfl|aj
   ·rw[if_neg aan,hF _ List.mem_cons_self];omega
   ·refine aam h.2 (fun M ba=>hF M (List.mem_cons_of_mem _ ba)) (fun aH=>h0 ?_) x aj;rw[List.map_cons,List.mem_cons];rintro (e|e)
    ·exact aan e.symm
    ·exact aH e
  ·split at aj
   ·rename_i tU e;have aI: ∀ M∈t,M.n≠ef:=fun M ba bK=>by have:=h.1 M ba;unfold tT at this;rw[e,bK] at this;exact CG this
    rcases List.mem_cons.1 aj with rfl|aj
    ·simp only[if_true];rw[←e,hF _ List.mem_cons_self]
    ·rw[if_neg (aI x aj),hF x (List.mem_cons_of_mem _ aj)];omega
   ·rename_i h1 G;have au:ef.toList < y.n.toList:=by
     rcases aak ef y.n with h|h|h
     ·exact h
     ·exact absurd (Mp h.symm) G
     ·exact absurd h h1
    have kx: ∀ M∈y::t,M.n≠ef:=fun M ba e=>by
     rcases List.mem_cons.1 ba with rfl|ba
     ·exact G e
     ·have:=List.lt_trans au (h.1 M ba);rw[e] at this;exact CG this
    rcases List.mem_cons.1 aj with rfl|aj
    ·simp only[if_true];have:=h0 (fun hm=>by obtain⟨M,ba,e⟩:=List.mem_map.1 hm;exact kx M ba e);omega
    ·rw[if_neg (kx x aj),hF x aj];omega
theorem aao {ae:List cw}{bk B:Int}{l:List eH}: ∀ {c:Nat},c≤l.length→
 (nP ae bk B (l.take c)).Pairwise tT∧(∀ ef,ef∈(nP ae bk B (l.take c)).map (·.n)↔(⟨B,ef⟩:cv)∈gJ bk (l.take c))∧ ∀ x∈nP ae bk B (l.take c),x.m=eb ae bk (l.take c) ⟨B,x.n⟩
 |0,_=>by simp[nP,gJ]
 |c+1,av=>by
  have aI:c < l.length:=by omega
  obtain⟨h1,G,au⟩:=aao (ae:=ae) (bk:=bk) (B:=B) (l:=l) (c:=c) (by omega);rw[aap aI]
  by_cases J:l[c].bk=bk∧l[c].ah=B
  ·rw[if_pos J];refine⟨aal h1,fun ef=> ?_,fun x aj=> ?_⟩
   ·rw[Sg,G,LM aI,if_pos J.1,ET];have: (⟨B,ef⟩:cv)=hn l[c]↔ef=l[c].name:=by
     unfold hn;rw[cv.mk.injEq,J.2];simp
    rw[this]
   ·have:=aam (bm:=fun ef=>eb ae bk (l.take c) ⟨B,ef⟩) h1 au (fun aH=>Y6 (fun O=>aH ((G _).2 O))) x aj;rw[this,HD aI];congr 1;have e: (l[c].bk=bk∧hn l[c]=⟨B,x.n⟩)↔x.n=l[c].name:=by
     unfold hn;rw[cv.mk.injEq];constructor
     ·rintro⟨_,_,h⟩;exact h.symm
     ·intro h;exact⟨J.1,J.2,h.symm⟩
    by_cases aj:x.n=l[c].name
    ·rw[if_pos aj,if_pos (e.2 aj)]
    ·rw[if_neg aj,if_neg fun h=>aj (e.1 h)]
  ·rw[if_neg J];refine⟨h1,fun ef=> ?_,fun x aj=> ?_⟩
   ·rw[G,LM aI]
    by_cases he:l[c].bk=bk
    ·rw[if_pos he,ET];constructor
     ·exact .inr
     ·rintro (h|h)
      ·exact absurd ⟨he,by rw[hn,cv.mk.injEq] at h;exact h.1.symm⟩ J
      ·exact h
    ·rw[if_neg he]
   ·rw[au x aj,HD aI,if_neg,Int.add_zero];rintro⟨he,O⟩;rw[hn,cv.mk.injEq] at O;exact J ⟨he,O.1⟩
theorem awE {ae:List cw}{bk B:Int}{l:List eH}{aY:List cv}(hL:aY.Perm (gJ bk l))(ao:aY.Pairwise pN):An (nP ae bk B l)=CF (eb ae bk l) B aY:=by
 have h:=aao (ae:=ae) (bk:=bk) (B:=B) (l:=l) (c:=l.length) (Nat.le_refl _);rw[List.take_length] at h;obtain⟨h1,G,au⟩:=h;have p1: (An (nP ae bk B l)).Pairwise tT:=h1.filter _;have iT: (CF (eb ae bk l) B aY).Pairwise tT:=by
  unfold CF;rw[List.pairwise_map];refine (ao.filter _).imp_of_mem fun {a b} aC hb pv=> ?_;have uC:=(List.mem_filter.1 aC).2;have jX:=(List.mem_filter.1 hb).2;simp only[decide_eq_true_eq] at uC jX;unfold pN at pv;unfold tT;rcases pv with h|h
  ·omega
  ·exact h.2
 have CG: ∀ a:nb,¬tT a a:=fun a=>List.lt_irrefl _;have cg: ∀ x,x∈An (nP ae bk B l)↔x∈CF (eb ae bk l) B aY:=fun x=>by
  unfold An CF;simp only[List.mem_filter,List.mem_map,decide_eq_true_eq];constructor
  ·rintro⟨aj,ak⟩;have O:=(G x.n).1 (List.mem_map_of_mem aj);have hm:=au x aj;exact⟨⟨B,x.n⟩,⟨hL.mem_iff.2 O,rfl,by rw[←hm];exact ak⟩,by rw[←hm]⟩
  ·rintro⟨k,⟨O,rfl,ak⟩,rfl⟩;have gj:=hL.mem_iff.1 O;obtain⟨y,bt,e⟩:=List.mem_map.1 ((G k.n).2 gj);have hm:=au y bt;have:y=⟨k.n,eb ae bk l k⟩:=by
    cases y;simp only at e hm;subst e;rw[hm]
   rw[←this];exact⟨bt,by rw[this];exact ak⟩
 have n1: (An (nP ae bk B l)).Nodup:=by
  refine p1.imp ?_;intro a b h e;subst e;exact CG a h
 have eo: (CF (eb ae bk l) B aY).Nodup:=by
  refine iT.imp ?_;intro a b h e;subst e;exact CG a h
 refine ((List.perm_ext_iff_of_nodup n1 eo).2 cg).eq_of_pairwise (fun a b _ _ h1 G=>absurd (List.lt_trans h1 G) (CG a)) p1 iT
theorem aaq {C:bD}{b:Nat}: ∀ {x y:List F} {V:Nat},hK x y→dC C b V x→dC C b V y
 | [],[],_,_,h=>h
 | [],_::_,_,h,_=>by simp[hK] at h
 |_::_,[],_,h,_=>by simp[hK] at h
 |a::x,J::y,V,h,N=>by
  rw[hK] at h;rw[dC] at N ⊢;obtain⟨⟨v,h1,G,au⟩,bv⟩:=N;exact⟨⟨v,h1,G,W3 _ _ _ h.1 au⟩,aaq h.2 bv⟩
theorem aar: ∀ {x y:List F},hK x y→x.length=y.length
 | [],[],_=>rfl
 | [],_::_,h=>by simp[hK] at h
 |_::_,[],h=>by simp[hK] at h
 |_::x,_::y,h=>by rw[hK] at h;simp[aar h.2]
theorem aas {C:bD}{b U:Nat}{f g:Int→List F}: ∀ {ds:List Int} {V:Nat},(∀ B∈ds,hK (f B) (g B))→dh C b V U (ds.map f)→dh C b V U (ds.map g)
 | [],_,_,h=>h
 |B::ds,V,h,N=>by
  rw[List.map_cons,dh] at N ⊢;have ay:=h B List.mem_cons_self;exact⟨by rw[←aar ay];exact N.1,aaq ay N.2.1,aas (fun x aj=>h x (List.mem_cons_of_mem _ aj)) N.2.2⟩
theorem awF {C:bD}{U:Nat}{f g:Int→List F}{ds:List Int}{v:Value}(h: ∀ B∈ds,hK (f B) (g B))(N:Rep C (.pure U (ds.map f)) v):Rep C (.pure U (ds.map g)) v:=by
 rw[Rep] at N ⊢;obtain⟨cy,cap,h1,G,au⟩:=N;rw[List.length_map] at h1 G au;refine⟨cy,cap,by rw[List.length_map];exact h1,by rw[List.length_map];exact G,?_⟩;rw[List.length_map];rcases au with au|⟨b,V,bv,cx,dx⟩
 ·exact .inl au
 ·exact .inr ⟨b,V,bv,cx,aas h dx⟩
end Go.Proofs.YtpincjkjoeopkaaGreatDoor
