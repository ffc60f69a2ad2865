/- Time evaluation. -/
import Derived.Test.YtpincjkjoeopkaaGreatDoorK25
import Derived.Test.YtpincjkjoeopkaaGreatDoorK27
import Derived.Test.YtpincjkjoeopkaaGreatDoorK18
import Derived.Test.YtpincjkjoeopkaaGreatDoorK17
import Derived.Test.YtpincjkjoeopkaaGreatDoorK6
import Derived.Test.YtpincjkjoeopkaaGreatDoorK5
set_option linter.unusedSimpArgs false
set_option linter.unusedVariables false
set_option linter.unusedSectionVars false
namespace Go.Abs
variable [dw]
theorem aK.fU {P:Program}{f:FuncId}{args:List z}{d:List R}{br:z→List R→Prop}(h:aK P f args d (fun v rs=>s d.length (fun r gX=>br (bn r 0) gX) [(0,v)] rs)):aK P f args d br:=by
 intro C du G ar hG dk;refine (h C du G ar hG dk).mono ?_;rintro e w' ⟨aV,v,av,rfl,aR,h1,B,am,bp⟩;obtain⟨fe,gX,mV,aQ⟩:=bp;have FI:sr 1 [(0,v)] av ⟨#[aV],[]⟩:=by
  refine⟨B,rfl,rfl,fun t=> ?_⟩;simp only[bn];split
  ·rename_i ht;subst ht;exact h1
  ·simp[Rep]
 obtain⟨awY,gg,KL,ak,hl⟩:=I0 mV av rfl FI am;exact⟨aV,bn fe 0,awY,rfl,gg.trans aR,ak.iY 0,ak.ok,hl,by rw[KL];exact aQ⟩
end Go.Abs
namespace Go.Proofs.YtpincjkjoeopkaaGreatDoor
open Go Go.Abs Go.Proofs.Tryz
theorem auy (l:List Ib.cx)(oe:l.length≤1000000)(ab:Int):aK prog 117 [.pure 4 (ac l),.int .i64 ab] [] (fun v rs=>v= .pure 2 (ac (Ib.pf l ab))∧rs= []):=by
 refine aK.fU ((Ib.awZ l (by omega) ab).mono ?_);rintro v rs ⟨rfl,rfl⟩;have mZ:bU [.aa 78 2 (ac (Ib.pf l ab))] [] [0] (.own 0 (Ib.pf l ab).length 0 (Ib.pf l ab).length)= .pure 2 (ac (Ib.pf l ab)):=pO rfl rfl rfl (by rw[bO]) cw;refine s.kc [] [0] rfl rfl (by simp only[go_sem]<;>rfl) ?_;simp only[List.map_cons,List.map_nil,mZ];exact s.U ⟨rfl,rfl⟩
end Go.Proofs.YtpincjkjoeopkaaGreatDoor
namespace Go.Proofs.YtpincjkjoeopkaaGreatDoor
open Go Go.Abs Go.Proofs.Tryz
def iB (O:List Ib.cx):List Int:=O.foldl (fun M p=>ea p.ab M) []
theorem YE {O:List Ib.cx}{c:Nat}(h:c < O.length):iB (O.take (c+1))=ea O[c].ab (iB (O.take c)):=by
 unfold iB;rw[List.take_succ_eq_append_getElem h,List.foldl_append];rfl
theorem GY {O:List Ib.cx}: ∀ {c:Nat},c≤O.length→(iB (O.take c)).Nodup∧(iB (O.take c)).length≤c
 |0,_=>by simp[iB]
 |c+1,h=>by
  obtain⟨h1,B⟩:=GY (O:=O) (c:=c) (by omega);rw[YE (by omega)];refine⟨DU h1,?_⟩;unfold ea;split
  ·omega
  ·simp;omega
def iP (O:List Ib.cx)(o:Int):List (Int×List z):=(Ib.pf O o).map fun t=>(o,[.str t.name,.int .i64 t.min])
def ji (O:List Ib.cx)(ax:List Int):List (Int×List z):=ax.flatMap (iP O)
theorem QK {J T:Int}{bq:List Int×(Int→Bool→List (List z))}{aU dG:List (Int×List z)}:eJ J T bq (aU++dG)=eJ J T (eJ J T bq aU) dG:=by unfold eJ;rw[List.foldl_append]
theorem auq {J T o:Int}{O:List Ib.cx}{bq:List Int×(Int→Bool→List (List z))}(h: ¬(J≤o∧o≤T)):eJ J T bq (iP O o)=bq:=by
 unfold iP eJ;generalize Ib.pf O o=aP
 induction aP with
 |nil=>rfl
 |cons t aP ih=>
  rw[List.map_cons,List.foldl_cons];have:nb J T bq (o,[.str t.name,.int .i64 t.min])=bq:=by unfold nb;rw[if_neg h]
  rw[this];exact ih
def om (M:List Int):List (z×z):=cX (fun _=> .bool true) M
theorem YF {n:Nat}{M:List Int}:mU n (om M)=true:=KA fun _ _=>rfl
theorem aur {M:List Int}:yt false [.int .i64] (om M):=by
 intro p ae;obtain⟨k,_,rfl⟩:=List.mem_map.1 ae
 trivial
theorem aus {o:Int}{M:List Int}(h:M.Nodup):dp (.int .i64 o) (.bool true) (om M)=om (ea o M):=DK (f:=fun _=> .bool true) (g:=fun _=> .bool true) (fun _ _=>rfl) h
theorem aut {W:List R}{E m:Nat}{J T:Int}{M:List Int}{ba:Int→Bool→List (List z)}(h0:hy W E m J T M ba){c n kP:Nat}{a b:List Nat}(an:W[c]? =some (.aY (.dY n a))):hy (W.set c (.aY (.dY kP b))) E m J T M ba:=by
 obtain⟨X,h⟩:=h0;have h1:c≠E:=fun e=>by rw[e,h.E] at an;cases an
 have B:c≠m:=fun e=>by rw[e,h.m] at an;cases an
 refine⟨X,Bh h.all rfl,?_,?_,h.GB,h.dP,h.fU,fun o k ag=> ?_,h.inj⟩
 ·rw[List.getElem?_set,if_neg h1];exact h.E
 ·rw[List.getElem?_set,if_neg B];exact h.m
 ·have ad:=h.x o k ag;rw[List.getElem?_set,if_neg (fun e=>by rw[←e,an] at ad;cases ad)];exact ad
set_option maxHeartbeats 4000000 in
theorem auu {d:List R}{E m:Nat}{J T:Int}{M:List Int}{ba:Int→Bool→List (List z)}(h0:hy d E m J T M ba)(cL: ∀ o k,(ba o k).length≤1000)(O:List Ib.cx)(hl:O.length≤100000)(hv: ∀ ax:List Int,ax.Nodup→(∀ o∈ax,o∈iB O)→(ji O ax).length≤90000):
 aK prog 43 [.aW E 1 0 0,.pure 4 (ac O)] d
  (fun v W=>v= .bg []∧fY d W m∧ ∃ ax:List Int,ax.Perm (iB O)∧hy W E m J T (eJ J T (M,ba) (ji O ax)).1 (eJ J T (M,ba) (ji O ax)).2):=by
 have fd:=jP h0.choose_spec.E;have xW:=jP h0.choose_spec.m;have hall:=h0.choose_spec.all;refine cr func43 YG (by simp[qa,qM]) ?_;simp only[go_sem,qa,qM,bO];refine dR (fun r W=> ∃ c:Nat,c≤O.length∧r= [(0,.aW E 1 0 0),(1,.pure 4 (ac O)),(4,.bu d.length),(11,.pure 4 (ac O)),(12,.int .i64 O.length),(13,.int .i64 c)]∧W=d++ [.aY (.map false [.int .i64] (om (iB (O.take c))))])
  (fun r _=>match bn r 13 with| .int _ j=>(O.length-j).toNat|_=>0) ?_ ?_
 ·exact s.U ⟨0,by omega,rfl,rfl⟩
 rintro r W ⟨c,an,rfl,rfl⟩;have aR:=dr (c:=c) (by omega)
 by_cases aC:c < O.length
 ·have h1: (c:Int) < O.length:=by omega
  have z0: (0:Int)≤c:=by omega
  have ao: (ac O).getD c []=aG.F O[c]:=cQ aC;have dQ:=YE aC;have I:=aus (o:=O[c].ab) (GY (O:=O) (c:=c) an).1;rw[←dQ] at I;generalize O[c]=p at *;simp only[go_sem,qa,qM,z0,h1,ao,Ib.yY,bO,Int.toNat_natCast,List.append_assoc,dE,dz,dW,dT,List.length_append,I,aR,aur];have Gv: ∀ {t:List R} {K:aJ→List R→Prop} {x:R},iM (d.length+1) x=true→s d.length K [(0,.aW E 1 0 0),(1,.pure 4 (ac O)),(4,.bu d.length),(11,.pure 4 (ac O)),(12,.int .i64 O.length),(13,.int .i64 ((c+1:Nat):Int))] (d++ [x])→s d.length K [(0,.aW E 1 0 0),(1,.pure 4 (ac O)),(4,.bu d.length),(11,.pure 4 (ac O)),(12,.int .i64 O.length),(13,.int .i64 ((c+1:Nat):Int))] (d++x::t):=fun {t K x} ad V=>by
   have:=s.drop (t:=t) (by simp) (Gw hall ad) (by simp[Dj,di];omega) V;simpa using this
  refine Gv YF (s.U ⟨⟨c+1,by omega,rfl,rfl⟩,?_⟩);simp only[go_sem];omega
 have h1: ¬(c:Int) < O.length:=by omega
 obtain rfl:c=O.length:=by omega
 rw[List.take_length];simp only[go_sem,qa,qM,h1,dz,dE,List.append_assoc];clear aR aC h1 an;obtain⟨QL,QM⟩:=GY (O:=O) (c:=O.length) (Nat.le_refl _);rw[List.take_length] at QL QM;have QN: (om (iB O)).length=(iB O).length:=by unfold om cX;rw[List.length_map]
 have qN: ∀ j,j < (iB O).length→((om (iB O)).getD j (.cc,.cc))=(.int .i64 ((iB O).getD j 0),.bool true):=fun j aT=>by
  unfold om cX;rw[List.getD_eq_getElem?_getD,List.getElem?_map,List.getD_eq_getElem?_getD,List.getElem?_eq_getElem aT];rfl
 have JB: ∀ j,j < (iB O).length→(iB O).getD j 0∈iB O:=fun j aT=>by rw[List.getD_eq_getElem?_getD,List.getElem?_eq_getElem aT];exact List.getElem_mem aT
 have YH: ∀ a b,a < (iB O).length→b < (iB O).length→(iB O).getD a 0=(iB O).getD b 0→a=b:=fun a b aw Z e=>by
  rw[List.getD_eq_getElem?_getD,List.getD_eq_getElem?_getD,List.getElem?_eq_getElem aw,List.getElem?_eq_getElem Z] at e;exact (List.getElem_inj QL).1 e
 have ua:hy (d++ [.aY (.map false [.int .i64] (om (iB O))),.aY (.dY (om (iB O)).length [])]) E m J T M ba:=by
  obtain⟨xd,xe⟩:=h0;exact⟨xd,xe.ext (by intro bz hrow;simp only[fA] at hrow;rcases hrow with rfl|rfl;exact YF;rfl)⟩
 generalize iB O=gI at *;refine dR (fun r W=> ∃ bR:List Nat,bR.Nodup∧(∀ j∈bR,j < gI.length)∧r= [(0,.aW E 1 0 0),(1,.pure 4 (ac O)),(22,.fG (d.length+1) d.length)]∧fY d W m∧W[d.length]? =some (.aY (.map false [.int .i64] (om gI)))∧W[d.length+1]? =some (.aY (.dY gI.length bR))∧hy W E m J T (eJ J T (M,ba) (ji O (bR.map fun j=>gI.getD j 0))).1 (eJ J T (M,ba) (ji O (bR.map fun j=>gI.getD j 0))).2)
  (fun _ W=>match W[d.length+1]? with|some (.aY (.dY n bR))=>n-bR.length|_=>0) ?_ ?_
 ·rw[show (d++ [R.aY (xS.map false [cN.int .i64] (om gI))]).length=d.length+1 by simp];rw[QN] at ua ⊢;exact s.U ⟨[],List.nodup_nil,by simp,rfl,fY.lC,by rw[dz];rfl,by rw[dE];rfl,ua⟩
 rintro r W ⟨bR,pT,GZ,rfl,hF,Bg,hE,cU⟩;simp only[go_sem,qa,qM];unfold Og rk;simp only[Bg,hE];have QO: (bR.map fun j=>gI.getD j 0).Nodup:=List.pairwise_map.2 (pT.imp_of_mem fun aw Z hne e=>hne (YH _ _ (GZ _ aw) (GZ _ Z) e));have auv: ∀ o∈bR.map (fun j=>gI.getD j 0),o∈gI:=fun o aq=>by
  obtain⟨j,aT,rfl⟩:=List.mem_map.1 aq;exact JB j (GZ j aT)
 refine⟨QN.symm,by omega,fun xc=> ?_,fun j aT KU=> ?_⟩
 ·simp only[go_sem,qa,qM];refine s.U ⟨rfl,hF,_,(List.perm_ext_iff_of_nodup QO QL).2 fun o=>⟨auv o,fun aq=> ?_⟩,cU⟩;obtain⟨j,aT,rfl⟩:=List.getElem_of_mem aq;exact List.mem_map.2 ⟨j,xc j aT,by rw[List.getD_eq_getElem?_getD,List.getElem?_eq_getElem aT];rfl⟩
 have aIh:bR.length+1≤gI.length:=by
  have h1: (bR++ [j]).Nodup:=List.nodup_append.2 ⟨pT,by simp,fun a aw b Z=>by rw[List.mem_singleton] at Z;subst Z;exact fun e=>KU (e▸aw)⟩;have B: (bR++ [j]).length≤(List.range gI.length).length:=h1.length_le_of_subset fun x ad=>by
   rw[List.mem_range];rcases List.mem_append.1 ad with ad|ad
   ·exact GZ x ad
   ·rw[List.mem_singleton] at ad;omega
  simpa using B
 have G0: (bR++ [j]).Nodup:=List.nodup_append.2 ⟨pT,by simp,fun a aw b Z=>by rw[List.mem_singleton] at Z;subst Z;exact fun e=>KU (e▸aw)⟩;have KV: ∀ q∈bR++ [j],q < gI.length:=fun q aQ=>by
  rcases List.mem_append.1 aQ with aQ|aQ
  ·exact GZ q aQ
  ·rw[List.mem_singleton] at aQ;omega
 have auw:=jP hE;have DV: (W.set (d.length+1) (.aY (.dY gI.length (bR++ [j]))))[d.length]? =some (.aY (.map false [.int .i64] (om gI))):=by rw[List.getElem?_set,if_neg (by omega)];exact Bg
 have uV: (W.set (d.length+1) (.aY (.dY gI.length (bR++ [j]))))[d.length+1]? =some (.aY (.dY gI.length (bR++ [j]))):=by rw[List.getElem?_set,if_pos rfl,if_pos auw]
 have yZ:=aut (kP:=gI.length) (b:=bR++ [j]) cU hE;have Br:fY d (W.set (d.length+1) (.aY (.dY gI.length (bR++ [j])))) m:=⟨by rw[List.length_set];exact hF.1,fun i bz h1 B am=>by rw[List.getElem?_set,if_neg (by have:=jP h1;omega)];exact hF.2 i bz h1 B am⟩;have dQ:ji O ((bR++ [j]).map fun j=>gI.getD j 0)=ji O (bR.map fun j=>gI.getD j 0)++iP O (gI.getD j 0):=by unfold ji;rw[List.map_append,List.flatMap_append];simp
 have pd:=hv ((bR++ [j]).map fun j=>gI.getD j 0) (List.pairwise_map.2 (G0.imp_of_mem fun aw Z hne e=>hne (YH _ _ (KV _ aw) (KV _ Z) e))) (fun o aq=>by
  obtain⟨q,aQ,rfl⟩:=List.mem_map.1 aq;exact JB q (KV q aQ))
 have cB:=Bt (J:=J) (T:=T) (ji O (bR.map fun j=>gI.getD j 0)) (M,ba) 1000 cL;rw[dQ,List.length_append] at pd;rw[qN j aT];simp only[go_sem,qa,qM];generalize W.set (d.length+1) (.aY (.dY gI.length (bR++ [j])))=ha at *;generalize ce:eJ J T (M,ba) (ji O (bR.map fun j=>gI.getD j 0))=bq at *;obtain⟨qK,hU⟩:=bq;simp only at cB yZ;unfold Ji;simp only[uV,DV,List.getLastD_concat];refine⟨QN.symm,by simp,aT,?_⟩;rw[qN j aT];generalize gI.getD j 0=ab at *;have kN:=yZ.choose_spec.E;simp only[go_sem,qa,qM,kN];have mo: ∀ (fZ:List R),fY d fZ m→fZ[d.length]? =some (.aY (.map false [.int .i64] (om gI)))→fZ[d.length+1]? =some (.aY (.dY gI.length (bR++ [j])))→hy fZ E m J T (eJ J T (qK,hU) (iP O ab)).1 (eJ J T (qK,hU) (iP O ab)).2→
  (∃ bR:List Nat,bR.Nodup∧(∀ j∈bR,j < gI.length)∧([(0,.aW E 1 0 0),(1,.pure 4 (ac O)),(22,.fG (d.length+1) d.length)]:aJ)= [(0,.aW E 1 0 0),(1,.pure 4 (ac O)),(22,.fG (d.length+1) d.length)]∧fY d fZ m∧fZ[d.length]? =some (.aY (.map false [.int .i64] (om gI)))∧fZ[d.length+1]? =some (.aY (.dY gI.length bR))∧hy fZ E m J T (eJ J T (M,ba) (ji O (bR.map fun j=>gI.getD j 0))).1 (eJ J T (M,ba) (ji O (bR.map fun j=>gI.getD j 0))).2):=fun fZ a b F o=>
  ⟨bR++ [j],G0,KV,rfl,a,b,F,by rw[dQ,QK,ce];exact o⟩
 have QP: ∀ fZ:List R,fZ[d.length+1]? =some (.aY (.dY gI.length (bR++ [j])))→(match fZ[d.length+1]? with|some (.aY (.dY n bR))=>n-bR.length|_=>0) < gI.length-bR.length:=fun fZ h=>by
  rw[h];simp only[List.length_append,List.length_singleton];omega
 by_cases G:J≤ab∧ab≤T
 rotate_left
 ·have KW:eJ J T (qK,hU) (iP O ab)=(qK,hU):=auq G;have jg:hy ha E m J T (eJ J T (qK,hU) (iP O ab)).1 (eJ J T (qK,hU) (iP O ab)).2:=by rw[KW];exact yZ
  by_cases d1:ab < J
  ·have q1:decide (ab < J)=true:=decide_eq_true d1;simp only[go_sem,qa,qM,q1];refine s.eW [0,1,22] ?_;simp only[go_sem];exact s.U ⟨mo ha Br DV uV jg,QP ha uV⟩
  ·have q1:decide (ab < J)=false:=decide_eq_false d1;have eF:decide (T < ab)=true:=decide_eq_true (by omega);simp only[go_sem,qa,qM,q1,eF,kN];refine s.eW [0,1,22] ?_;simp only[go_sem];exact s.U ⟨mo ha Br DV uV jg,QP ha uV⟩
 have q1:decide (ab < J)=false:=decide_eq_false (by omega);have eF:decide (T < ab)=false:=decide_eq_false (by omega);simp only[go_sem,qa,qM,q1,eF,kN];refine bH (auy O (by omega) ab) (by simp only[bP,bE,cw,Bool.and_self,Bool.and_true]) (by simp only[bE,cw]) ?_;obtain⟨aP,QQ⟩: ∃ aP,aP=Ib.pf O ab:=⟨_,rfl⟩;rw[←QQ];have aIi: (iP O ab).length=aP.length:=by unfold iP;rw[List.length_map,QQ]
 have auz: ∀ q (h:q < aP.length),(iP O ab)[q]'(by omega)=(ab,[.str aP[q].name,.int .i64 aP[q].min]):=fun q h=>by subst QQ;unfold iP;rw[List.getElem_map]
 simp only[go_sem,bO];refine dR (fun r W=> ∃ q:Nat,q≤aP.length∧r= [(0,.aW E 1 0 0),(1,.pure 4 (ac O)),(7,.int .i64 ab),(22,.fG (d.length+1) d.length),(43,.pure 2 (ac aP)),(44,.int .i64 aP.length),(45,.int .i64 q)]∧fY d W m∧W[d.length]? =some (.aY (.map false [.int .i64] (om gI)))∧W[d.length+1]? =some (.aY (.dY gI.length (bR++ [j])))∧hy W E m J T (eJ J T (qK,hU) ((iP O ab).take q)).1 (eJ J T (qK,hU) ((iP O ab).take q)).2)
  (fun r _=>match bn r 45 with| .int _ j=>(aP.length-j).toNat|_=>0) ?_ ?_
 ·exact s.U ⟨0,by omega,rfl,Br,DV,uV,yZ⟩
 rintro r fZ ⟨q,aQ,rfl,pc,YI,AE,jg⟩;have aR:=dr (c:=q) (by omega)
 by_cases aC:q < aP.length
 rotate_left
 ·have h1: ¬(q:Int) < aP.length:=by omega
  obtain rfl:q=aP.length:=by omega
  rw[List.take_of_length_le (by omega)] at jg;simp only[go_sem,qa,qM,h1];refine s.eW [0,1,22] ?_;simp only[go_sem];exact s.U ⟨mo fZ pc YI AE jg,QP fZ AE⟩
 have h1: (q:Int) < aP.length:=by omega
 have z0: (0:Int)≤q:=by omega
 have ao: (ac aP).getD q []=aG.F aP[q]:=cQ aC;have YJ:=YK (J:=J) (T:=T) (bq:=(qK,hU)) (aU:=iP O ab) (c:=q) (by omega);rw[auz q aC] at YJ;have auA:=Bt (J:=J) (T:=T) ((iP O ab).take q) (qK,hU) 91000 (fun o k=>Nat.le_trans (cB o k) (by omega));have aIj: ((iP O ab).take q).length≤90000:=by rw[List.length_take];omega
 generalize aP[q]=x at *;have vw:hy (fZ++ [.aa 78 2 [[.str x.name,.int .i64 x.min]]]) E m J T (eJ J T (qK,hU) ((iP O ab).take q)).1 (eJ J T (qK,hU) ((iP O ab).take q)).2:=by
  obtain⟨xd,xe⟩:=jg;exact⟨xd,xe.ext (by intro bz hrow;rw[List.mem_singleton] at hrow;subst hrow;exact kf rfl)⟩
 simp only[go_sem,qa,qM,z0,h1,ao,Ib.QR,bO,Int.toNat_natCast,List.append_assoc,dE,dz,dW,dT,List.length_append];refine tV vw.choose_spec.all (by
  have am:=jP vw.choose_spec.E;simp only[gl,di,am,decide_true,Bool.and_true]) (Qa vw (fun o k=>Nat.le_trans (auA o k) (by omega)) ab x.name x.min) ?_
 rintro _ W' ⟨rfl,za,Bu⟩;refine⟨za.1,?_⟩;simp only[go_sem,aR];have Fa:d.length≠m:=by omega
 have auB:d.length+1≠m:=by omega
 refine s.U ⟨⟨q+1,by omega,rfl,pc.trans (fY.lC.trans za),za.2 _ _ (bL YI) Fa (fun k ah e=>by cases e),za.2 _ _ (bL AE) auB (fun k ah e=>by cases e),?_⟩,?_⟩
 ·rw[YJ];unfold nb;simp only;rw[if_pos G] at Bu ⊢;exact Bu
 ·simp only[go_sem];omega
def Lq:List (z×z)→Option (List Int)
 | []=>some []
 | (.int .i64 n,_)::l=>match Lq l with|some hk=>some (n::hk)|none=>none
 |_::_=>none
theorem Lr: ∀ {l:List (z×z)} {hk:List Int},Lq l=some hk→l.map (·.1)=hk.map (z.int .i64 ·)
 | [],hk,h=>by cases h;rfl
 |p::l,hk,h=>by
  unfold Lq at h;split at h
  ·cases ‹_::_= []›
  ·rename_i n v bX lB;cases lB;split at h
   ·rename_i kt uK;cases h;rw[List.map_cons,Lr uK];rfl
   ·cases h
  ·cases h
def BE (x:Int):List Int→List Int
 | []=> [x]
 |y::ys=>if x≤y then x::y::ys else y::BE x ys
def Hg:List Int→List Int
 | []=> []
 |x::ai=>BE x (Hg ai)
theorem Rq (x:Int): ∀ l:List Int,(BE x l).Perm (x::l)
 | []=>List.Perm.refl _
 |y::ys=>by
  rw[BE];split
  ·exact List.Perm.refl _
  ·exact ((Rq x ys).cons y).trans (List.Perm.swap x y ys)
theorem aal: ∀ l:List Int,(Hg l).Perm l
 | []=>List.Perm.refl _
 |x::ai=>(Rq x (Hg ai)).trans ((aal ai).cons x)
theorem aam (x:Int): ∀ l:List Int,l.Pairwise (·≤ ·)→(BE x l).Pairwise (·≤ ·)
 | [],_=>by simp[BE]
 |y::ys,h=>by
  rw[List.pairwise_cons] at h;rw[BE];split
  ·rename_i D5;rw[List.pairwise_cons,List.pairwise_cons];exact⟨fun D aS=>by rcases List.mem_cons.1 aS with rfl|aS;(·exact D5);exact Int.le_trans D5 (h.1 D aS),h⟩
  ·rename_i D5;rw[List.pairwise_cons];refine⟨fun D aS=> ?_,aam x ys h.2⟩;rcases List.mem_cons.1 ((Rq x ys).mem_iff.1 aS) with rfl|aS
   ·omega
   ·exact h.1 D aS
theorem aan: ∀ l:List Int,(Hg l).Pairwise (·≤ ·)
 | []=>List.Pairwise.nil
 |x::ai=>aam x _ (aan ai)
theorem ZS {l bX:List Int}(ae:bX.Perm l)(ak:bX.Pairwise (·≤ ·)):fh l=bX:=by
 have h1: (fh l).Pairwise (·≤ ·):=by
  unfold fh;have:=List.pairwise_mergeSort (le:=fun x y:Int=>decide (x≤y)) (fun a b F h1 B=>by simp only[decide_eq_true_eq] at *;omega) (fun a b=>by simp;omega) l;exact this.imp fun h=>by simpa using h
 have B: (fh l).Perm bX:=by
  unfold fh;exact (List.mergeSort_perm l _).trans ae.symm
 exact B.eq_of_pairwise (fun a b _ _ h1 B=>Int.le_antisymm h1 B) h1 ak
def aao (n:Int):Bool:=(Lit.int .i64 n).wf
def Ls:List Int→Bool
 | []=>true
 |x::ai=> !ai.contains x&&Ls ai
theorem Lt: ∀ {l:List Int},Ls l=true→l.Nodup
 | [],_=>List.nodup_nil
 |x::ai,h=>by
  simp only[Ls,Bool.and_eq_true,Bool.not_eq_true',List.contains_eq_mem,decide_eq_false_iff_not] at h;exact List.nodup_cons.2 ⟨h.1,Lt h.2⟩
def Rr (args:List z)(d:List R):Option (z×List R):=
 match args with
 | [.fn g [.aW b 1 0 0]]=>
  match d[b]? with
  |some (.aa _ 1 [[.bu a]])=>
   match d[a]? with
   |some (.aY (.map false [.int .i64] ents))=>
    match Lq ents with
    |some M=>if (g=128∨g=168∨g=204)∧Ls M=true∧M.all aao=true∧M.length≤1000000 then some (.pure 1 (cC .i64 (Hg M)),d) else none
    |none=>none
   |_=>none
  |_=>none
 |_=>none
theorem awq (args:List z)(d:List R)(v:z)(rs:List R)(h:Rr args d=some (v,rs)):aK prog 47 args d fun gq gX=>gq=v∧gX=rs:=by
 unfold Rr at h;split at h
 ·rename_i g b;split at h
  ·rename_i aP a Z;split at h
   ·rename_i ents aw;split at h
    ·rename_i M kK;split at h
     ·rename_i V;simp only[Option.some.injEq,Prod.mk.injEq] at h;obtain⟨rfl,rfl⟩:=h;obtain⟨ao,h1,B,am⟩:=V;have aR: ∀ x∈M,(Lit.int .i64 x).wf=true:=fun x ad=>List.all_eq_true.1 B x ad;rw[←ZS (aal M) (aan M)];rcases ao with rfl|rfl|rfl
      ·exact ZI aw Z (Lr kK) (Lt h1) aR am
      ·exact avX aw Z (Lr kK) (Lt h1) aR am
      ·exact XH aw Z (Lr kK) (Lt h1) aR am
     ·cases h
    ·cases h
   ·cases h
  ·cases h
 ·cases h
structure mt where
 n:ByteArray
 m:Int
instance:aG mt:=⟨fun a=> [.str a.n,.int .i64 a.m],2,fun _=>rfl,fun _=>rfl,fun _=>rfl⟩
theorem axd (e:mt):aG.F e= [.str e.n,.int .i64 e.m]:=rfl
theorem axe:aG.N mt=2:=rfl
theorem axf (e:mt):List.take 2 (aG.F e)=aG.F e:=rfl
attribute [go_sem] axe axf
def gi (dX:ByteArray)(cF:Int):List mt→List mt
 | []=> [⟨dX,cF⟩]
 |x::t=>if x.n.toList < dX.toList then x::gi dX cF t else if x.n=dX then ⟨dX,x.m+cF⟩::t else ⟨dX,cF⟩::x::t
def nf (Y:List cp)(bh ab:Int)(l:List eS):List mt:=l.foldl (fun S a=>if a.bh=bh∧a.ab=ab then gi a.name (rF Y a) S else S) []
theorem Y7 {Y:List cp}{bh ab:Int}{l:List eS}{c:Nat}(an:c < l.length):nf Y bh ab (l.take (c+1))=if l[c].bh=bh∧l[c].ab=ab then gi l[c].name (rF Y l[c]) (nf Y bh ab (l.take c)) else nf Y bh ab (l.take c):=by
 unfold nf;rw[List.take_succ_eq_append_getElem an,List.foldl_append];rfl
theorem ZW (dX:ByteArray)(cF:Int): ∀ l:List mt,(gi dX cF l).length≤l.length+1
 | []=>by simp[gi]
 |y::t=>by
  have:=ZW dX cF t;unfold gi;split
  ·simp;omega
  ·split<;>simp
def ze (l:List mt):List mt:=l.filter fun x=>decide (0 < x.m)
structure jQ where
 t:Int
 k:Int
instance:aG jQ:=⟨fun a=> [.int .i64 a.t,.int .i64 a.k],2,fun _=>rfl,fun _=>rfl,fun _=>rfl⟩
structure BB where
 ab:Int
 fa:List mt
 jC:List jQ
instance:aG BB:=⟨fun a=> [.int .i64 a.ab,.pure 2 (ac a.fa),.pure 2 (ac a.jC)],3,fun _=>rfl,fun a=>by simp only[bP,bE,cw,Bool.and_self,Bool.and_true,Bool.true_and],fun _=>rfl⟩
theorem aaB (e:BB):aG.F e= [.int .i64 e.ab,.pure 2 (ac e.fa),.pure 2 (ac e.jC)]:=rfl
theorem axb:aG.N BB=3:=rfl
theorem axc (e:BB):List.take 3 (aG.F e)=aG.F e:=rfl
attribute [go_sem] axb axc
def D1 (l:List eS)(J T:Int):Int:=if 1024 < l.length then 3 else if J < 0∨84005 < J∨T < 0∨84005 < T then 2 else if T < J then 1 else 0
theorem axm (l:List mt)(hl:l.length≤1000000):aK prog 56 [.pure 2 (ac l),.pure 2 (ac l)] [] (fun v rs=>v= .bool true∧rs= []):=by
 refine cr func56 aaG (by simp[Ee,Hn]) ?_;simp only[go_sem,Ee,Hn,bO,bne_self_eq_false];refine dR (fun r d=> ∃ c:Nat,c≤l.length∧r= [(0,.pure 2 (ac l)),(1,.pure 2 (ac l)),(5,.int .i64 c)]∧d= [])
  (fun r _=>match bn r 5 with| .int _ j=>(l.length-j).toNat|_=>0) ?_ ?_
 ·exact s.U ⟨0,by omega,rfl,rfl⟩
 rintro r d ⟨c,an,rfl,rfl⟩;have aR:=dr (c:=c) (by omega)
 by_cases aC:c < l.length
 ·have h1:decide ((c:Int) < l.length)=true:=decide_eq_true (by omega);have z0: (0:Int)≤c:=by omega
  have lj: (c:Int) < l.length:=by omega
  have na: (ac l).getD c []=aG.F l[c]:=cQ aC;simp only[go_sem,Ee,Hn,h1,z0,lj,na,bO,axd,bne_self_eq_false,beq_self_eq_true,aR];refine s.U ⟨⟨c+1,by omega,rfl,rfl⟩,?_⟩;simp only[go_sem];omega
 have h1:decide ((c:Int) < l.length)=false:=decide_eq_false (by omega);simp only[go_sem,Ee,Hn,h1,bO];exact s.bb rfl ⟨rfl,rfl⟩
theorem axn (l:List jQ)(hl:l.length≤1000000):aK prog 22 [.pure 2 (ac l),.pure 2 (ac l)] [] (fun v rs=>v= .bool true∧rs= []):=by
 refine cr func22 aaH (by simp[a22,Ho]) ?_;simp only[go_sem,a22,Ho,bO,bne_self_eq_false];refine dR (fun r d=> ∃ c:Nat,c≤l.length∧r= [(0,.pure 2 (ac l)),(1,.pure 2 (ac l)),(5,.int .i64 c)]∧d= [])
  (fun r _=>match bn r 5 with| .int _ j=>(l.length-j).toNat|_=>0) ?_ ?_
 ·exact s.U ⟨0,by omega,rfl,rfl⟩
 rintro r d ⟨c,an,rfl,rfl⟩;have aR:=dr (c:=c) (by omega)
 by_cases aC:c < l.length
 ·have h1:decide ((c:Int) < l.length)=true:=decide_eq_true (by omega);have z0: (0:Int)≤c:=by omega
  have lj: (c:Int) < l.length:=by omega
  have na: (ac l).getD c []= [.int .i64 l[c].t,.int .i64 l[c].k]:=cQ aC;simp only[go_sem,a22,Ho,h1,z0,lj,na,bO,bne_self_eq_false,beq_self_eq_true,aR];refine s.U ⟨⟨c+1,by omega,rfl,rfl⟩,?_⟩;simp only[go_sem];omega
 have h1:decide ((c:Int) < l.length)=false:=decide_eq_false (by omega);simp only[go_sem,a22,Ho,h1,bO];exact s.bb rfl ⟨rfl,rfl⟩
theorem aak (l:List BB)(hl:l.length≤1000000)(Z: ∀ x∈l,x.fa.length≤1000000∧x.jC.length≤1000000):aK prog 14 [.pure 3 (ac l),.pure 3 (ac l)] [] (fun v rs=>v= .bool true∧rs= []):=by
 refine cr func14 aaI (by simp[Ef,zm]) ?_;simp only[go_sem,Ef,zm,bO,bne_self_eq_false];refine dR (fun r d=> ∃ c:Nat,c≤l.length∧r= [(0,.pure 3 (ac l)),(1,.pure 3 (ac l)),(5,.int .i64 c)]∧d= [])
  (fun r _=>match bn r 5 with| .int _ j=>(l.length-j).toNat|_=>0) ?_ ?_
 ·exact s.U ⟨0,by omega,rfl,rfl⟩
 rintro r d ⟨c,an,rfl,rfl⟩;have aR:=dr (c:=c) (by omega)
 by_cases aC:c < l.length
 ·have h1:decide ((c:Int) < l.length)=true:=decide_eq_true (by omega);have z0: (0:Int)≤c:=by omega
  have lj: (c:Int) < l.length:=by omega
  have na: (ac l).getD c []=aG.F l[c]:=cQ aC;obtain⟨tv,ri⟩:=Z l[c] (List.getElem_mem aC);simp only[go_sem,Ef,zm,h1,z0,lj,na,bO,aaB,bne_self_eq_false];refine jd (axm l[c].fa tv) (by simp only[bP,bE,cw,Bool.and_true]) rfl ?_;simp only[go_sem,z0,lj,na,bO,aaB];refine jd (axn l[c].jC ri) (by simp only[bP,bE,cw,Bool.and_true]) rfl ?_;simp only[go_sem,aR];refine s.U ⟨⟨c+1,by omega,rfl,rfl⟩,?_⟩;simp only[go_sem];omega
 have h1:decide ((c:Int) < l.length)=false:=decide_eq_false (by omega);simp only[go_sem,Ef,zm,h1,bO];exact s.bb rfl ⟨rfl,rfl⟩
def ou (ba:Int→Bool→List (List z))(o:Int)(k:Bool):z:=if (ba o k).length=0 then .bD else .pure 2 (ba o k)
def zi (ba:Int→Bool→List (List z))(o:Int):z:= .agg [.int .i64 o,ou ba o false,ou ba o true]
theorem avK {W:List R}{E m:Nat}{J T:Int}{M:List Int}{ba:Int→Bool→List (List z)}{X:Int→Bool→Nat}(h:qI W E m J T M ba X)(o:Int)(k:Bool):
 bU W [some E,some m] (List.range W.length) (hc X ba o k)=ou ba o k:=by
 unfold hc ou;split
 ·rfl
 ·rename_i ag;have hne:ba o k≠ []:=fun e=>ag (by rw[e];rfl);have ad:=h.x o k hne;have h1:X o k≠E:=fun e=>by
   have:=h.E;rw[←e,ad] at this;simp only[Option.some.injEq,R.aa.injEq] at this;have:=this.2.1;omega
  have B:X o k≠m:=fun e=>by have:=h.m;rw[←e,ad] at this;cases this
  refine pO ?_ ?_ ad rfl (h.fU o k)
  ·simp[hR,h1.symm,B.symm]
  ·simp;exact jP ad
theorem avv {W:List R}{E m:Nat}{J T:Int}{M:List Int}{ba:Int→Bool→List (List z)}{X:Int→Bool→Nat}(h:qI W E m J T M ba X):
 ew W (List.range W.length) [some E,some m] [some E,some m]=some [.aa 118 3 [[.int .i64 J,.int .i64 T,.bu 1]],.aY (.map false [.int .i64] (cX (zi ba) M))]:=by
 have uK:E≠m:=fun e=>by have h1:=h.E;rw[e,h.m] at h1;cases h1
 have Z:bU W [some E,some m] (List.range W.length) (.bu m)= .bu 1:=by
  simp[bU,hR,uK]
 have aq: ∀ o,bU W [some E,some m] (List.range W.length) (mW X ba o)=zi ba o:=fun o=>by
  unfold mW zi;rw[bU];simp only[dV,avK h];rfl
 simp only[ew,h.E,h.m];congr 1;have iA:ho W [some E,some m] (List.range W.length) (.aa 118 3 [[.int .i64 J,.int .i64 T,.bu m]])= .aa 118 3 [[.int .i64 J,.int .i64 T,.bu 1]]:=by
  simp only[ho,lD,List.map_cons,List.map_nil,dV,Z];rfl
 have KL:ho W [some E,some m] (List.range W.length) (.aY (.map false [.int .i64] (cX (mW X ba) M)))= .aY (.map false [.int .i64] (cX (zi ba) M)):=by
  simp only[ho,cX,List.map_map];congr 2;refine List.map_congr_left fun o _=> ?_;simp only[Function.comp_apply,aq];rfl
 rw[iA,KL]
def pl (ba:Int→Bool→List (List z))(o:Int):List z:= [.int .i64 o,ou ba o false,ou ba o true]
theorem ZK {ba:Int→Bool→List (List z)}{o:Int}{k:Bool}:Abs.cM (ou ba o k)=true:=by
 unfold ou;split<;>rfl
theorem ZL {ba:Int→Bool→List (List z)}(h: ∀ o k,eg (ba o k)=true){o:Int}{k:Bool}:bE (ou ba o k)=true:=by
 unfold ou;split
 ·rfl
 ·simp only[bE,h]
theorem Rh {ba:Int→Bool→List (List z)}(h: ∀ o k,eg (ba o k)=true): ∀ {fb:List Int},eg (fb.map (pl ba))=true
 | []=>rfl
 |o::fb=>by
  rw[List.map_cons,eg,Rh h (fb:=fb)];simp only[pl,bP,ZL h,bE,Bool.and_self]
def Bw (S:cm→Int)(o:Int)(aU:List cm):List mt:=(aU.filter fun k=>decide (k.o=o∧0 < S k)).map fun k=>⟨k.n,S k⟩
theorem Y2 (a b:ByteArray):a.toList < b.toList∨a.toList=b.toList∨b.toList < a.toList:=by
 by_cases h1:a.toList < b.toList
 ·exact .inl h1
 ·by_cases B:b.toList < a.toList
  ·exact .inr (.inr B)
  ·exact .inr (.inl (List.le_antisymm (List.not_lt.1 B) (List.not_lt.1 h1)))
def sR (a b:mt):Prop:=a.n.toList < b.n.toList
theorem Q8 {dX G6:ByteArray}{cF:Int}: ∀ {t:List mt},G6∈(gi dX cF t).map (·.n)↔G6=dX∨G6∈t.map (·.n)
 | []=>by simp[gi]
 |x::t=>by
  have ih:=Q8 (dX:=dX) (G6:=G6) (cF:=cF) (t:=t);unfold gi;split
  ·simp only[List.map_cons,List.mem_cons,ih];exact or_left_comm
  ·split
   ·rename_i e;simp only[List.map_cons,List.mem_cons,←e];exact or_self_left.symm
   ·simp only[List.map_cons,List.mem_cons]
theorem Y3 {dX:ByteArray}{cF:Int}: ∀ {t:List mt},t.Pairwise sR→(gi dX cF t).Pairwise sR
 | [],_=>by simp[gi]
 |x::t,h=>by
  rw[List.pairwise_cons] at h;unfold gi;split
  ·rename_i ad;rw[List.pairwise_cons];refine⟨fun y bl=> ?_,Y3 h.2⟩;rcases Q8.1 (List.mem_map_of_mem (f:=(·.n)) bl) with e|bl
   ·unfold sR;rw[e];exact ad
   ·obtain⟨D,aS,e⟩:=List.mem_map.1 bl;have:=h.1 D aS;unfold sR at *;rw[←e];exact this
  ·split
   ·rename_i e;rw[List.pairwise_cons];exact⟨fun y bl=>by have:=h.1 y bl;unfold sR at *;rw[←e];exact this,h.2⟩
   ·rename_i h1 B;have am:dX.toList < x.n.toList:=by
     rcases Y2 dX x.n with h|h|h
     ·exact h
     ·exact absurd (Lc h.symm) B
     ·exact absurd h h1
    rw[List.pairwise_cons,List.pairwise_cons];refine⟨fun y bl=> ?_,h⟩;rcases List.mem_cons.1 bl with rfl|bl
    ·exact am
    ·exact List.lt_trans am (h.1 y bl)
theorem Y4 {dX:ByteArray}{cF:Int}{be:ByteArray→Int}: ∀ {t:List mt},t.Pairwise sR→(∀ x∈t,x.m=be x.n)→(dX∉t.map (·.n)→be dX=0)→ ∀ x∈gi dX cF t,x.m=be x.n+if x.n=dX then cF else 0
 | [],_,_,h0,x,ad=>by
  rw[gi,List.mem_singleton] at ad;subst ad;have:=h0 (by simp);simp[this]
 |y::t,h,hF,h0,x,ad=>by
  rw[List.pairwise_cons] at h;have Bx: ∀ {a:ByteArray},¬a.toList < a.toList:=fun {a}=>List.lt_irrefl _;unfold gi at ad;split at ad
  ·rename_i bl;have Y5:y.n≠dX:=fun e=>by rw[e] at bl;exact Bx bl
   rcases List.mem_cons.1 ad with rfl|ad
   ·rw[if_neg Y5,hF _ List.mem_cons_self];omega
   ·refine Y4 h.2 (fun D aS=>hF D (List.mem_cons_of_mem _ aS)) (fun aB=>h0 ?_) x ad;rw[List.map_cons,List.mem_cons];rintro (e|e)
    ·exact Y5 e.symm
    ·exact aB e
  ·split at ad
   ·rename_i sS e;have aC: ∀ D∈t,D.n≠dX:=fun D aS bJ=>by have:=h.1 D aS;unfold sR at this;rw[e,bJ] at this;exact Bx this
    rcases List.mem_cons.1 ad with rfl|ad
    ·simp only[if_true];rw[←e,hF _ List.mem_cons_self]
    ·rw[if_neg (aC x ad),hF x (List.mem_cons_of_mem _ ad)];omega
   ·rename_i h1 B;have am:dX.toList < y.n.toList:=by
     rcases Y2 dX y.n with h|h|h
     ·exact h
     ·exact absurd (Lc h.symm) B
     ·exact absurd h h1
    have ka: ∀ D∈y::t,D.n≠dX:=fun D aS e=>by
     rcases List.mem_cons.1 aS with rfl|aS
     ·exact B e
     ·have:=List.lt_trans am (h.1 D aS);rw[e] at this;exact Bx this
    rcases List.mem_cons.1 ad with rfl|ad
    ·simp only[if_true];have:=h0 (fun hm=>by obtain⟨D,aS,e⟩:=List.mem_map.1 hm;exact ka D aS e);omega
    ·rw[if_neg (ka x ad),hF x ad];omega
theorem Y6 {Y:List cp}{bh o:Int}{l:List eS}: ∀ {c:Nat},c≤l.length→
 (nf Y bh o (l.take c)).Pairwise sR∧(∀ dX,dX∈(nf Y bh o (l.take c)).map (·.n)↔(⟨o,dX⟩:cm)∈gy bh (l.take c))∧ ∀ x∈nf Y bh o (l.take c),x.m=dS Y bh (l.take c) ⟨o,x.n⟩
 |0,_=>by simp[nf,gy]
 |c+1,an=>by
  have aC:c < l.length:=by omega
  obtain⟨h1,B,am⟩:=Y6 (Y:=Y) (bh:=bh) (o:=o) (l:=l) (c:=c) (by omega);rw[Y7 aC]
  by_cases F:l[c].bh=bh∧l[c].ab=o
  ·rw[if_pos F];refine⟨Y3 h1,fun dX=> ?_,fun x ad=> ?_⟩
   ·rw[Q8,B,Kv aC,if_pos F.1,DG];have: (⟨o,dX⟩:cm)=gS l[c]↔dX=l[c].name:=by
     unfold gS;rw[cm.mk.injEq,F.2];simp
    rw[this]
   ·have:=Y4 (be:=fun dX=>dS Y bh (l.take c) ⟨o,dX⟩) h1 am (fun aB=>XR (fun I=>aB ((B _).2 I))) x ad;rw[this,Gu aC];congr 1;have e: (l[c].bh=bh∧gS l[c]=⟨o,x.n⟩)↔x.n=l[c].name:=by
     unfold gS;rw[cm.mk.injEq];constructor
     ·rintro⟨_,_,h⟩;exact h.symm
     ·intro h;exact⟨F.1,F.2,h.symm⟩
    by_cases ad:x.n=l[c].name
    ·rw[if_pos ad,if_pos (e.2 ad)]
    ·rw[if_neg ad,if_neg fun h=>ad (e.1 h)]
  ·rw[if_neg F];refine⟨h1,fun dX=> ?_,fun x ad=> ?_⟩
   ·rw[B,Kv aC]
    by_cases he:l[c].bh=bh
    ·rw[if_pos he,DG];constructor
     ·exact .inr
     ·rintro (h|h)
      ·exact absurd ⟨he,by rw[gS,cm.mk.injEq] at h;exact h.1.symm⟩ F
      ·exact h
    ·rw[if_neg he]
   ·rw[am x ad,Gu aC,if_neg,Int.add_zero];rintro⟨he,I⟩;rw[gS,cm.mk.injEq] at I;exact F ⟨he,I.1⟩
theorem auW {Y:List cp}{bh o:Int}{l:List eS}{aU:List cm}(hL:aU.Perm (gy bh l))(ak:aU.Pairwise pb):ze (nf Y bh o l)=Bw (dS Y bh l) o aU:=by
 have h:=Y6 (Y:=Y) (bh:=bh) (o:=o) (l:=l) (c:=l.length) (Nat.le_refl _);rw[List.take_length] at h;obtain⟨h1,B,am⟩:=h;have p1: (ze (nf Y bh o l)).Pairwise sR:=h1.filter _;have iG: (Bw (dS Y bh l) o aU).Pairwise sR:=by
  unfold Bw;rw[List.pairwise_map];refine (ak.filter _).imp_of_mem fun {a b} aw Z oG=> ?_;have tC:=(List.mem_filter.1 aw).2;have jH:=(List.mem_filter.1 Z).2;simp only[decide_eq_true_eq] at tC jH;unfold pb at oG;unfold sR;rcases oG with h|h
  ·omega
  ·exact h.2
 have Bx: ∀ a:mt,¬sR a a:=fun a=>List.lt_irrefl _;have bV: ∀ x,x∈ze (nf Y bh o l)↔x∈Bw (dS Y bh l) o aU:=fun x=>by
  unfold ze Bw;simp only[List.mem_filter,List.mem_map,decide_eq_true_eq];constructor
  ·rintro⟨ad,ae⟩;have I:=(B x.n).1 (List.mem_map_of_mem ad);have hm:=am x ad;exact⟨⟨o,x.n⟩,⟨hL.mem_iff.2 I,rfl,by rw[←hm];exact ae⟩,by rw[←hm]⟩
  ·rintro⟨k,⟨I,rfl,ae⟩,rfl⟩;have gc:=hL.mem_iff.1 I;obtain⟨y,bl,e⟩:=List.mem_map.1 ((B k.n).2 gc);have hm:=am y bl;have:y=⟨k.n,dS Y bh l k⟩:=by
    cases y;simp only at e hm;subst e;rw[hm]
   rw[←this];exact⟨bl,by rw[this];exact ae⟩
 have n1: (ze (nf Y bh o l)).Nodup:=by
  refine p1.imp ?_;intro a b h e;subst e;exact Bx a h
 have ec: (Bw (dS Y bh l) o aU).Nodup:=by
  refine iG.imp ?_;intro a b h e;subst e;exact Bx a h
 refine ((List.perm_ext_iff_of_nodup n1 ec).2 bV).eq_of_pairwise (fun a b _ _ h1 B=>absurd (List.lt_trans h1 B) (Bx a)) p1 iG
theorem Y8 {C:bv}{b:Nat}: ∀ {x y:List z} {L:Nat},hs x y→dn C b L x→dn C b L y
 | [],[],_,_,h=>h
 | [],_::_,_,h,_=>by simp[hs] at h
 |_::_,[],_,h,_=>by simp[hs] at h
 |a::x,F::y,L,h,G=>by
  rw[hs] at h;rw[dn] at G ⊢;obtain⟨⟨v,h1,B,am⟩,bp⟩:=G;exact⟨⟨v,h1,B,VL _ _ _ h.1 am⟩,Y8 h.2 bp⟩
theorem Y9: ∀ {x y:List z},hs x y→x.length=y.length
 | [],[],_=>rfl
 | [],_::_,h=>by simp[hs] at h
 |_::_,[],h=>by simp[hs] at h
 |_::x,_::y,h=>by rw[hs] at h;simp[Y9 h.2]
theorem Za {C:bv}{b N:Nat}{f g:Int→List z}: ∀ {ds:List Int} {L:Nat},(∀ o∈ds,hs (f o) (g o))→cT C b L N (ds.map f)→cT C b L N (ds.map g)
 | [],_,_,h=>h
 |o::ds,L,h,G=>by
  rw[List.map_cons,cT] at G ⊢;have aq:=h o List.mem_cons_self;exact⟨by rw[←Y9 aq];exact G.1,Y8 aq G.2.1,Za (fun x ad=>h x (List.mem_cons_of_mem _ ad)) G.2.2⟩
theorem auX {C:bv}{N:Nat}{f g:Int→List z}{ds:List Int}{v:Value}(h: ∀ o∈ds,hs (f o) (g o))(G:Rep C (.pure N (ds.map f)) v):Rep C (.pure N (ds.map g)) v:=by
 rw[Rep] at G ⊢;obtain⟨ct,cap,h1,B,am⟩:=G;rw[List.length_map] at h1 B am;refine⟨ct,cap,by rw[List.length_map];exact h1,by rw[List.length_map];exact B,?_⟩;rw[List.length_map];rcases am with am|⟨b,L,bp,cn,dj⟩
 ·exact .inl am
 ·exact .inr ⟨b,L,bp,cn,Za h dj⟩
theorem zh {J T o:Int}: ∀ (aU:List (Int×List z)) (bq:List Int×(Int→Bool→List (List z))),
 (eJ J T bq aU).2 o false=bq.2 o false++(if J≤o∧o≤T then (aU.filter fun x=>decide (x.1=o)).map (·.2) else [])∧(eJ J T bq aU).2 o true=bq.2 o true∧
 (o∈(eJ J T bq aU).1↔o∈bq.1∨(J≤o∧o≤T∧ ∃ x∈aU,x.1=o))
 | [],bq=>by simp[eJ]
 |x::aU,bq=>by
  have e:eJ J T bq (x::aU)=eJ J T (nb J T bq x) aU:=rfl;obtain⟨h1,B,am⟩:=zh (J:=J) (T:=T) (o:=o) aU (nb J T bq x);rw[e,h1,B,am];unfold nb
  by_cases F:J≤x.1∧x.1≤T
  ·rw[if_pos F]
   by_cases aq:x.1=o
   ·have G:J≤o∧o≤T:=aq▸F;rw[List.filter_cons_of_pos (by simp[aq]),if_pos G,if_pos G];refine⟨by simp[gH,aq],by simp[gH],?_⟩;simp only[BH];constructor
    ·intro _;exact .inr ⟨G.1,G.2,x,List.mem_cons_self,aq⟩
    ·intro _;exact .inl (.inl aq.symm)
   ·rw[List.filter_cons_of_neg (by simp[aq])];refine⟨by simp[gH];intro e;exact absurd e.symm aq,by simp[gH],?_⟩;simp only[BH];constructor
    ·rintro ((h|h)|⟨a,b,y,bl,h⟩)
     ·exact absurd h.symm aq
     ·exact .inl h
     ·exact .inr ⟨a,b,y,List.mem_cons_of_mem _ bl,h⟩
    ·rintro (h|⟨a,b,y,bl,h⟩)
     ·exact .inl (.inr h)
     ·rcases List.mem_cons.1 bl with rfl|bl
      ·exact absurd h aq
      ·exact .inr ⟨a,b,y,bl,h⟩
  ·rw[if_neg F]
   by_cases aq:x.1=o
   ·have G: ¬(J≤o∧o≤T):=aq▸F;refine⟨by rw[if_neg G,if_neg G],rfl,?_⟩;constructor
    ·rintro (h|⟨a,b,_⟩)
     ·exact .inl h
     ·exact absurd ⟨a,b⟩ G
    ·rintro (h|⟨a,b,_⟩)
     ·exact .inl h
     ·exact absurd ⟨a,b⟩ G
   ·rw[List.filter_cons_of_neg (by simp[aq])];refine⟨rfl,rfl,?_⟩;constructor
    ·rintro (h|⟨a,b,y,bl,h⟩)
     ·exact .inl h
     ·exact .inr ⟨a,b,y,List.mem_cons_of_mem _ bl,h⟩
    ·rintro (h|⟨a,b,y,bl,h⟩)
     ·exact .inl h
     ·rcases List.mem_cons.1 bl with rfl|bl
      ·exact absurd h aq
      ·exact .inr ⟨a,b,y,bl,h⟩
def D3 (D:bZ)(o:Int)(a:Pr.jQ):Bool:=decide (nC D a.time=0∧lI D a.time=o)
def aaF (a:Pr.jQ):List z:= [.int .i64 a.cH,.int .i64 a.time]
theorem zg {D:bZ}{J T o:Int}: ∀ (aU:List Pr.jQ) (bq:List Int×(Int→Bool→List (List z))),
 (kC D J T bq aU).2 o true=bq.2 o true++(if J≤o∧o≤T then (aU.filter (D3 D o)).map aaF else [])∧(kC D J T bq aU).2 o false=bq.2 o false∧
 (o∈(kC D J T bq aU).1↔o∈bq.1∨(J≤o∧o≤T∧ ∃ x∈aU,D3 D o x=true))
 | [],bq=>by simp[kC]
 |x::aU,bq=>by
  have e:kC D J T bq (x::aU)=kC D J T (pX D J T bq x) aU:=rfl;obtain⟨h1,B,am⟩:=zg (D:=D) (J:=J) (T:=T) (o:=o) aU (pX D J T bq x);rw[e,h1,B,am];unfold pX
  by_cases aq:D3 D o x=true
  ·have mh:=aq;unfold D3 at mh;simp only[decide_eq_true_eq] at mh;rw[List.filter_cons_of_pos aq]
   by_cases G:J≤o∧o≤T
   ·rw[if_pos ⟨mh.1,by rw[mh.2];exact G⟩,if_pos G,if_pos G,mh.2];refine⟨by simp[gH,aaF],by simp[gH],?_⟩;simp only[BH];constructor
    ·intro _;exact .inr ⟨G.1,G.2,x,List.mem_cons_self,aq⟩
    ·intro _;exact .inl (.inl trivial)
   ·rw[if_neg (fun h=>G (by rw[mh.2] at h;exact h.2)),if_neg G,if_neg G];refine⟨rfl,rfl,?_⟩;constructor
    ·rintro (h|⟨a,b,_⟩)
     ·exact .inl h
     ·exact absurd ⟨a,b⟩ G
    ·rintro (h|⟨a,b,_⟩)
     ·exact .inl h
     ·exact absurd ⟨a,b⟩ G
  ·rw[List.filter_cons_of_neg (by simpa using aq)];have key: (o∈(if nC D x.time=0∧J≤lI D x.time∧lI D x.time≤T then (ea (lI D x.time) bq.1,gH bq.2 (lI D x.time) true [.int .i64 x.cH,.int .i64 x.time]) else bq).1↔o∈bq.1)∧ ∀ k,(if nC D x.time=0∧J≤lI D x.time∧lI D x.time≤T then (ea (lI D x.time) bq.1,gH bq.2 (lI D x.time) true [.int .i64 x.cH,.int .i64 x.time]) else bq).2 o k=bq.2 o k:=by
    split
    ·rename_i F;have hne:lI D x.time≠o:=fun e=>aq (by unfold D3;simp[F.1,e]);refine⟨?_,fun k=> ?_⟩
     ·simp only[BH];constructor
      ·rintro (h|h)
       ·exact absurd h.symm hne
       ·exact h
      ·exact .inr
     ·simp only[gH];rw[if_neg (fun h=>hne h.1.symm)]
    ·exact⟨Iff.rfl,fun _=>rfl⟩
   rw[key.2,key.2,key.1];refine⟨rfl,rfl,?_⟩;constructor
   ·rintro (h|⟨a,b,y,bl,h⟩)
    ·exact .inl h
    ·exact .inr ⟨a,b,y,List.mem_cons_of_mem _ bl,h⟩
   ·rintro (h|⟨a,b,y,bl,h⟩)
    ·exact .inl h
    ·rcases List.mem_cons.1 bl with rfl|bl
     ·exact absurd h aq
     ·exact .inr ⟨a,b,y,bl,h⟩
def qR (S:cm→Int)(aU:List cm):List (Int×List z):=(aU.filter fun k=>decide (0 < S k)).map fun k=>(k.o,[.str k.n,.int .i64 (S k)])
theorem ZD {S:cm→Int}{J T:Int}: ∀ (aU:List cm) (M:List Int) (ba:Int→Bool→List (List z)),rH S J T M ba aU=eJ J T (M,ba) (qR S aU)
 | [],M,ba=>rfl
 |k::aU,M,ba=>by
  have e:rH S J T M ba (k::aU)=rH S J T (vt S J T (M,ba) k).1 (vt S J T (M,ba) k).2 aU:=rfl;rw[e,ZD];unfold qR
  by_cases ak:0 < S k
  ·rw[List.filter_cons_of_pos (by simp[ak]),List.map_cons];have bJ:eJ J T (M,ba) ((k.o,[.str k.n,.int .i64 (S k)])::(aU.filter fun k=>decide (0 < S k)).map fun k=>(k.o,[.str k.n,.int .i64 (S k)]))=eJ J T (nb J T (M,ba) (k.o,[.str k.n,.int .i64 (S k)])) ((aU.filter fun k=>decide (0 < S k)).map fun k=>(k.o,[.str k.n,.int .i64 (S k)])):=rfl;rw[bJ];congr 1;unfold vt nb
   by_cases F:J≤k.o∧k.o≤T
   ·rw[if_pos ⟨ak,F⟩,if_pos F]
   ·rw[if_neg (fun h=>F h.2),if_neg F]
  ·rw[List.filter_cons_of_neg (by simp[ak])];congr 1;unfold vt;rw[if_neg (fun h=>ak h.1)]
end Go.Proofs.YtpincjkjoeopkaaGreatDoor
