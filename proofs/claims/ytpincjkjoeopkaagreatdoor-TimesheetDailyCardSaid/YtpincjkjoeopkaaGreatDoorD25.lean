/- Time evaluation. -/
import Derived.Test.YtpincjkjoeopkaaGreatDoorD24
import Derived.Test.YtpincjkjoeopkaaGreatDoorD15
import Derived.Test.YtpincjkjoeopkaaGreatDoorD5
import Derived.Test.YtpincjkjoeopkaaGreatDoorD8
set_option linter.all false
namespace Go.Proofs.YtpincjkjoeopkaaGreatDoor
open Go Go.Abs Go.Proofs.Tryz
def qF (M:cc)(R ab:Int)(bw:List Int×(Int→Bool→List (List F)))(a:Pr.kn):List Int×(Int→Bool→List (List F)):=
 if ot M a.time=0∧R≤mm M a.time∧mm M a.time≤ab then (ek (mm M a.time) bw.1,gR bw.2 (mm M a.time) true [.int .i64 a.cB,.int .i64 a.time]) else bw
def kY (M:cc)(R ab:Int)(bw:List Int×(Int→Bool→List (List F)))(aY:List Pr.kn):List Int×(Int→Bool→List (List F)):=aY.foldl (qF M R ab) bw
theorem avp {M:cc}{R ab:Int}{bw:List Int×(Int→Bool→List (List F))}{aY:List Pr.kn}{c:Nat}(av:c < aY.length):kY M R ab bw (aY.take (c+1))=qF M R ab (kY M R ab bw (aY.take c)) aY[c]:=by
 unfold kY;rw[List.take_succ_eq_append_getElem av,List.foldl_append];rfl
theorem Zt {M:cc}{R ab:Int}: ∀ (aY:List Pr.kn) (bw:List Int×(Int→Bool→List (List F))) (n:Nat),(∀ B k,(bw.2 B k).length≤n)→ ∀ B k,((kY M R ab bw aY).2 B k).length≤n+aY.length
 | [],bw,n,h,B,k=>h B k
 |x::aY,bw,n,h,B,k=>by
  unfold kY;rw[List.foldl_cons];refine Nat.le_trans (Zt aY (qF M R ab bw x) (n+1) (fun B k=> ?_) B k) (by rw[List.length_cons];omega);unfold qF;split
  ·show (gR bw.2 _ true _ B k).length≤n+1;unfold gR;split
   ·have:=h (mm M x.time) true;rw[List.length_append];simp;omega
   ·have:=h B k;omega
  ·have:=h B k;omega
set_option maxHeartbeats 4000000 in
theorem avq {r:List Z}{I m:Nat}{R ab:Int}{Y:List Int}{bf:Int→Bool→List (List F)}(h0:hQ r I m R ab Y bf)(cU: ∀ B k,(bf B k).length≤100000)(M:cc)(jR:List Pr.kn)(hl:jR.length≤100000):
 aO prog 46 [.bd I 1 0 0,M.v,.pure 2 (ai jR)] r
  (fun v W=>v= .bo []∧gf r W m∧hQ W I m R ab (kY M R ab (Y,bf) jR).1 (kY M R ab (Y,bf) jR).2):=by
 have fF:=km h0.choose_spec.I;unfold cc.v;refine hJ func46 Zu (by simp[a46,HQ]) ?_;simp only[go_sem,a46,HQ]
 (repeat (first| (refine E.ac ?_;simp only[go_sem,bT])|simp only[go_sem,bT]))
 obtain⟨yo,xp⟩: ∃ yo:Z,yo= .ag 32 2 [[.int .i64 M.off,.pure 2 (ai M.cS)]]:=⟨_,rfl⟩;have avr: ∀ n,jc n yo=true:=fun n=>by rw[xp];exact kA (by simp only[dY,bU,bJ,ck,Bool.and_self,Bool.and_true])
 have Q6:gf r (r++ [yo]) m:=gf.mh;have va:hQ (r++ [yo]) I m R ab Y bf:=by
  obtain⟨yk,yl⟩:=h0;exact⟨yk,yl.ext (by intro bG hrow;rw[List.mem_singleton] at hrow;subst hrow;exact avr _)⟩
 have jD: (r++ [yo])[r.length]? =some yo:=by rw[dH];rfl
 refine hv (fun D W=> ∃ c:Nat,c≤jR.length∧D= [(0,.bd I 1 0 0),(4,.bd r.length 1 0 0),(11,.pure 2 (ai jR)),(12,.int .i64 jR.length),(13,.int .i64 c)]∧gf (r++ [yo]) W m∧hQ W I m R ab (kY M R ab (Y,bf) (jR.take c)).1 (kY M R ab (Y,bf) (jR.take c)).2)
  (fun D _=>match bs D 13 with| .int _ j=>(jR.length-j).toNat|_=>0) ?_ ?_
 ·rw[←xp];exact E.ac ⟨0,by omega,rfl,gf.refl,va⟩
 rintro D W ⟨c,av,rfl,hF,dc⟩;have aP:=dB (c:=c) (by omega);have Rj:W[r.length]? =some yo:=hF.2 _ _ jD (by have:=km h0.choose_spec.m;omega) (fun k am e=>by rw[xp] at e;simp at e;cases k<;>simp[tE] at e)
 by_cases aI:c < jR.length
 rotate_left
 ·have h1:decide ((c:Int) < jR.length)=false:=decide_eq_false (by omega);obtain rfl:c=jR.length:=by omega
  rw[List.take_length] at dc;simp only[go_sem,a46,HQ]
  (repeat (first| (refine E.ac ?_;simp only[go_sem,h1])|simp only[go_sem,h1]))
  exact E.ac ⟨rfl,Q6.trans hF,dc⟩
 have h1:decide ((c:Int) < jR.length)=true:=decide_eq_true (by omega);have z0: (0:Int)≤c:=by omega
 have mn: (c:Int) < jR.length:=by omega
 have aw: (ai jR).getD c []=aJ.J jR[c]:=cT aI;have dV:=avp (M:=M) (R:=R) (ab:=ab) (bw:=(Y,bf)) aI;have cK:=Zt (M:=M) (R:=R) (ab:=ab) (jR.take c) (Y,bf) 100000 cU;have Aa: (jR.take c).length≤100000:=by simp;omega
 generalize jR[c]=a at *;generalize (kY M R ab (Y,bf) (jR.take c))=bw at *;obtain⟨rB,im⟩:=bw;simp only at cK dc;obtain⟨X,h⟩:=dc;have ao:=h.I;have hm:=h.m;have fC:=YA M a.time;unfold cc.v at fC;rw[xp] at Rj;simp only[go_sem,a46,HQ]
 (repeat (first| (refine E.ac ?_;simp only[go_sem,h1,z0,mn,aw,bT,Pr.Zv,List.append_assoc,dO,dH,ee,ec,List.length_append,bQ Rj])|simp only[go_sem,h1,z0,mn,aw,bT,Pr.Zv,List.append_assoc,dO,dH,ee,ec,List.length_append,bQ Rj]))
 refine bM fC (by simp only[bU,bJ,ck,Bool.and_self,Bool.and_true]) rfl ?_
 by_cases dp:ot M a.time=0
 rotate_left
 ·have q1: (ot M a.time != 0)=true:=by simp[dp]
  unfold qF at dV;rw[if_neg (fun h=>dp h.1)] at dV
  (repeat (first| (refine E.ac ?_;simp only[go_sem,q1,aP])|simp only[go_sem,q1,aP]))
  exact⟨⟨c+1,by omega,rfl,hF.trans gf.mh,by rw[dV];exact⟨X,h.ext (by intro bG hrow;rw[List.mem_singleton] at hrow;subst hrow;exact kA rfl)⟩⟩,by omega⟩
 rw[dp,if_pos rfl];unfold qF at dV;simp only[dp,true_and] at dV;generalize mm M a.time=ah at *
 by_cases ay:R≤ah∧ah≤ab
 rotate_left
 ·rw[if_neg ay] at dV
  by_cases d1:ah < R
  ·have q1:decide (ah < R)=true:=decide_eq_true d1
   (repeat (first| (refine E.ac ?_;simp only[go_sem,q1,aP,List.append_assoc,dO,dH,ee,ec,List.length_append,bQ ao])|simp only[go_sem,q1,aP,List.append_assoc,dO,dH,ee,ec,List.length_append,bQ ao]))
   exact⟨⟨c+1,by omega,rfl,hF.trans gf.mh,by rw[dV];exact⟨X,h.ext (by intro bG hrow;rw[List.mem_singleton] at hrow;subst hrow;exact kA rfl)⟩⟩,by omega⟩
  ·have q1:decide (ah < R)=false:=decide_eq_false d1;have eQ:decide (ab < ah)=true:=decide_eq_true (by omega)
   (repeat (first| (refine E.ac ?_;simp only[go_sem,q1,eQ,aP,List.append_assoc,dO,dH,ee,ec,List.length_append,bQ ao])|simp only[go_sem,q1,eQ,aP,List.append_assoc,dO,dH,ee,ec,List.length_append,bQ ao]))
   exact⟨⟨c+1,by omega,rfl,hF.trans gf.mh,by rw[dV];exact⟨X,h.ext (by intro bG hrow;rw[List.mem_singleton] at hrow;subst hrow;exact kA rfl)⟩⟩,by omega⟩
 rw[if_pos ay] at dV;have q1:decide (ah < R)=false:=decide_eq_false (by omega);have eQ:decide (ab < ah)=false:=decide_eq_false (by omega);obtain⟨il,vb⟩:=Zi (X:=X) (ah:=ah) h.ea;have avj:=cK ah true;have lh:Abs.cV (hy X im ah false)=true:=Zh;have vP: ∀ n,W.length≤n→dt n (hy X im ah false)=true:=fun n aH=>Hb aH _ (Ra h.lt ah false)
 by_cases an:im ah true= []
 ·have iI:hy X im ah true= .bH:=by unfold hy;rw[an];rfl
  rw[iI] at vb
  (repeat (first| (refine E.ac ?_;simp only[go_sem,q1,eQ,aP,List.append_assoc,dO,dH,ee,ec,List.length_append,bQ ao,bQ hm,vb,lh])|simp only[go_sem,q1,eQ,aP,List.append_assoc,dO,dH,ee,ec,List.length_append,bQ ao,bQ hm,vb,lh]))
  obtain⟨pO,jt⟩:=Zl (aW:= [.ag 132 2 [[.int .i64 a.cB,.int .i64 a.time]],.ag 76 3 [[.int .i64 ah,hy X im ah false,.own (W.length+3) 1 0 1]],.ag 132 2 [[.int .i64 a.cB,.int .i64 a.time]],.ag 132 2 [[.int .i64 a.cB,.int .i64 a.time]]]) h ah true [.int .i64 a.cB,.int .i64 a.time] rfl 3 _ an rfl rfl (by
   simp only[List.mem_cons,List.not_mem_nil,or_false,forall_eq_or_imp,forall_eq,jc,mj,gx,dt,vP _ (Nat.le_add_right _ _),List.length_cons,List.length_nil,Bool.and_true,Bool.true_and,decide_eq_true_eq,true_and,and_true];omega)
  exact⟨⟨c+1,by omega,rfl,hF.trans pO,by rw[dV];exact jt⟩,by omega⟩
 ·have aj:=h.x ah true an;have ak:0 < (im ah true).length:=List.length_pos_iff.2 an;have iI:hy X im ah true= .own (X ah true) (im ah true).length 0 (im ah true).length:=by unfold hy;rw[if_neg (by omega)]
  rw[iI] at vb
  (repeat (first| (refine E.ac ?_;simp only[go_sem,q1,eQ,aP,List.append_assoc,dO,dH,ee,ec,List.length_append,bQ ao,bQ hm,bQ aj,vb,lh])|simp only[go_sem,q1,eQ,aP,List.append_assoc,dO,dH,ee,ec,List.length_append,bQ ao,bQ hm,bQ aj,vb,lh]))
  refine⟨rfl,by omega,?_⟩;have ts:X ah true≠I:=fun e=>(by rw[e,ao] at aj;simp only[Option.some.injEq,Z.ag.injEq] at aj;omega);have Gl:X ah true≠m:=fun e=>(by rw[e,hm] at aj;cases aj);have LR: (W.set (X ah true) (.ag 132 2 (im ah true++ [[.int .i64 a.cB,.int .i64 a.time]])))[I]? =some (.ag 118 3 [[.int .i64 R,.int .i64 ab,.bE m]]):=by rw[List.getElem?_set,if_neg ts];exact ao
  have ov: (W.set (X ah true) (.ag 132 2 (im ah true++ [[.int .i64 a.cB,.int .i64 a.time]])))[m]? =some (.be (.map false [.int .i64] (de (nI X im) rB))):=by rw[List.getElem?_set,if_neg Gl];exact hm
  have nJ: (W.set (X ah true) (.ag 132 2 (im ah true++ [[.int .i64 a.cB,.int .i64 a.time]]))).length=W.length:=List.length_set;have mX:=fun (aW:List Z) hN=>Zm (aW:=aW) h ah true [.int .i64 a.cB,.int .i64 a.time] rfl _ an rfl hN;simp only[tF aj];have HL: ∀ n,W.length≤n→dt n (.own (X ah true) ((im ah true).length+1) 0 ((im ah true).length+1))=true:=fun n aH=>by
   have:=h.lt ah true an;simp only[dt,decide_eq_true_eq];omega
  simp only[show tE true=132 from rfl,if_true] at mX;generalize va:W.set (X ah true) (.ag 132 2 (im ah true++ [[.int .i64 a.cB,.int .i64 a.time]]))=aF at *;simp only[←nJ] at vP HL mX ⊢
  (repeat (first| (refine E.ac ?_;simp only[go_sem,aP,List.append_assoc,bQ LR,bQ ov,dO,dH,ee,ec,List.length_append,lh])|simp only[go_sem,aP,List.append_assoc,bQ LR,bQ ov,dO,dH,ee,ec,List.length_append,lh]))
  obtain⟨pO,jt⟩:=mX [.ag 132 2 [[.int .i64 a.cB,.int .i64 a.time]],.ag 76 3 [[.int .i64 ah,hy X im ah false,.own (X ah true) ((im ah true).length+1) 0 ((im ah true).length+1)]],.ag 132 2 [[.int .i64 a.cB,.int .i64 a.time]]] (by
   simp only[List.mem_cons,List.not_mem_nil,or_false,forall_eq_or_imp,forall_eq,jc,mj,gx,dt,vP _ (Nat.le_add_right _ _),HL _ (Nat.le_add_right _ _),List.length_cons,List.length_nil,Bool.and_true,Bool.true_and,decide_eq_true_eq,true_and,and_true]
   all_goals (have:=h.lt ah true an;omega))
  exact⟨⟨c+1,by omega,rfl,hF.trans pO,by rw[dV];exact jt⟩,by omega⟩
end Go.Proofs.YtpincjkjoeopkaaGreatDoor
namespace Go.Proofs.YtpincjkjoeopkaaGreatDoor.Ib
open Go Go.Abs Go.Proofs.Tryz
def gp (l:List Int)(a:Int):Z:=dX 143 l a
theorem ED (v n:Int)(aH:0 < n)(GS:n≤9223372036854775807):aO prog 10 [.int .i64 v,.int .i64 n] [] (fun z r=>z= .int .i64 (mod v n)∧r= []):=by
 refine cu func10 Ls (by simp[uW,sn]) ?_;simp only[go_sem,uW,sn];refine⟨by omega,?_⟩;have h1:=Int.tmod_lt_of_pos v aH;refine cf ?_ ?_<;>intro aw<;>simp only[go_sem,uW,sn]<;>refine E.bg rfl ⟨?_,rfl⟩<;>simp only[decide_eq_true_eq,decide_eq_false_iff_not] at aw
 ·have G: -n < v.tmod n:=by
   have:=Int.lt_tmod_of_pos v aH;omega
  rw[bl (by omega) (by omega),mod,if_pos aw]
 ·rw[mod,if_neg aw]
theorem hi (l:List Int)(hl:mW l)(n:Int)(aH:n≤9223372036854775807):BU prog 143 64 [.int .i64 n] l (PR n):=by
 intro az h0 h1;refine cu func64 Lu (by simp[uX,wu]) ?_;simp only[go_sem,uX,wu,dX];have cK:=hl.len
 repeat' ((first|refine gv ?_ ?_|refine gw ?_ ?_|refine cf ?_ ?_|refine dj ?_ ?_)<;>intro aw<;>(have ak:=aw;try simp only[bC] at ak)<;>(first|omega| (simp only[go_sem,aw,uX,wu];clear aw)))
 ·exact E.tape rfl h0 h1 ⟨0,rfl,by omega,by omega⟩
 ·exact E.tape rfl h0 h1 ⟨0,rfl,by omega,by omega⟩
 ·simp (disch:=omega) only[bl,tw,Int.add_sub_cancel];refine⟨by omega,by omega,by simp,?_⟩;simp only[go_sem];refine gG (ED _ _ (by omega) aH) rfl rfl ?_;simp only[go_sem];have hb:=PS (v:=l.getD az.toNat 0) (n:=n) (by omega);exact E.tape rfl (by omega) (by omega) ⟨_,rfl,by omega,by omega⟩
theorem hj (l:List Int)(hl:mW l)(aq:List Int)(aj:0 < aq.length)(rY:aq.length≤1000):BV prog 143 3 59 l aq (fun v=> ∃ x,x∈aq∧v= .int .i64 x):=by
 intro az h0 h1;refine cu func59 Lv (by simp[zP,Cg]) ?_;simp only[go_sem,zP,Cg];refine KP (hi l hl _ (by omega)) rfl (by simp) h0 h1 ?_;rintro v a G au ⟨x,rfl,bv,cx⟩;simp only[go_sem];refine⟨by omega,by omega,?_⟩;rw[tw (by omega)];simp only[go_sem];refine E.ac ⟨a,rfl,G,au,rfl,_,?_,rfl⟩;rw[List.getD_eq_getElem?_getD,List.getElem?_eq_getElem (by omega)];simp
structure bx where
 R:Int
 ab:Int
def bx.cells (e:bx):List F:= [.int .i64 e.R,.int .i64 e.ab]
instance:aJ bx:=⟨bx.cells,2,fun _=>rfl,fun _=>rfl,fun _=>rfl⟩
theorem eY (e:bx):aJ.J e= [.int .i64 e.R,.int .i64 e.ab]:=rfl
theorem Tk:aJ.U bx=2:=rfl
theorem Tl (e:bx):List.take 2 (aJ.J e)=aJ.J e:=rfl
attribute [go_sem] Tk Tl
structure Stamp where
 time:Int
 cB:Int
 cZ:Int
 Y:Int
def Stamp.cells (e:Stamp):List F:= [.int .i64 e.time,.int .i64 e.cB,.int .i64 e.cZ,.int .i64 e.Y]
instance:aJ Stamp:=⟨Stamp.cells,4,fun _=>rfl,fun _=>rfl,fun _=>rfl⟩
theorem Nn (e:Stamp):aJ.J e= [.int .i64 e.time,.int .i64 e.cB,.int .i64 e.cZ,.int .i64 e.Y]:=rfl
theorem Tm:aJ.U Stamp=4:=rfl
theorem Tn (e:Stamp):List.take 4 (aJ.J e)=aJ.J e:=rfl
attribute [go_sem] Tm Tn
structure Ev where
 cZ:Int
 Y:Int
 bk:Int
 time:Int
 cB:Int
 iq:Int
 eg:Int
def Ev.cells (e:Ev):List F:= [.int .i64 e.cZ,.int .i64 e.Y,.int .i64 e.bk,.int .i64 e.time,.int .i64 e.cB,.int .i64 e.iq,.int .i64 e.eg]
instance:aJ Ev:=⟨Ev.cells,7,fun _=>rfl,fun _=>rfl,fun _=>rfl⟩
theorem rJ (e:Ev):aJ.J e= [.int .i64 e.cZ,.int .i64 e.Y,.int .i64 e.bk,.int .i64 e.time,.int .i64 e.cB,.int .i64 e.iq,.int .i64 e.eg]:=rfl
theorem To:aJ.U Ev=7:=rfl
theorem Tp (e:Ev):List.take 7 (aJ.J e)=aJ.J e:=rfl
attribute [go_sem] To Tp
theorem Ev.ext' {a b:Ev}(h0:a.cZ=b.cZ)(h1:a.Y=b.Y)(G:a.bk=b.bk)(au:a.time=b.time)(bv:a.cB=b.cB)(cx:a.iq=b.iq)(dx:a.eg=b.eg):a=b:=by
 cases a;cases b;simp_all
structure Ky where
 t:Int
 I:Int
def Ky.cells (e:Ky):List F:= [.int .i64 e.t,.int .i64 e.I]
instance:aJ Ky:=⟨Ky.cells,2,fun _=>rfl,fun _=>rfl,fun _=>rfl⟩
theorem aCy (e:Ky):aJ.J e= [.int .i64 e.t,.int .i64 e.I]:=rfl
theorem aCZ:aJ.U Ky=2:=rfl
theorem aC0 (e:Ky):List.take 2 (aJ.J e)=aJ.J e:=rfl
attribute [go_sem] aCZ aC0
theorem Ky.ext' {a b:Ky}(h0:a.t=b.t)(h1:a.I=b.I):a=b:=by
 cases a;cases b;simp_all
structure ga where
 ah:Int
 R:Int
 ab:Int
def ga.cells (e:ga):List F:= [.int .i64 e.ah,.int .i64 e.R,.int .i64 e.ab]
instance:aJ ga:=⟨ga.cells,3,fun _=>rfl,fun _=>rfl,fun _=>rfl⟩
theorem No (e:ga):aJ.J e= [.int .i64 e.ah,.int .i64 e.R,.int .i64 e.ab]:=rfl
theorem aC1:aJ.U ga=3:=rfl
theorem aC2 (e:ga):List.take 3 (aJ.J e)=aJ.J e:=rfl
attribute [go_sem] aC1 aC2
theorem agV {l:List Stamp}{a b J B:Int}:ai l++ [[.int .i64 a,.int .i64 b,.int .i64 J,.int .i64 B]]=ai (l++ [⟨a,b,J,B⟩]):=kT (x:=Stamp.mk a b J B)
theorem aC3 {l:List ga}{a b J:Int}:ai l++ [[.int .i64 a,.int .i64 b,.int .i64 J]]=ai (l++ [⟨a,b,J⟩]):=kT (x:=ga.mk a b J)
theorem Tc {l:List Ev}{a b J B e f g:Int}:ai l++ [[.int .i64 a,.int .i64 b,.int .i64 J,.int .i64 B,.int .i64 e,.int .i64 f,.int .i64 g]]=ai (l++ [⟨a,b,J,B,e,f,g⟩]):=kT (x:=Ev.mk a b J B e f g)
structure fv where
 ah:Int
 gM:List bx
def fv.cells (w:fv):List F:= [.int .i64 w.ah,.pure 2 (ai w.gM)]
theorem aC4 (w:fv):w.cells.all Abs.cV=true:=by simp[fv.cells,Abs.cV]
theorem aC5 (w:fv):bU w.cells=true:=by simp[fv.cells,bU,bJ]
instance:aJ fv:=⟨fv.cells,2,fun _=>rfl,aC5,aC4⟩
theorem aha (w:fv):aJ.J w= [.int .i64 w.ah,.pure 2 (ai w.gM)]:=rfl
theorem aC6:aJ.U fv=2:=rfl
theorem aC7 (w:fv):List.take 2 (aJ.J w)=aJ.J w:=rfl
attribute [go_sem] aC6 aC7
structure kr where
 name:ByteArray
 after:Int
def kr.cells (w:kr):List F:= [.str w.name,.int .i64 w.after]
instance:aJ kr:=⟨kr.cells,2,fun _=>rfl,fun _=>rfl,fun _=>rfl⟩
theorem Nu (w:kr):aJ.J w= [.str w.name,.int .i64 w.after]:=rfl
theorem aC8:aJ.U kr=2:=rfl
theorem aC9 (w:kr):List.take 2 (aJ.J w)=aJ.J w:=rfl
attribute [go_sem] aC8 aC9
theorem agC {l:List kr}{a:ByteArray}{b:Int}:ai l++ [[.str a,.int .i64 b]]=ai (l++ [⟨a,b⟩]):=kT (x:=kr.mk a b)
structure jg where
 name:ByteArray
 min:Int
def jg.cells (w:jg):List F:= [.str w.name,.int .i64 w.min]
instance:aJ jg:=⟨jg.cells,2,fun _=>rfl,fun _=>rfl,fun _=>rfl⟩
theorem RU (w:jg):aJ.J w= [.str w.name,.int .i64 w.min]:=rfl
theorem aDa:aJ.U jg=2:=rfl
theorem aDb (w:jg):List.take 2 (aJ.J w)=aJ.J w:=rfl
attribute [go_sem] aDa aDb
theorem aDc {l:List jg}{a:ByteArray}{b:Int}:ai l++ [[.str a,.int .i64 b]]=ai (l++ [⟨a,b⟩]):=kT (x:=jg.mk a b)
structure cF where
 ah:Int
 R:Int
 ab:Int
 ep:ByteArray
def cF.cells (w:cF):List F:= [.int .i64 w.ah,.int .i64 w.R,.int .i64 w.ab,.str w.ep]
instance:aJ cF:=⟨cF.cells,4,fun _=>rfl,fun _=>rfl,fun _=>rfl⟩
theorem Ah (w:cF):aJ.J w= [.int .i64 w.ah,.int .i64 w.R,.int .i64 w.ab,.str w.ep]:=rfl
theorem Tq:aJ.U cF=4:=rfl
theorem aDd (w:cF):List.take 4 (aJ.J w)=aJ.J w:=rfl
attribute [go_sem] Tq aDd
theorem Nv {l:List cF}{a b J:Int}{B:ByteArray}:ai l++ [[.int .i64 a,.int .i64 b,.int .i64 J,.str B]]=ai (l++ [⟨a,b,J,B⟩]):=kT (x:=cF.mk a b J B)
def aDe:Go.Shelf.Ren:=
 {f:=fun x=>match x with|6=>146|15=>158|14=>221|28=>241|29=>242|20=>276|21=>277|22=>278|23=>279|24=>280|25=>281|26=>282|27=>283|46=>339|47=>290|48=>291|49=>340|50=>341|57=>362|n=>n,
  t:=fun x=>match x with|22=>80|24=>177|25=>271|3=>3|39=>284|0=>0|53=>347|55=>349|4=>4|46=>341|45=>340|50=>206|5=>5|9=>9|66=>376|70=>380|76=>412|77=>308|n=>n,
  g:=fun n=>n}
set_option maxRecDepth 100000 in
theorem aCm:SlLaysF0.n6 prog aDe where
 mixed:=by kernel_rfl
 f6:=⟨"slices.SortFunc[[]payroll/api.Stamp,payroll/api.Stamp]",by decide,Eq.trans func146 (congrArg some (by kernel_rfl))⟩
 f14:=⟨"slices.pdqsortCmpFunc[payroll/api.Stamp]",by decide,Eq.trans func221 (congrArg some (by kernel_rfl))⟩
 f15:=Eq.trans func158 (congrArg some (by kernel_rfl))
 f20:=⟨"slices.insertionSortCmpFunc[payroll/api.Stamp]",by decide,Eq.trans func276 (congrArg some (by kernel_rfl))⟩
 f21:=⟨"slices.heapSortCmpFunc[payroll/api.Stamp]",by decide,Eq.trans func277 (congrArg some (by kernel_rfl))⟩
 f22:=⟨"slices.breakPatternsCmpFunc[payroll/api.Stamp]",by decide,Eq.trans func278 (congrArg some (by kernel_rfl))⟩
 f23:=⟨"slices.choosePivotCmpFunc[payroll/api.Stamp]",by decide,Eq.trans func279 (congrArg some (by kernel_rfl))⟩
 f24:=⟨"slices.reverseRangeCmpFunc[payroll/api.Stamp]",by decide,Eq.trans func280 (congrArg some (by kernel_rfl))⟩
 f25:=⟨"slices.partialInsertionSortCmpFunc[payroll/api.Stamp]",by decide,Eq.trans func281 (congrArg some (by kernel_rfl))⟩
 f26:=⟨"slices.partitionEqualCmpFunc[payroll/api.Stamp]",by decide,Eq.trans func282 (congrArg some (by kernel_rfl))⟩
 f27:=⟨"slices.partitionCmpFunc[payroll/api.Stamp]",by decide,Eq.trans func283 (congrArg some (by kernel_rfl))⟩
 f28:=Eq.trans func241 (congrArg some (by kernel_rfl))
 f29:=Eq.trans func242 (congrArg some (by kernel_rfl))
 f46:=⟨"slices.siftDownCmpFunc[payroll/api.Stamp]",by decide,Eq.trans func339 (congrArg some (by kernel_rfl))⟩
 f47:=Eq.trans func290 (congrArg some (by kernel_rfl))
 f48:=Eq.trans func291 (congrArg some (by kernel_rfl))
 f49:=⟨"slices.medianAdjacentCmpFunc[payroll/api.Stamp]",by decide,Eq.trans func340 (congrArg some (by kernel_rfl))⟩
 f50:=⟨"slices.medianCmpFunc[payroll/api.Stamp]",by decide,Eq.trans func341 (congrArg some (by kernel_rfl))⟩
 f57:=⟨"slices.order2CmpFunc[payroll/api.Stamp]",by decide,Eq.trans func362 (congrArg some (by kernel_rfl))⟩
 t0:=underlying0
 a0:=isAgg0
 z0:=sizeOf0
 v0:=zeroValue0
 t3:=underlying3
 a3:=isAgg3
 z3:=sizeOf3
 v3:=zeroValue3
 t4:=underlying4
 a4:=isAgg4
 z4:=sizeOf4
 v4:=zeroValue4
 t5:=underlying5
 a5:=isAgg5
 z5:=sizeOf5
 v5:=zeroValue5
 t9:=underlying9
 a9:=isAgg9
 z9:=sizeOf9
 v9:=zeroValue9
 t22:=underlying80
 a22:=isAgg80
 z22:=sizeOf80
 v22:=zeroValue80
 t25:=underlying271
 a25:=isAgg271
 z25:=sizeOf271
 v25:=zeroValue271
 t39:=underlying284
 a39:=isAgg284
 z39:=sizeOf284
 v39:=zeroValue284
 t45:=underlying340
 a45:=isAgg340
 z45:=sizeOf340
 v45:=zeroValue340
 t46:=underlying341
 a46:=isAgg341
 z46:=sizeOf341
 v46:=zeroValue341
 t50:=underlying206
 a50:=isAgg206
 z50:=sizeOf206
 v50:=zeroValue206
 t53:=underlying347
 a53:=isAgg347
 z53:=sizeOf347
 v53:=zeroValue347
 t55:=underlying349
 a55:=isAgg349
 z55:=sizeOf349
 v55:=zeroValue349
 t66:=underlying376
 a66:=isAgg376
 z66:=sizeOf376
 v66:=zeroValue376
 t70:=underlying380
 a70:=isAgg380
 z70:=sizeOf380
 v70:=zeroValue380
 t76:=underlying412
 a76:=isAgg412
 z76:=sizeOf412
 v76:=zeroValue412
 t77:=underlying308
 a77:=isAgg308
 z77:=sizeOf308
 v77:=zeroValue308
def aDf:Go.Shelf.Ren:=
 {f:=fun x=>match x with|6=>195|15=>158|14=>256|28=>241|29=>242|20=>314|21=>315|22=>316|23=>317|24=>318|25=>319|26=>320|27=>321|46=>349|47=>290|48=>291|49=>350|50=>351|57=>365|n=>n,
  t:=fun x=>match x with|22=>210|24=>216|25=>306|3=>3|39=>284|0=>0|53=>347|55=>349|4=>4|46=>341|45=>340|50=>206|5=>5|9=>9|66=>376|70=>380|76=>412|77=>308|n=>n,
  g:=fun n=>n}
set_option maxRecDepth 100000 in
theorem aCo:SlLaysF0.n6 prog aDf where
 mixed:=by kernel_rfl
 f6:=⟨"slices.SortFunc[[]payroll/overtime.span,payroll/overtime.span]",by decide,Eq.trans func195 (congrArg some (by kernel_rfl))⟩
 f14:=⟨"slices.pdqsortCmpFunc[payroll/overtime.span]",by decide,Eq.trans func256 (congrArg some (by kernel_rfl))⟩
 f15:=Eq.trans func158 (congrArg some (by kernel_rfl))
 f20:=⟨"slices.insertionSortCmpFunc[payroll/overtime.span]",by decide,Eq.trans func314 (congrArg some (by kernel_rfl))⟩
 f21:=⟨"slices.heapSortCmpFunc[payroll/overtime.span]",by decide,Eq.trans func315 (congrArg some (by kernel_rfl))⟩
 f22:=⟨"slices.breakPatternsCmpFunc[payroll/overtime.span]",by decide,Eq.trans func316 (congrArg some (by kernel_rfl))⟩
 f23:=⟨"slices.choosePivotCmpFunc[payroll/overtime.span]",by decide,Eq.trans func317 (congrArg some (by kernel_rfl))⟩
 f24:=⟨"slices.reverseRangeCmpFunc[payroll/overtime.span]",by decide,Eq.trans func318 (congrArg some (by kernel_rfl))⟩
 f25:=⟨"slices.partialInsertionSortCmpFunc[payroll/overtime.span]",by decide,Eq.trans func319 (congrArg some (by kernel_rfl))⟩
 f26:=⟨"slices.partitionEqualCmpFunc[payroll/overtime.span]",by decide,Eq.trans func320 (congrArg some (by kernel_rfl))⟩
 f27:=⟨"slices.partitionCmpFunc[payroll/overtime.span]",by decide,Eq.trans func321 (congrArg some (by kernel_rfl))⟩
 f28:=Eq.trans func241 (congrArg some (by kernel_rfl))
 f29:=Eq.trans func242 (congrArg some (by kernel_rfl))
 f46:=⟨"slices.siftDownCmpFunc[payroll/overtime.span]",by decide,Eq.trans func349 (congrArg some (by kernel_rfl))⟩
 f47:=Eq.trans func290 (congrArg some (by kernel_rfl))
 f48:=Eq.trans func291 (congrArg some (by kernel_rfl))
 f49:=⟨"slices.medianAdjacentCmpFunc[payroll/overtime.span]",by decide,Eq.trans func350 (congrArg some (by kernel_rfl))⟩
 f50:=⟨"slices.medianCmpFunc[payroll/overtime.span]",by decide,Eq.trans func351 (congrArg some (by kernel_rfl))⟩
 f57:=⟨"slices.order2CmpFunc[payroll/overtime.span]",by decide,Eq.trans func365 (congrArg some (by kernel_rfl))⟩
 t0:=underlying0
 a0:=isAgg0
 z0:=sizeOf0
 v0:=zeroValue0
 t3:=underlying3
 a3:=isAgg3
 z3:=sizeOf3
 v3:=zeroValue3
 t4:=underlying4
 a4:=isAgg4
 z4:=sizeOf4
 v4:=zeroValue4
 t5:=underlying5
 a5:=isAgg5
 z5:=sizeOf5
 v5:=zeroValue5
 t9:=underlying9
 a9:=isAgg9
 z9:=sizeOf9
 v9:=zeroValue9
 t22:=underlying210
 a22:=isAgg210
 z22:=sizeOf210
 v22:=zeroValue210
 t25:=underlying306
 a25:=isAgg306
 z25:=sizeOf306
 v25:=zeroValue306
 t39:=underlying284
 a39:=isAgg284
 z39:=sizeOf284
 v39:=zeroValue284
 t45:=underlying340
 a45:=isAgg340
 z45:=sizeOf340
 v45:=zeroValue340
 t46:=underlying341
 a46:=isAgg341
 z46:=sizeOf341
 v46:=zeroValue341
 t50:=underlying206
 a50:=isAgg206
 z50:=sizeOf206
 v50:=zeroValue206
 t53:=underlying347
 a53:=isAgg347
 z53:=sizeOf347
 v53:=zeroValue347
 t55:=underlying349
 a55:=isAgg349
 z55:=sizeOf349
 v55:=zeroValue349
 t66:=underlying376
 a66:=isAgg376
 z66:=sizeOf376
 v66:=zeroValue376
 t70:=underlying380
 a70:=isAgg380
 z70:=sizeOf380
 v70:=zeroValue380
 t76:=underlying412
 a76:=isAgg412
 z76:=sizeOf412
 v76:=zeroValue412
 t77:=underlying308
 a77:=isAgg308
 z77:=sizeOf308
 v77:=zeroValue308
def aDg:Go.Shelf.Ren:=
 {f:=fun x=>match x with|6=>178|15=>158|14=>248|28=>241|29=>242|20=>295|21=>296|22=>297|23=>298|24=>299|25=>300|26=>301|27=>302|46=>343|47=>290|48=>291|49=>344|50=>345|57=>363|n=>n,
  t:=fun x=>match x with|22=>53|24=>71|25=>294|3=>3|39=>284|0=>0|53=>347|55=>349|4=>4|46=>341|45=>340|50=>206|5=>5|9=>9|66=>376|70=>380|76=>412|77=>308|n=>n,
  g:=fun n=>n}
set_option maxRecDepth 100000 in
theorem aCk:SlLaysF0.n6 prog aDg where
 mixed:=by kernel_rfl
 f6:=⟨"slices.SortFunc[[]payroll/api.Event,payroll/api.Event]",by decide,Eq.trans func178 (congrArg some (by kernel_rfl))⟩
 f14:=⟨"slices.pdqsortCmpFunc[payroll/api.Event]",by decide,Eq.trans func248 (congrArg some (by kernel_rfl))⟩
 f15:=Eq.trans func158 (congrArg some (by kernel_rfl))
 f20:=⟨"slices.insertionSortCmpFunc[payroll/api.Event]",by decide,Eq.trans func295 (congrArg some (by kernel_rfl))⟩
 f21:=⟨"slices.heapSortCmpFunc[payroll/api.Event]",by decide,Eq.trans func296 (congrArg some (by kernel_rfl))⟩
 f22:=⟨"slices.breakPatternsCmpFunc[payroll/api.Event]",by decide,Eq.trans func297 (congrArg some (by kernel_rfl))⟩
 f23:=⟨"slices.choosePivotCmpFunc[payroll/api.Event]",by decide,Eq.trans func298 (congrArg some (by kernel_rfl))⟩
 f24:=⟨"slices.reverseRangeCmpFunc[payroll/api.Event]",by decide,Eq.trans func299 (congrArg some (by kernel_rfl))⟩
 f25:=⟨"slices.partialInsertionSortCmpFunc[payroll/api.Event]",by decide,Eq.trans func300 (congrArg some (by kernel_rfl))⟩
 f26:=⟨"slices.partitionEqualCmpFunc[payroll/api.Event]",by decide,Eq.trans func301 (congrArg some (by kernel_rfl))⟩
 f27:=⟨"slices.partitionCmpFunc[payroll/api.Event]",by decide,Eq.trans func302 (congrArg some (by kernel_rfl))⟩
 f28:=Eq.trans func241 (congrArg some (by kernel_rfl))
 f29:=Eq.trans func242 (congrArg some (by kernel_rfl))
 f46:=⟨"slices.siftDownCmpFunc[payroll/api.Event]",by decide,Eq.trans func343 (congrArg some (by kernel_rfl))⟩
 f47:=Eq.trans func290 (congrArg some (by kernel_rfl))
 f48:=Eq.trans func291 (congrArg some (by kernel_rfl))
 f49:=⟨"slices.medianAdjacentCmpFunc[payroll/api.Event]",by decide,Eq.trans func344 (congrArg some (by kernel_rfl))⟩
 f50:=⟨"slices.medianCmpFunc[payroll/api.Event]",by decide,Eq.trans func345 (congrArg some (by kernel_rfl))⟩
 f57:=⟨"slices.order2CmpFunc[payroll/api.Event]",by decide,Eq.trans func363 (congrArg some (by kernel_rfl))⟩
 t0:=underlying0
 a0:=isAgg0
 z0:=sizeOf0
 v0:=zeroValue0
 t3:=underlying3
 a3:=isAgg3
 z3:=sizeOf3
 v3:=zeroValue3
 t4:=underlying4
 a4:=isAgg4
 z4:=sizeOf4
 v4:=zeroValue4
 t5:=underlying5
 a5:=isAgg5
 z5:=sizeOf5
 v5:=zeroValue5
 t9:=underlying9
 a9:=isAgg9
 z9:=sizeOf9
 v9:=zeroValue9
 t22:=underlying53
 a22:=isAgg53
 z22:=sizeOf53
 v22:=zeroValue53
 t25:=underlying294
 a25:=isAgg294
 z25:=sizeOf294
 v25:=zeroValue294
 t39:=underlying284
 a39:=isAgg284
 z39:=sizeOf284
 v39:=zeroValue284
 t45:=underlying340
 a45:=isAgg340
 z45:=sizeOf340
 v45:=zeroValue340
 t46:=underlying341
 a46:=isAgg341
 z46:=sizeOf341
 v46:=zeroValue341
 t50:=underlying206
 a50:=isAgg206
 z50:=sizeOf206
 v50:=zeroValue206
 t53:=underlying347
 a53:=isAgg347
 z53:=sizeOf347
 v53:=zeroValue347
 t55:=underlying349
 a55:=isAgg349
 z55:=sizeOf349
 v55:=zeroValue349
 t66:=underlying376
 a66:=isAgg376
 z66:=sizeOf376
 v66:=zeroValue376
 t70:=underlying380
 a70:=isAgg380
 z70:=sizeOf380
 v70:=zeroValue380
 t76:=underlying412
 a76:=isAgg412
 z76:=sizeOf412
 v76:=zeroValue412
 t77:=underlying308
 a77:=isAgg308
 z77:=sizeOf308
 v77:=zeroValue308
end Go.Proofs.YtpincjkjoeopkaaGreatDoor.Ib
namespace Go.Proofs.YtpincjkjoeopkaaGreatDoor.Ib
open Go Go.Abs Go.Proofs.Tryz
open Go.Sort (SWO)
section
variable [iZ:dE]
def vp (a b:Ky):Int:=ow [gT a.t b.t,gT a.I b.I]
def IQ (a b:Ev):Int:=ow [vp ⟨a.cZ,a.Y⟩ ⟨b.cZ,b.Y⟩,gT a.bk b.bk,gT a.time b.time,gT a.cB b.cB,vp ⟨a.iq,a.eg⟩ ⟨b.iq,b.eg⟩]
def IR (a b:Stamp):Int:=ow [gT a.time b.time,vp ⟨a.cZ,a.Y⟩ ⟨b.cZ,b.Y⟩]
theorem S2 (a b:Ky):aO prog 148 [.agg [.int .i64 a.t,.int .i64 a.I],.agg [.int .i64 b.t,.int .i64 b.I]] [] (fun v rs=>v= .int .i64 (vp a b)∧rs= []):=by
 refine cu func148 aeb (by simp[M4,S3]) ?_;simp only[go_sem,M4,S3];refine gG (yw _ _) rfl rfl ?_;simp only[go_sem];refine gG (yw _ _) rfl rfl ?_;simp only[go_sem]
 (refine D4 [2] (Mm [gT a.t b.t,gT a.I b.I] (by simp)) ?_;rintro _ _ ⟨rfl,rfl⟩;simp only[go_sem])
 exact E.bg rfl ⟨rfl,rfl⟩
theorem aCd (a b:Ev):aO prog 179 [.agg (aJ.J a),.agg (aJ.J b)] [] (fun v rs=>v= .int .i64 (IQ a b)∧rs= []):=by
 refine cu func179 aeA (by simp[M7,S4]) ?_;simp only[go_sem,M7,S4,rJ];refine gG (S2 ⟨a.cZ,a.Y⟩ ⟨b.cZ,b.Y⟩) rfl rfl ?_;simp only[go_sem];refine gG (yw _ _) rfl rfl ?_;simp only[go_sem];refine gG (yw _ _) rfl rfl ?_;simp only[go_sem];refine gG (yw _ _) rfl rfl ?_;simp only[go_sem];refine gG (S2 ⟨a.iq,a.eg⟩ ⟨b.iq,b.eg⟩) rfl rfl ?_;simp only[go_sem]
 (refine D4 [2] (Mm [vp ⟨a.cZ,a.Y⟩ ⟨b.cZ,b.Y⟩,gT a.bk b.bk,gT a.time b.time,gT a.cB b.cB,vp ⟨a.iq,a.eg⟩ ⟨b.iq,b.eg⟩] (by simp)) ?_;rintro _ _ ⟨rfl,rfl⟩;simp only[go_sem])
 exact E.bg rfl ⟨rfl,rfl⟩
theorem aCe (a b:Stamp):aO prog 147 [.agg (aJ.J a),.agg (aJ.J b)] [] (fun v rs=>v= .int .i64 (IR a b)∧rs= []):=by
 refine cu func147 aea (by simp[M3,S5]) ?_;simp only[go_sem,M3,S5,Nn];refine gG (yw _ _) rfl rfl ?_;simp only[go_sem];refine gG (S2 ⟨a.cZ,a.Y⟩ ⟨b.cZ,b.Y⟩) rfl rfl ?_;simp only[go_sem]
 (refine D4 [2] (Mm [gT a.time b.time,vp ⟨a.cZ,a.Y⟩ ⟨b.cZ,b.Y⟩] (by simp)) ?_;rintro _ _ ⟨rfl,rfl⟩;simp only[go_sem])
 exact E.bg rfl ⟨rfl,rfl⟩
theorem aCf (a b:ga):aO prog 196 [.agg (aJ.J a),.agg (aJ.J b)] [] (fun v rs=>v= .int .i64 (gT a.R b.R)∧rs= []):=by
 refine cu func196 aeO (by simp[M8,S6]) ?_;simp only[go_sem,M8,S6,No];refine bM (yw _ _) rfl rfl ?_;simp only[go_sem];exact E.bg rfl ⟨rfl,rfl⟩
end
theorem Am {a b:Int}:gT a b < 0↔a < b:=by
 unfold gT;split
 ·simp_all
 ·split<;>simp_all
theorem tQ {a b:Int}:gT a b=0↔a=b:=by
 unfold gT;split
 ·simp;omega
 ·split
  ·simp;omega
  ·simp;omega
theorem agD {a b:Ky}:vp a b < 0↔a.t < b.t∨(a.t=b.t∧a.I < b.I):=by
 unfold vp;simp only[ow]
 by_cases h:gT a.t b.t=0
 ·rw[if_pos h];have:=tQ.1 h
  by_cases G:gT a.I b.I=0
  ·rw[if_pos G];have:=tQ.1 G;omega
  ·rw[if_neg G,Am];omega
 ·rw[if_neg h,Am];have: ¬a.t=b.t:=fun e=>h (tQ.2 e);omega
theorem agE {a b:Ky}:vp a b=0↔a.t=b.t∧a.I=b.I:=by
 unfold vp;simp only[ow]
 by_cases h:gT a.t b.t=0
 ·rw[if_pos h];have:=tQ.1 h
  by_cases G:gT a.I b.I=0
  ·rw[if_pos G];have:=tQ.1 G;simp;omega
  ·rw[if_neg G];have: ¬a.I=b.I:=fun e=>G (tQ.2 e);simp only[G,false_iff];omega
 ·rw[if_neg h];have: ¬a.t=b.t:=fun e=>h (tQ.2 e);simp only[h,false_iff];omega
def pZ (a b:Ky):Prop:=a.t < b.t∨(a.t=b.t∧a.I < b.I)
def jy (a b:Ev):Prop:=a.cZ < b.cZ∨(a.cZ=b.cZ∧(a.Y < b.Y∨(a.Y=b.Y∧(a.bk < b.bk∨(a.bk=b.bk∧(a.time < b.time∨(a.time=b.time∧(a.cB < b.cB∨(a.cB=b.cB∧(a.iq < b.iq∨(a.iq=b.iq∧a.eg < b.eg)))))))))))
def ni (a b:Stamp):Prop:=a.time < b.time∨(a.time=b.time∧(a.cZ < b.cZ∨(a.cZ=b.cZ∧a.Y < b.Y)))
theorem agF:ow []=0:=rfl
theorem agG {x:Int}{aq:List Int}:ow (x::aq) < 0↔x < 0∨(x=0∧ow aq < 0):=by
 rw[ow];split<;>omega
theorem agH {a b:Ev}:IQ a b < 0↔jy a b:=by
 unfold IQ;simp only[agG,agD,agE,Am,tQ,agF,jy];omega
theorem agI {a b:Stamp}:IR a b < 0↔ni a b:=by
 unfold IR;simp only[agG,agD,agE,Am,tQ,agF,ni];omega
theorem ID {bj:Type}{tx:bj→bj→Int}{aF:bj→bj→Prop}(h: ∀ a b,tx a b < 0↔aF a b)(h1: ∀ a,¬aF a a)(G: ∀ a b J,aF a b→aF b J→aF a J)(au: ∀ a b J,¬aF a b→ ¬aF b J→ ¬aF a J):SWO (ltOf tx):=by
 refine⟨fun a=> ?_,fun a b J=> ?_,fun a b J=> ?_⟩
 ·simp only[ltOf,decide_eq_false_iff_not,h];exact h1 a
 ·simp only[ltOf,decide_eq_true_eq,h];exact G a b J
 ·simp only[ltOf,decide_eq_false_iff_not,h];exact au a b J
theorem aCg:SWO (ltOf IQ):=ID (fun a b=>agH) (fun a=>by unfold jy;omega) (fun a b J=>by unfold jy;omega) (fun a b J=>by unfold jy;omega)
theorem aCh:SWO (ltOf IR):=ID (fun a b=>agI) (fun a=>by unfold ni;omega) (fun a b J=>by unfold ni;omega) (fun a b J=>by unfold ni;omega)
theorem aCi:SWO (ltOf fun a b:ga=>gT a.R b.R):=ID (aF:=fun a b=>a.R < b.R) (fun a b=>Am) (fun a=>by omega) (fun a b J=>by omega) (fun a b J=>by omega)
instance:uR Ev:=⟨fun _=>rfl⟩
instance:uR Stamp:=⟨fun _=>rfl⟩
instance:uR ga:=⟨fun _=>rfl⟩
instance:Inhabited Ev:=⟨⟨0,0,0,0,0,0,0⟩⟩
instance:Inhabited Stamp:=⟨⟨0,0,0,0⟩⟩
instance:Inhabited ga:=⟨⟨0,0,0⟩⟩
theorem aCj (l:List Ev)(hl:l.length < 4611686018427387904):aO prog 178 [.own 0 l.length 0 l.length,.fn 179 []] [.ag 71 7 (ai l)]
 (fun v rs=>v= .bo []∧ ∃ cb:List Ev,cb.Perm l∧cb.Pairwise (fun x y=> ¬jy y x)∧rs= [.ag 71 7 (ai cb)]):=by
 refine aO.Hg inferInstance ?_;refine @aO.mono (dE.aD inferInstance) _ _ _ _ _ _ (@aO.G5 (dE.aD inferInstance) trivial Ev _ _ _ _ _ _ _ 71 aCk rfl isAgg71 sizeOf71 IQ aCg (@aCd (dE.aD inferInstance)) (enters_of func179 (by kernel_rfl) rfl) l hl) ?_;rintro v rs ⟨rfl,cb,h1,G,rfl⟩;exact⟨rfl,cb,h1,G.imp fun {x y} h e=>h (agH.2 e),rfl⟩
theorem aCl (l:List Stamp)(hl:l.length < 4611686018427387904):aO prog 146 [.own 0 l.length 0 l.length,.fn 147 []] [.ag 177 4 (ai l)]
 (fun v rs=>v= .bo []∧ ∃ cb:List Stamp,cb.Perm l∧cb.Pairwise (fun x y=> ¬ni y x)∧rs= [.ag 177 4 (ai cb)]):=by
 refine aO.Hg inferInstance ?_;refine @aO.mono (dE.aD inferInstance) _ _ _ _ _ _ (@aO.G5 (dE.aD inferInstance) trivial Stamp _ _ _ _ _ _ _ 177 aCm rfl isAgg177 sizeOf177 IR aCh (@aCe (dE.aD inferInstance)) (enters_of func147 (by kernel_rfl) rfl) l hl) ?_;rintro v rs ⟨rfl,cb,h1,G,rfl⟩;exact⟨rfl,cb,h1,G.imp fun {x y} h e=>h (agI.2 e),rfl⟩
theorem aCn (l:List ga)(hl:l.length < 4611686018427387904):aO prog 195 [.own 0 l.length 0 l.length,.fn 196 []] [.ag 216 3 (ai l)]
 (fun v rs=>v= .bo []∧ ∃ cb:List ga,cb.Perm l∧cb.Pairwise (fun x y=>x.R≤y.R)∧rs= [.ag 216 3 (ai cb)]):=by
 refine aO.Hg inferInstance ?_;refine @aO.mono (dE.aD inferInstance) _ _ _ _ _ _ (@aO.G5 (dE.aD inferInstance) trivial ga _ _ _ _ _ _ _ 216 aCo rfl isAgg216 sizeOf216 (fun a b=>gT a.R b.R) aCi (@aCf (dE.aD inferInstance)) (enters_of func196 (by kernel_rfl) rfl) l hl) ?_;rintro v rs ⟨rfl,cb,h1,G,rfl⟩;exact⟨rfl,cb,h1,G.imp fun {x y} h=>by rw[Am] at h;omega,rfl⟩
end Go.Proofs.YtpincjkjoeopkaaGreatDoor.Ib
