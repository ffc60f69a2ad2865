/- Time evaluation. -/
import Derived.Test.YtpincjkjoeopkaaGreatDoorW22
import Derived.Test.YtpincjkjoeopkaaGreatDoorW15
import Derived.Test.YtpincjkjoeopkaaGreatDoorW26
import Derived.Test.YtpincjkjoeopkaaGreatDoorW27
import Derived.Test.YtpincjkjoeopkaaGreatDoorW17
import Derived.Test.YtpincjkjoeopkaaGreatDoorW24
set_option linter.all false
namespace Go.Proofs.YtpincjkjoeopkaaGreatDoor
open Go Go.Abs Go.Proofs.Tryz
structure eD where
 M:cc
 fz:Int
 er:Int
 ex:Int
 dK:Pr.gK
 ia:Ib.ib
 al:List Pm.dP
 ao:List Pm.cX
def eD.J (z:eD):List F:= [.int .i64 z.M.off,.pure 2 (ai z.M.cS),.int .i64 z.fz,.int .i64 z.er,.int .i64 z.ex,.int .i64 z.dK.eI,.int .i64 z.dK.lw,.int .i64 z.dK.lP,.pure 2 (ai z.dK.iA),.str z.ia.ef,.pure 2 (ai z.ia.eN),.pure 2 (ai z.ia.gL),.pure 7 (ai z.al),.pure 6 (ai z.ao)]
theorem eD.fX (z:eD):bU z.J=true:=by simp only[eD.J,bU,bJ,ck,Bool.and_self]
theorem eD.on (z:eD):z.J.all Abs.cV=true:=by simp[eD.J,Abs.cV]
def rA (M:cc)(ae:List cw)(B:eX):Pr.bx:=if h:0≤B.bP∧B.bP < ae.length then ⟨(fW M (ae[B.bP.toNat]'(by omega))).R,(fW M (ae[B.bP.toNat]'(by omega))).ab⟩ else ⟨0,0⟩
theorem avk {M:cc}{ae:List cw}(h:jd M ae=0)(B:eX):Pr.HM (rA M ae B):=by
 unfold rA;split
 ·have:=QN (QP h _ (List.getElem_mem (l:=ae) (n:=B.bP.toNat) (by omega)))
  right
  unfold Pr.hR;simp only[decide_eq_true_eq];omega
 ·left;exact⟨rfl,rfl⟩
theorem Zo {z:Pr.gK}{ae:Pr.bx}: ∀ {aa:List Pr.dF} {last:Int},(Pr.kB z ae last aa).length≤aa.length
 | [],_=>by simp[Pr.kB]
 |p::t,last=>by
  unfold Pr.kB;have h1:=Zo (z:=z) (ae:=ae) (aa:=t) (last:=max last (Pr.mo z ae last p).ab);split<;>simp only[List.length_cons]<;>omega
theorem avl (z:Pr.gK)(N:Pr.mq z=0)(ae:Pr.bx)(gy:Pr.HM ae)(bP ah:Int)(aa:List Pr.dF)(kk:Pr.lx aa=0):aO prog 156 [.agg (aJ.J z),.agg (aJ.J ae),.agg [.int .i64 bP,.int .i64 ah,.pure 3 (ai aa)]] []
 (fun v rs=>v= .bo [if Pr.qD z ae aa=0 then .agg [.int .i64 ah,.pure 2 (ai (Pr.pb z ae aa))] else .agg [.int .i64 0,.bH],.int .i64 (Pr.qD z ae aa)]∧rs= []):=by
 have HN:Pr.qD z ae aa=if 100000 < Pr.da (Pr.kB z ae 0 aa) then 3 else 0:=by
  unfold Pr.qD;rw[if_neg (by omega),if_neg (fun h=>by rcases gy with G|G;exact h.1 G;rw[G] at h;exact absurd h.2 (by decide)),if_neg (by omega)]
 by_cases hN:Pr.da (Pr.kB z ae 0 aa)≤100000
 ·rw[if_neg (by omega)] at HN;rw[HN,if_pos rfl];exact Pr.avm z ae bP ah aa HN
 rw[if_pos (by omega)] at HN;rw[HN,if_neg (by decide)];obtain⟨yn,kX,nK⟩:=Pr.LS N;have tG:=Pr.LU kk;have hC:=Pr.LV tG (by omega);have cK:aa.length≤1024:=by unfold Pr.lx at kk;split at kk<;>omega
 refine cu func156 Rb (by simp[EZ,HO]) ?_;simp only[go_sem,EZ,HO,Pr.Ab,Pr.eY];refine bM (Pr.Re z) rfl rfl ?_;rw[N];simp only[go_sem];have hA:=Pr.Zp z yn ae gy aa tG cK;have pv:=Pr.HP (z:=z) (ae:=ae) (aa:=aa) (last:=0);have E0:=Pr.Rf pv (by omega);have LW: (Pr.kB z ae 0 aa).length≤aa.length:=Zo;have Zq:=Pr.LX _ E0 (by omega);generalize Pr.kB z ae 0 aa=bw at *;have ay:decide (100000 < Pr.da bw)=true:=decide_eq_true (by omega)
 by_cases ba:ae.R=0∧ae.ab=0
 ·have af: (!(ae.R==0&&ae.ab==0))=false:=by simp[ba.1,ba.2]
  simp only[go_sem,af];refine bM (Pr.lQ aa (by omega)) rfl rfl ?_;rw[kk];simp only[go_sem];refine bM hA rfl rfl ?_;simp only[go_sem];refine bM Zq rfl rfl ?_;simp only[go_sem,ay];exact E.bg rfl ⟨rfl,rfl⟩
 ·have af: (!(ae.R==0&&ae.ab==0))=true:=by simp;omega
  have qE:Pr.hR ⟨ae.R,ae.ab⟩ 0 120968640=true:=by rcases gy with G|G;exact absurd G ba;exact G
  simp only[go_sem,af];refine bM (Pr.Zr ae.R ae.ab) rfl rfl ?_;rw[qE];simp only[go_sem];refine bM (Pr.lQ aa (by omega)) rfl rfl ?_;rw[kk];simp only[go_sem];refine bM hA rfl rfl ?_;simp only[go_sem];refine bM Zq rfl rfl ?_;simp only[go_sem,ay];exact E.bg rfl ⟨rfl,rfl⟩
theorem avn (z:eD)(N:Pr.mq z.dK=0)(ae:List cw)(gy:jd z.M ae=0)(B:eX)(ay:B.bP < ae.length)(kk:Pr.lx B.aa=0):aO prog 70 [.agg z.J,.pure 3 (ai ae),.agg (aJ.J B)] []
 (fun v rs=>v= .bo [if Pr.qD z.dK (rA z.M ae B) B.aa=0 then .agg [.int .i64 B.ah,.pure 2 (ai (Pr.pb z.dK (rA z.M ae B) B.aa))] else .agg [.int .i64 0,.bH],.int .i64 (Pr.qD z.dK (rA z.M ae B) B.aa)]∧rs= []):=by
 have hA:=avl z.dK N (rA z.M ae B) (avk gy B) B.bP B.ah B.aa kk;have avo:=YM gy;refine hJ func70 Zs (by simp[a70,Rh]) ?_;unfold eD.J;simp only[go_sem,a70,Rh,Ri]
 (repeat (first| (refine E.ac ?_;simp only[go_sem,bT])|simp only[go_sem,bT]))
 simp only[Pr.Ab,Pr.eY] at hA
 by_cases h0:0≤B.bP
 ·have q1:decide (0≤B.bP)=true:=decide_eq_true h0;have eQ:decide (B.bP < ae.length)=true:=decide_eq_true ay;have gs: (ai ae).getD B.bP.toNat []=aJ.J (ae[B.bP.toNat]'(by omega)):=cT (by omega);have e:rA z.M ae B=⟨(fW z.M (ae[B.bP.toNat]'(by omega))).R,(fW z.M (ae[B.bP.toNat]'(by omega))).ab⟩:=by unfold rA;rw[dif_pos ⟨h0,ay⟩]
  have dp:=QP gy _ (List.getElem_mem (l:=ae) (n:=B.bP.toNat) (by omega));have du:=YH z.M (ae[B.bP.toNat]'(by omega));rw[dp] at du;rw[e] at hA ⊢;generalize (ae[B.bP.toNat]'(by omega))=I at *;unfold cc.v at du;simp only[uZ,zT] at du;generalize fW z.M I=bf at *
  (repeat (first| (refine E.ac ?_;simp only[go_sem,bT,q1,eQ,h0,ay,gs,uZ])|simp only[go_sem,bT,q1,eQ,h0,ay,gs,uZ]))
  refine gG du (by simp only[bU,bJ,ck,Bool.and_self,Bool.and_true]) rfl ?_
  (repeat (first| (refine E.ac ?_;simp only[go_sem])|simp only[go_sem]))
  by_cases ba:Pr.qD z.dK ⟨bf.R,bf.ab⟩ B.aa=0
  ·rw[ba,if_pos rfl] at hA;rw[ba,if_pos rfl];refine bM hA (by simp only[bU,bJ,ck,Bool.and_self,Bool.and_true]) (by simp only[bU,bJ,ck,Bool.and_self,Bool.and_true]) ?_
   (repeat (first| (refine E.ac ?_;simp only[go_sem,ck])|simp only[go_sem,ck]))
   exact E.bg rfl ⟨rfl,rfl⟩
  ·rw[if_neg ba] at hA;rw[if_neg ba];refine bM hA (by simp only[bU,bJ,ck,Bool.and_self,Bool.and_true]) rfl ?_
   (repeat (first| (refine E.ac ?_;simp only[go_sem,ck])|simp only[go_sem,ck]))
   exact E.bg rfl ⟨rfl,rfl⟩
 ·have q1:decide (0≤B.bP)=false:=decide_eq_false h0;have e:rA z.M ae B=⟨0,0⟩:=by unfold rA;rw[dif_neg (fun h=>h0 h.1)]
  rw[e] at hA ⊢
  (repeat (first| (refine E.ac ?_;simp only[go_sem,bT,q1])|simp only[go_sem,bT,q1]))
  by_cases ba:Pr.qD z.dK ⟨0,0⟩ B.aa=0
  ·rw[ba,if_pos rfl] at hA;rw[ba,if_pos rfl];refine bM hA (by simp only[bU,bJ,ck,Bool.and_self,Bool.and_true]) (by simp only[bU,bJ,ck,Bool.and_self,Bool.and_true]) ?_
   (repeat (first| (refine E.ac ?_;simp only[go_sem,ck])|simp only[go_sem,ck]))
   exact E.bg rfl ⟨rfl,rfl⟩
  ·rw[if_neg ba] at hA;rw[if_neg ba];refine bM hA (by simp only[bU,bJ,ck,Bool.and_self,Bool.and_true]) rfl ?_
   (repeat (first| (refine E.ac ?_;simp only[go_sem,ck])|simp only[go_sem,ck]))
   exact E.bg rfl ⟨rfl,rfl⟩
theorem aOs (z:Pr.gK)(N:z.qh)(t:Int)(e:Bool)(h0:0≤t)(h1:t≤120968640):aO prog 244 [.agg (aJ.J z),.int .i64 t,.bool e] [] (fun v rs=>v= .int .i64 (Pr.um z t e)∧rs= []):=by
 have hm:=N;unfold Pr.gK.qh at hm;refine hJ func244 aBs (by simp[afu,aIE]) ?_;simp only[go_sem,afu,aIE,Pr.Ab]
 repeat (refine E.ac ?_;simp only[go_sem])
 by_cases aLR:z.lw=0
 ·have q0: (z.lw==0)=true:=by simp[aLR]
  rw[q0];simp only[go_sem]
  repeat (refine E.ac ?_;simp only[go_sem])
  exact E.bg rfl ⟨by rw[Pr.um,if_pos aLR],rfl⟩
 have q0: (z.lw==0)=false:=by simp[aLR]
 have aw:1≤z.eI∧z.eI≤60:=by omega
 have aOt:Int.tdiv t z.eI=t / z.eI:=Int.tdiv_eq_ediv_of_nonneg h0;have axJ:=Int.mul_ediv_add_emod t z.eI;have tz:=Int.emod_nonneg t (show z.eI≠0 by omega);have qO:=Int.emod_lt_of_pos t (show 0 < z.eI by omega);have iN:0≤t / z.eI:=Int.ediv_nonneg h0 (by omega);have mZ:t / z.eI≤t:=Int.ediv_le_self _ h0;have EB:t / z.eI*z.eI=z.eI*(t / z.eI):=Int.mul_comm _ _;rw[q0];have oY:0≤t / z.eI*z.eI:=Int.mul_nonneg iN (by omega);have jK:t / z.eI*z.eI≤t:=Int.ediv_mul_le _ (by omega);have FG:Pr.um z t e=if t / z.eI*z.eI=t then t else if (z.lw=1∧e=false)∨(z.lw=2∧e=true)∨(z.lw=3∧z.eI≤2*(t-t / z.eI*z.eI)) then t / z.eI*z.eI+z.eI else t / z.eI*z.eI:=by
  rw[Pr.um,if_neg aLR]
 simp only[go_sem];refine E.ac ?_;simp only[go_sem,aOt];refine⟨by omega,?_⟩;rw[bl (x:=t / z.eI) (by omega) (by omega),bl (x:=t / z.eI*z.eI) (by omega) (by omega)];generalize t / z.eI*z.eI=low at *;rw[FG];have dn:IntKind.i64.wrap (t-low)=t-low:=bl (by omega) (by omega);have ik:IntKind.i64.wrap (low+z.eI)=low+z.eI:=bl (by omega) (by omega);have gI:IntKind.i64.wrap (low+z.eI-t)=low+z.eI-t:=bl (by omega) (by omega)
 repeat (refine E.ac ?_;simp only[go_sem])
 by_cases ct:low=t
 ·have q1: (low==t)=true:=by simp[ct]
  rw[q1];simp only[go_sem]
  repeat (refine E.ac ?_;simp only[go_sem])
  exact E.bg rfl ⟨by rw[if_pos ct],rfl⟩
 have q1: (low==t)=false:=by simp[ct]
 rw[if_neg ct,q1];obtain F4|F4|F4:z.lw=1∨z.lw=2∨z.lw=3:=by omega
 ·cases e<;>simp only[go_sem,afu,aIE,F4,dn,gI,ik]
  all_goals (repeat (refine E.ac ?_;(show eG _ _ _ _ _ _);simp only[go_sem,F4,dn,gI,ik]))
  all_goals exact E.bg rfl ⟨by simp[F4],rfl⟩
 ·cases e<;>simp only[go_sem,afu,aIE,F4,dn,gI,ik]
  all_goals (repeat (refine E.ac ?_;(show eG _ _ _ _ _ _);simp only[go_sem,F4,dn,gI,ik]))
  all_goals exact E.bg rfl ⟨by simp[F4],rfl⟩
 ·by_cases aH:t-low < low+z.eI-t
  ·have eQ:decide (t-low < low+z.eI-t)=true:=decide_eq_true aH;cases e<;>simp only[go_sem,afu,aIE,F4,dn,gI,ik,eQ]
   all_goals (repeat (refine E.ac ?_;(show eG _ _ _ _ _ _);simp only[go_sem,F4,dn,gI,ik,eQ]))
   all_goals exact E.bg rfl ⟨by rw[if_neg (by omega)],rfl⟩
  ·have eQ:decide (t-low < low+z.eI-t)=false:=decide_eq_false aH;cases e<;>simp only[go_sem,afu,aIE,F4,dn,gI,ik,eQ]
   all_goals (repeat (refine E.ac ?_;(show eG _ _ _ _ _ _);simp only[go_sem,F4,dn,gI,ik,eQ]))
   all_goals exact E.bg rfl ⟨by rw[if_pos (by omega)],rfl⟩
theorem aMS (z:Pr.gK)(N:z.qh)(ae:Pr.bx)(ak:Pr.HM ae)(t ab:Int)(e:Bool)(h0:0≤t)(h1:t≤120968640)(G:0≤ab)(au:ab≤120968640):aO prog 166 [.agg (aJ.J z),.agg (aJ.J ae),.int .i64 t,.int .i64 ab,.bool e] []
 (fun v rs=>v= .int .i64 (if ¬(ae.R=0∧ae.ab=0)∧t-ab≤z.lP∧ab-t≤z.lP then ab else Pr.um z t e)∧rs= []):=by
 have aL8:=aOs z N t e h0 h1;simp only[Pr.Ab] at aL8;refine hJ func166 aAU (by simp[aeo,aH2]) ?_;simp only[go_sem,aeo,aH2,Pr.Ab,Pr.eY]
 repeat (refine E.ac ?_;simp only[go_sem])
 have dn:IntKind.i64.wrap (t-ab)=t-ab:=bl (by omega) (by omega);have gI:IntKind.i64.wrap (ab-t)=ab-t:=bl (by omega) (by omega)
 by_cases ba:ae.R=0∧ae.ab=0
 ·have q0: (!(ae.R==0&&ae.ab==0))=false:=by simp[ba]
  rw[if_neg (fun h=>h.1 ba),q0];simp only[go_sem]
  repeat (refine E.ac ?_;simp only[go_sem])
  refine bM aL8 (by first|rfl|simp only[go_sem,ck]) rfl ?_;simp only[go_sem]
  repeat (refine E.ac ?_;simp only[go_sem])
  exact E.bg rfl ⟨rfl,rfl⟩
 have q0: (!(ae.R==0&&ae.ab==0))=true:=by simp;omega
 rw[q0];simp only[go_sem,dn,gI]
 repeat (refine E.ac ?_;simp only[go_sem])
 by_cases ao:t-ab≤z.lP∧ab-t≤z.lP
 ·have q1:decide (max (t-ab) (ab-t)≤z.lP)=true:=decide_eq_true (by omega);rw[if_pos ⟨ba,ao⟩,q1];simp only[go_sem]
  repeat (refine E.ac ?_;simp only[go_sem])
  exact E.bg rfl ⟨rfl,rfl⟩
 ·have q1:decide (max (t-ab) (ab-t)≤z.lP)=false:=decide_eq_false (by omega);rw[if_neg (fun h=>ao h.2),q1];simp only[go_sem]
  repeat (refine E.ac ?_;simp only[go_sem])
  refine bM aL8 (by first|rfl|simp only[go_sem,ck]) rfl ?_;simp only[go_sem]
  repeat (refine E.ac ?_;simp only[go_sem])
  exact E.bg rfl ⟨rfl,rfl⟩
def oA (f:Int):List Pr.bx→List Pr.bx
 | []=> []
 |o::os=>if o.ab≤f then oA f os else o::os
def hS (t:Int):Int→List Pr.bx→List Pr.bx→List Pr.bx×Int
 |f,[],acc=>(acc,f)
 |f,o::os,acc=>if o.R < t then hS t (max f o.ab) os (if f < o.R then acc++ [⟨f,o.R⟩] else acc) else (acc,f)
def Ax (I:Pr.bx)(b acc:List Pr.bx):List Pr.bx:=if (hS I.ab I.R (oA I.R b) acc).2 < I.ab then (hS I.ab I.R (oA I.R b) acc).1++ [⟨(hS I.ab I.R (oA I.R b) acc).2,I.ab⟩] else (hS I.ab I.R (oA I.R b) acc).1
def pm:List Pr.bx→List Pr.bx→List Pr.bx→List Pr.bx
 | [],_,acc=>acc
 |I::a,b,acc=>pm a (oA I.R b) (Ax I b acc)
theorem azg {f:Int}{b:List Pr.bx}{c:Nat}(h:c < b.length):oA f (b.drop c)=if b[c].ab≤f then oA f (b.drop (c+1)) else b.drop c:=by
 rw[List.drop_eq_getElem_cons h,oA]
theorem acj {t f:Int}{b acc:List Pr.bx}{c:Nat}(h:c < b.length):hS t f (b.drop c) acc=if b[c].R < t then hS t (max f b[c].ab) (b.drop (c+1)) (if f < b[c].R then acc++ [⟨f,b[c].R⟩] else acc) else (acc,f):=by
 rw[List.drop_eq_getElem_cons h,hS]
theorem azh {a b acc:List Pr.bx}{c:Nat}(h:c < a.length):pm (a.drop c) b acc=pm (a.drop (c+1)) (oA a[c].R b) (Ax a[c] b acc):=by
 rw[List.drop_eq_getElem_cons h,pm]
theorem MS {t:Int}: ∀ {b acc:List Pr.bx} {f:Int},acc.length≤(hS t f b acc).1.length
 | [],acc,f=>Nat.le_refl _
 |o::os,acc,f=>by
  unfold hS;split
  ·refine Nat.le_trans ?_ MS;split
   ·rw[List.length_append];omega
   ·exact Nat.le_refl _
  ·exact Nat.le_refl _
theorem SU: ∀ {a b acc:List Pr.bx},acc.length≤(pm a b acc).length
 | [],b,acc=>Nat.le_refl _
 |I::a,b,acc=>by
  unfold pm;refine Nat.le_trans ?_ SU;unfold Ax;have:=MS (t:=I.ab) (f:=I.R) (b:=oA I.R b) (acc:=acc);split
  ·rw[List.length_append];omega
  ·exact this
set_option maxHeartbeats 4000000 in
theorem azi (a b:List Pr.bx)(aC:a.length≤1000000000)(af:b.length≤1000000000)(fS: (pm a b []).length≤1000000000):aO prog 71 [.pure 2 (ai a),.own 0 b.length 0 b.length] [.ag 64 2 (ai b)]
 (fun v rs=>v= .pure 2 (ai (pm a b []))∧rs= [.ag 64 2 (ai b)]):=by
 refine hJ func71 ack (by simp[my,nh]) ?_;simp only[go_sem,my,nh]
 (repeat (first| (refine E.ac ?_;simp only[go_sem,bT])|simp only[go_sem,bT]))
 refine hv (fun D r=> ∃ (c xG:Nat) (acc:List Pr.bx),c≤a.length∧xG≤b.length∧pm a b []=pm (a.drop c) (b.drop xG) acc∧D= [(1,.own 0 b.length 0 b.length),(5,.own 1 acc.length 0 acc.length),(6,.int .i64 xG),(11,.pure 2 (ai a)),(12,.int .i64 a.length),(13,.int .i64 c)]∧r= [.ag 64 2 (ai b),.ag 64 2 (ai acc)])
  (fun D _=>match bs D 13 with| .int _ j=>(a.length-j).toNat|_=>0) ?_ ?_
 ·(refine E.iv 5 64 2 rfl (E.eW [1,5,6,11,12,13] ?_);simp only[go_sem])
  exact E.ac ⟨0,0,[],by omega,by omega,rfl,rfl,rfl⟩
 rintro D r ⟨c,xG,acc,av,dV,du,rfl,rfl⟩;have aP:=dB (c:=c) (by omega)
 by_cases aI:c < a.length
 rotate_left
 ·have h1:decide ((c:Int) < a.length)=false:=decide_eq_false (by omega);obtain rfl:c=a.length:=by omega
  rw[List.drop_length,pm] at du;simp only[go_sem,my,nh]
  (repeat (first| (refine E.ac ?_;simp only[go_sem,h1])|simp only[go_sem,h1]))
  have nL:bW [.ag 64 2 (ai b),.ag 64 2 (ai acc)] [some 0] [1] (.own 1 acc.length 0 acc.length)= .pure 2 (ai acc):=qx rfl rfl rfl (by rw[bT]) ck;refine E.jN [some 0] [1] rfl rfl (by simp only[go_sem]<;>rfl) ?_;simp only[List.map_cons,List.map_nil,nL];exact E.ac ⟨by rw[du]<;>rfl,rfl⟩
 have h1:decide ((c:Int) < a.length)=true:=decide_eq_true (by omega);have tM: (0:Int)≤c:=by omega
 have tN: (c:Int) < a.length:=by omega
 have nM: (ai a).getD c []=aJ.J a[c]:=cT aI;rw[azh aI] at du;generalize a[c]=I at *;simp only[go_sem,my,nh]
 (repeat (first| (refine E.ac ?_;simp only[go_sem,h1,tM,tN,nM,bT,Pr.eY])|simp only[go_sem,h1,tM,tN,nM,bT,Pr.eY]))
 refine hv (fun D r=> ∃ eo:Nat,eo≤b.length∧oA I.R (b.drop xG)=oA I.R (b.drop eo)∧D= [(1,.own 0 b.length 0 b.length),(5,.own 1 acc.length 0 acc.length),(6,.int .i64 eo),(8,.bd 2 1 0 0),(9,.int .i64 I.R),(11,.pure 2 (ai a)),(12,.int .i64 a.length),(13,.int .i64 c)]∧r= [.ag 64 2 (ai b),.ag 64 2 (ai acc),.ag 64 2 [[.int .i64 I.R,.int .i64 I.ab]]])
  (fun D _=>match bs D 6 with| .int _ j=>(b.length-j).toNat|_=>0) ?_ ?_
 ·exact E.ac ⟨xG,dV,rfl,rfl,rfl⟩
 rintro D r ⟨eo,Ay,cA,rfl,rfl⟩;have gI:=dB (c:=eo) (by omega)
 by_cases lp:eo < b.length
 ·have q1:decide ((eo:Int) < b.length)=true:=decide_eq_true (by omega);have BS: (0:Int)≤eo:=by omega
  have MT: (eo:Int) < b.length:=by omega
  have MU: (ai b).getD eo []=aJ.J b[eo]:=cT lp;rw[azg lp] at cA
  by_cases eA:b[eo].ab≤I.R
  ·rw[if_pos eA] at cA;have eQ:decide (b[eo].ab≤I.R)=true:=decide_eq_true eA;simp only[go_sem,my,nh]
   (repeat (first| (refine E.ac ?_;simp only[go_sem,bT,q1,eQ,BS,MT,MU,Pr.eY,gI])|simp only[go_sem,bT,q1,eQ,BS,MT,MU,Pr.eY,gI]))
   exact⟨⟨eo+1,by omega,cA,rfl⟩,by omega⟩
  ·rw[if_neg eA] at cA;have eQ:decide (b[eo].ab≤I.R)=false:=decide_eq_false eA;simp only[go_sem,my,nh]
   (repeat (first| (refine E.ac ?_;simp only[go_sem,bT,q1,eQ,BS,MT,MU,Pr.eY,gI])|simp only[go_sem,bT,q1,eQ,BS,MT,MU,Pr.eY,gI]))
   unfold Ax at du;rw[cA] at du;have hG:=SU (a:=a.drop (c+1)) (b:=b.drop eo) (acc:=if (hS I.ab I.R (b.drop eo) acc).2 < I.ab then (hS I.ab I.R (b.drop eo) acc).1++ [⟨(hS I.ab I.R (b.drop eo) acc).2,I.ab⟩] else (hS I.ab I.R (b.drop eo) acc).1);rw[←du] at hG;have SV: (hS I.ab I.R (b.drop eo) acc).1.length≤1000000000:=by
    split at hG
    ·rw[List.length_append] at hG;omega
    ·omega
   refine hv (fun D r=> ∃ (gm:Nat) (f:Int) (dz:List Pr.bx),eo≤gm∧gm≤b.length∧hS I.ab I.R (b.drop eo) acc=hS I.ab f (b.drop gm) dz∧D= [(1,.own 0 b.length 0 b.length),(5,.own 1 dz.length 0 dz.length),(6,.int .i64 eo),(8,.bd 2 1 0 0),(9,.int .i64 f),(10,.int .i64 gm),(11,.pure 2 (ai a)),(12,.int .i64 a.length),(13,.int .i64 c)]∧r= [.ag 64 2 (ai b),.ag 64 2 (ai dz),.ag 64 2 [[.int .i64 I.R,.int .i64 I.ab]]])
    (fun D _=>match bs D 10 with| .int _ j=>(b.length-j).toNat|_=>0) ?_ ?_
   ·exact E.ac ⟨eo,I.R,acc,by omega,by omega,rfl,rfl,rfl⟩
   rintro D r ⟨gm,f,dz,azj,azk,hX,rfl,rfl⟩;have tt:dz.length≤1000000000:=by
    have g1:=MS (t:=I.ab) (f:=f) (b:=b.drop gm) (acc:=dz);rw[←hX] at g1;omega
   have ik:=dB (c:=gm) (by omega)
   by_cases sm:gm < b.length
   ·have eF:decide ((gm:Int) < b.length)=true:=decide_eq_true (by omega);have mz: (0:Int)≤gm:=by omega
    have mA: (gm:Int) < b.length:=by omega
    have mB: (ai b).getD gm []=aJ.J b[gm]:=cT sm;rw[acj sm] at hX;generalize b[gm]=o at *
    by_cases nu:o.R < I.ab
    ·rw[if_pos nu] at hX;have iR:decide (o.R < I.ab)=true:=decide_eq_true nu
     by_cases iH:f < o.R
     ·have pW:decide (f < o.R)=true:=decide_eq_true iH;rw[if_pos iH] at hX;simp only[go_sem,my,nh]
      (repeat (first| (refine E.ac ?_;simp only[go_sem,bT,eF,iR,pW,mz,mA,mB,Pr.eY,ik])|simp only[go_sem,bT,eF,iR,pW,mz,mA,mB,Pr.eY,ik]))
      refine⟨by omega,?_⟩
      (refine E.bB [some 0,some 1,some 2] ?_;simp only[go_sem])
      (repeat (first| (refine E.ac ?_;simp only[go_sem,bT,eF,iR,pW,mz,mA,mB,Pr.eY,ik])|simp only[go_sem,bT,eF,iR,pW,mz,mA,mB,Pr.eY,ik]))
      exact⟨⟨gm+1,max f o.ab,dz++ [⟨f,o.R⟩],by omega,by omega,hX,by rw[List.length_append];rfl,rfl⟩,by omega⟩
     ·have pW:decide (f < o.R)=false:=decide_eq_false iH;rw[if_neg iH] at hX;simp only[go_sem,my,nh]
      (repeat (first| (refine E.ac ?_;simp only[go_sem,bT,eF,iR,pW,mz,mA,mB,Pr.eY,ik])|simp only[go_sem,bT,eF,iR,pW,mz,mA,mB,Pr.eY,ik]))
      exact⟨⟨gm+1,max f o.ab,dz,by omega,by omega,hX,rfl,rfl⟩,by omega⟩
    ·rw[if_neg nu] at hX;have iR:decide (o.R < I.ab)=false:=decide_eq_false nu
     by_cases nS:f < I.ab
     ·have kq:decide (f < I.ab)=true:=decide_eq_true nS;rw[hX] at du;simp only[nS,if_true] at du;simp only[go_sem,my,nh]
      (repeat (first| (refine E.ac ?_;simp only[go_sem,bT,eF,iR,mz,mA,mB,kq,Pr.eY,aP])|simp only[go_sem,bT,eF,iR,mz,mA,mB,kq,Pr.eY,aP]))
      refine⟨by omega,?_⟩
      (refine E.bB [some 0,some 1] ?_;simp only[go_sem])
      (repeat (first| (refine E.ac ?_;simp only[go_sem,aP])|simp only[go_sem,aP]))
      exact⟨⟨c+1,eo,dz++ [⟨f,I.ab⟩],by omega,by omega,du,by rw[List.length_append];rfl,rfl⟩,by omega⟩
     ·have kq:decide (f < I.ab)=false:=decide_eq_false nS;rw[hX] at du;simp only[nS,if_false] at du;simp only[go_sem,my,nh]
      (repeat (first| (refine E.ac ?_;show eG _ _ _ _ _ _;simp only[go_sem,bT,eF,iR,mz,mA,mB,kq,Pr.eY,aP])|simp only[go_sem,bT,eF,iR,mz,mA,mB,kq,Pr.eY,aP]))
      (refine E.bB [some 0,some 1] ?_;simp only[go_sem])
      refine E.ac ⟨⟨c+1,eo,dz,by omega,by omega,du,rfl,rfl⟩,?_⟩;simp only[go_sem];omega
   ·have eF:decide ((gm:Int) < b.length)=false:=decide_eq_false (by omega);have zg:gm=b.length:=by omega
    rw[zg,List.drop_length,hS] at hX
    by_cases nS:f < I.ab
    ·have kq:decide (f < I.ab)=true:=decide_eq_true nS;rw[hX] at du;simp only[nS,if_true] at du;simp only[go_sem,my,nh]
     (repeat (first| (refine E.ac ?_;simp only[go_sem,bT,eF,kq,Pr.eY,aP])|simp only[go_sem,bT,eF,kq,Pr.eY,aP]))
     refine⟨by omega,?_⟩
     (refine E.bB [some 0,some 1] ?_;simp only[go_sem])
     (repeat (first| (refine E.ac ?_;simp only[go_sem,aP])|simp only[go_sem,aP]))
     exact⟨⟨c+1,eo,dz++ [⟨f,I.ab⟩],by omega,by omega,du,by rw[List.length_append];rfl,rfl⟩,by omega⟩
    ·have kq:decide (f < I.ab)=false:=decide_eq_false nS;rw[hX] at du;simp only[nS,if_false] at du;simp only[go_sem,my,nh]
     (repeat (first| (refine E.ac ?_;show eG _ _ _ _ _ _;simp only[go_sem,bT,eF,kq,Pr.eY,aP])|simp only[go_sem,bT,eF,kq,Pr.eY,aP]))
     (refine E.bB [some 0,some 1] ?_;simp only[go_sem])
     refine E.ac ⟨⟨c+1,eo,dz,by omega,by omega,du,rfl,rfl⟩,?_⟩;simp only[go_sem];omega
 ·have q1:decide ((eo:Int) < b.length)=false:=decide_eq_false (by omega);have hne:eo=b.length:=by omega
  have EN:oA I.R (b.drop eo)=b.drop eo:=by rw[hne,List.drop_length];rfl
  ·rw[EN] at cA;simp only[go_sem,my,nh]
   (repeat (first| (refine E.ac ?_;simp only[go_sem,bT,q1])|simp only[go_sem,bT,q1]))
   unfold Ax at du;rw[cA] at du;have hG:=SU (a:=a.drop (c+1)) (b:=b.drop eo) (acc:=if (hS I.ab I.R (b.drop eo) acc).2 < I.ab then (hS I.ab I.R (b.drop eo) acc).1++ [⟨(hS I.ab I.R (b.drop eo) acc).2,I.ab⟩] else (hS I.ab I.R (b.drop eo) acc).1);rw[←du] at hG;have SV: (hS I.ab I.R (b.drop eo) acc).1.length≤1000000000:=by
    split at hG
    ·rw[List.length_append] at hG;omega
    ·omega
   refine hv (fun D r=> ∃ (gm:Nat) (f:Int) (dz:List Pr.bx),eo≤gm∧gm≤b.length∧hS I.ab I.R (b.drop eo) acc=hS I.ab f (b.drop gm) dz∧D= [(1,.own 0 b.length 0 b.length),(5,.own 1 dz.length 0 dz.length),(6,.int .i64 eo),(8,.bd 2 1 0 0),(9,.int .i64 f),(10,.int .i64 gm),(11,.pure 2 (ai a)),(12,.int .i64 a.length),(13,.int .i64 c)]∧r= [.ag 64 2 (ai b),.ag 64 2 (ai dz),.ag 64 2 [[.int .i64 I.R,.int .i64 I.ab]]])
    (fun D _=>match bs D 10 with| .int _ j=>(b.length-j).toNat|_=>0) ?_ ?_
   ·exact E.ac ⟨eo,I.R,acc,by omega,by omega,rfl,rfl,rfl⟩
   rintro D r ⟨gm,f,dz,azj,azk,hX,rfl,rfl⟩;have tt:dz.length≤1000000000:=by
    have g1:=MS (t:=I.ab) (f:=f) (b:=b.drop gm) (acc:=dz);rw[←hX] at g1;omega
   have ik:=dB (c:=gm) (by omega)
   by_cases sm:gm < b.length
   ·have eF:decide ((gm:Int) < b.length)=true:=decide_eq_true (by omega);have mz: (0:Int)≤gm:=by omega
    have mA: (gm:Int) < b.length:=by omega
    have mB: (ai b).getD gm []=aJ.J b[gm]:=cT sm;rw[acj sm] at hX;generalize b[gm]=o at *
    by_cases nu:o.R < I.ab
    ·rw[if_pos nu] at hX;have iR:decide (o.R < I.ab)=true:=decide_eq_true nu
     by_cases iH:f < o.R
     ·have pW:decide (f < o.R)=true:=decide_eq_true iH;rw[if_pos iH] at hX;simp only[go_sem,my,nh]
      (repeat (first| (refine E.ac ?_;simp only[go_sem,bT,eF,iR,pW,mz,mA,mB,Pr.eY,ik])|simp only[go_sem,bT,eF,iR,pW,mz,mA,mB,Pr.eY,ik]))
      refine⟨by omega,?_⟩
      (refine E.bB [some 0,some 1,some 2] ?_;simp only[go_sem])
      (repeat (first| (refine E.ac ?_;simp only[go_sem,bT,eF,iR,pW,mz,mA,mB,Pr.eY,ik])|simp only[go_sem,bT,eF,iR,pW,mz,mA,mB,Pr.eY,ik]))
      exact⟨⟨gm+1,max f o.ab,dz++ [⟨f,o.R⟩],by omega,by omega,hX,by rw[List.length_append];rfl,rfl⟩,by omega⟩
     ·have pW:decide (f < o.R)=false:=decide_eq_false iH;rw[if_neg iH] at hX;simp only[go_sem,my,nh]
      (repeat (first| (refine E.ac ?_;simp only[go_sem,bT,eF,iR,pW,mz,mA,mB,Pr.eY,ik])|simp only[go_sem,bT,eF,iR,pW,mz,mA,mB,Pr.eY,ik]))
      exact⟨⟨gm+1,max f o.ab,dz,by omega,by omega,hX,rfl,rfl⟩,by omega⟩
    ·rw[if_neg nu] at hX;have iR:decide (o.R < I.ab)=false:=decide_eq_false nu
     by_cases nS:f < I.ab
     ·have kq:decide (f < I.ab)=true:=decide_eq_true nS;rw[hX] at du;simp only[nS,if_true] at du;simp only[go_sem,my,nh]
      (repeat (first| (refine E.ac ?_;simp only[go_sem,bT,eF,iR,mz,mA,mB,kq,Pr.eY,aP])|simp only[go_sem,bT,eF,iR,mz,mA,mB,kq,Pr.eY,aP]))
      refine⟨by omega,?_⟩
      (refine E.bB [some 0,some 1] ?_;simp only[go_sem])
      (repeat (first| (refine E.ac ?_;simp only[go_sem,aP])|simp only[go_sem,aP]))
      exact⟨⟨c+1,eo,dz++ [⟨f,I.ab⟩],by omega,by omega,du,by rw[List.length_append];rfl,rfl⟩,by omega⟩
     ·have kq:decide (f < I.ab)=false:=decide_eq_false nS;rw[hX] at du;simp only[nS,if_false] at du;simp only[go_sem,my,nh]
      (repeat (first| (refine E.ac ?_;show eG _ _ _ _ _ _;simp only[go_sem,bT,eF,iR,mz,mA,mB,kq,Pr.eY,aP])|simp only[go_sem,bT,eF,iR,mz,mA,mB,kq,Pr.eY,aP]))
      (refine E.bB [some 0,some 1] ?_;simp only[go_sem])
      refine E.ac ⟨⟨c+1,eo,dz,by omega,by omega,du,rfl,rfl⟩,?_⟩;simp only[go_sem];omega
   ·have eF:decide ((gm:Int) < b.length)=false:=decide_eq_false (by omega);have zg:gm=b.length:=by omega
    rw[zg,List.drop_length,hS] at hX
    by_cases nS:f < I.ab
    ·have kq:decide (f < I.ab)=true:=decide_eq_true nS;rw[hX] at du;simp only[nS,if_true] at du;simp only[go_sem,my,nh]
     (repeat (first| (refine E.ac ?_;simp only[go_sem,bT,eF,kq,Pr.eY,aP])|simp only[go_sem,bT,eF,kq,Pr.eY,aP]))
     refine⟨by omega,?_⟩
     (refine E.bB [some 0,some 1] ?_;simp only[go_sem])
     (repeat (first| (refine E.ac ?_;simp only[go_sem,aP])|simp only[go_sem,aP]))
     exact⟨⟨c+1,eo,dz++ [⟨f,I.ab⟩],by omega,by omega,du,by rw[List.length_append];rfl,rfl⟩,by omega⟩
    ·have kq:decide (f < I.ab)=false:=decide_eq_false nS;rw[hX] at du;simp only[nS,if_false] at du;simp only[go_sem,my,nh]
     (repeat (first| (refine E.ac ?_;show eG _ _ _ _ _ _;simp only[go_sem,bT,eF,kq,Pr.eY,aP])|simp only[go_sem,bT,eF,kq,Pr.eY,aP]))
     (refine E.bB [some 0,some 1] ?_;simp only[go_sem])
     refine E.ac ⟨⟨c+1,eo,dz,by omega,by omega,du,rfl,rfl⟩,?_⟩;simp only[go_sem];omega
def nR (x d:Pr.bx):Prop:=x.ab≤d.R∨d.ab≤x.R
theorem rI {e t:Int}{b:Pr.bx}{z:List Pr.bx}:Pr.dd e t (b::z)=true↔(e≤b.R∧b.R < b.ab∧b.ab≤t)∧Pr.dd b.ab t z=true:=by
 rw[Pr.dd,Bool.and_eq_true,Pr.hR,decide_eq_true_eq]
theorem wG {t:Int}: ∀ {l:List Pr.bx} {e:Int},Pr.dd e t l=true→ ∀ x∈l,e≤x.R∧x.R < x.ab∧x.ab≤t
 | [],_,_,x,aj=>by cases aj
 |b::z,e,h,x,aj=>by
  rw[rI] at h;rcases List.mem_cons.1 aj with rfl|aj
  ·exact h.1
  ·have:=wG h.2 x aj;omega
theorem SO {t:Int}: ∀ {l:List Pr.bx} {e:Int},Pr.dd e t l=true→e≤t→e+l.length≤t
 | [],e,_,h=>by simpa using h
 |b::z,e,h,he=>by
  rw[rI] at h;have:=SO h.2 (by omega);rw[List.length_cons];omega
theorem yz {t:Int}: ∀ {l m:List Pr.bx} {e g:Int},Pr.dd e t l=true→(∀ x∈l,x.ab≤g)→e≤g→Pr.dd g t m=true→Pr.dd e t (l++m)=true
 | [],m,e,g,_,_,he,h=>by
  cases m with
  |nil=>rfl
  |cons b z=>rw[rI] at h;rw[List.nil_append,rI];exact⟨⟨by omega,h.1.2⟩,h.2⟩
 |b::z,m,e,g,h,hl,he,hm=>by
  rw[rI] at h;rw[List.cons_append,rI];exact⟨h.1,yz h.2 (fun x aj=>hl x (List.mem_cons_of_mem _ aj)) (hl b List.mem_cons_self) hm⟩
theorem acd {e t tC:Int}(ht:t≤tC): ∀ {l:List Pr.bx} {e:Int},Pr.dd e t l=true→Pr.dd e tC l=true
 | [],_,_=>rfl
 |b::z,e,h=>by
  rw[rI] at h ⊢;exact⟨⟨h.1.1,h.1.2.1,by omega⟩,acd (e:=e) ht h.2⟩
theorem ace {t aW:Int}: ∀ {b:List Pr.bx} {f e:Int} {acc:List Pr.bx},Pr.dd e aW b=true→
 ∃ aF,(hS t f b acc).1=acc++aF∧Pr.dd f t aF=true∧f≤(hS t f b acc).2∧(∀ x∈aF,x.ab≤(hS t f b acc).2∧ ∀ o∈b,nR x o)∧ ∀ o∈b,o.ab≤(hS t f b acc).2∨t≤o.R
 | [],f,e,acc,_=>⟨[],by simp[hS],rfl,Int.le_refl _,by simp,by simp⟩
 |o::os,f,e,acc,h=>by
  rw[rI] at h;unfold hS
  by_cases bp:o.R < t
  ·rw[if_pos bp];obtain⟨aF,h1,G,au,bv,cx⟩:=ace (t:=t) (f:=max f o.ab) (acc:=if f < o.R then acc++ [⟨f,o.R⟩] else acc) h.2;generalize hS t (max f o.ab) os (if f < o.R then acc++ [⟨f,o.R⟩] else acc)=p at *;have ayQ:=wG h.2;have nJ:=wG G;have hB: ∀ x∈aF,x.ab≤p.2∧ ∀ q∈o::os,nR x q:=fun x aj=>⟨(bv x aj).1,fun q aV=>by
    rcases List.mem_cons.1 aV with rfl|aV
    ·have:=nJ x aj;unfold nR;omega
    ·exact (bv x aj).2 q aV⟩
   have jE: ∀ q∈o::os,q.ab≤p.2∨t≤q.R:=fun q aV=>by
    rcases List.mem_cons.1 aV with rfl|aV
    ·left;omega
    ·exact cx q aV
   by_cases hf:f < o.R
   ·rw[if_pos hf] at h1;refine⟨⟨f,o.R⟩::aF,by rw[h1,List.append_assoc];rfl,?_,by omega,fun x aj=> ?_,jE⟩
    ·rw[rI];refine⟨⟨Int.le_refl _,hf,by show o.R≤t;omega⟩,?_⟩;exact yz (l:= []) (g:=max f o.ab) rfl (by simp) (by show o.R≤max f o.ab;omega) G
    ·rcases List.mem_cons.1 aj with rfl|aj
     ·refine⟨by show o.R≤p.2;omega,fun q aV=> ?_⟩;unfold nR;rcases List.mem_cons.1 aV with rfl|aV
      ·left;exact Int.le_refl _
      ·have:=ayQ q aV
       left;simp only;omega
     ·exact hB x aj
   ·rw[if_neg hf] at h1;refine⟨aF,h1,yz (l:= []) (g:=max f o.ab) rfl (by simp) (by omega) G,by omega,hB,jE⟩
  ·rw[if_neg bp];refine⟨[],by simp,rfl,Int.le_refl _,by simp,fun q aV=> ?_⟩
   right
   rcases List.mem_cons.1 aV with rfl|aV
   ·omega
   ·have:=wG h.2 q aV;omega
theorem SP {aW f:Int}: ∀ {b:List Pr.bx} {e:Int},Pr.dd e aW b=true→(∃ cO,Pr.dd cO aW (oA f b)=true)∧ ∀ o∈b,o∈oA f b∨o.ab≤f
 | [],_,_=>⟨⟨0,rfl⟩,by simp⟩
 |o::os,e,h=>by
  have cR:=h;rw[rI] at h;unfold oA;split
  ·obtain⟨h1,G⟩:=SP (f:=f) h.2;refine⟨h1,fun q aV=> ?_⟩;rcases List.mem_cons.1 aV with rfl|aV
   ·right;assumption
   ·exact G q aV
  ·exact⟨⟨e,cR⟩,fun q aV=> .inl aV⟩
theorem ayR {aW e:Int}{I:Pr.bx}(ao:I.R < I.ab){b acc:List Pr.bx}(af:Pr.dd e aW b=true):
 ∃ aF,Ax I b acc=acc++aF∧Pr.dd I.R I.ab aF=true∧ ∀ x∈aF,∀ o∈b,nR x o:=by
 obtain⟨⟨cO,he⟩,O⟩:=SP (f:=I.R) af;obtain⟨aF,h1,G,au,bv,cx⟩:=ace (t:=I.ab) (f:=I.R) (acc:=acc) he;unfold Ax;generalize hS I.ab I.R (oA I.R b) acc=p at *;have dc:=wG G;have k: ∀ x∈aF,∀ o∈b,nR x o:=fun x aj o bp=>by
  rcases O o bp with h|h
  ·exact (bv x aj).2 o h
  ·have:=dc x aj;unfold nR;omega
 by_cases hf:p.2 < I.ab
 ·rw[if_pos hf];refine⟨aF++ [⟨p.2,I.ab⟩],by rw[h1,List.append_assoc],yz G (fun x aj=>(bv x aj).1) au (by rw[rI];exact⟨⟨Int.le_refl _,hf,Int.le_refl _⟩,rfl⟩),fun x aj o bp=> ?_⟩;rcases List.mem_append.1 aj with aj|aj
  ·exact k x aj o bp
  ·rw[List.mem_singleton] at aj;subst aj;unfold nR;simp only;rcases O o bp with h|h
   ·have:=cx o h;omega
   ·omega
 ·rw[if_neg hf];exact⟨aF,h1,G,k⟩
theorem acf {aW:Int}: ∀ {a b acc:List Pr.bx} {e g:Int},Pr.dd e aW a=true→Pr.dd g aW b=true→
 ∃ aF,pm a b acc=acc++aF∧Pr.dd e aW aF=true∧ ∀ x∈aF,∀ o∈b,nR x o
 | [],b,acc,e,g,_,_=>⟨[],by simp[pm],rfl,by simp⟩
 |I::a,b,acc,e,g,aC,af=>by
  rw[rI] at aC;obtain⟨ayS,h1,G,au⟩:=ayR (acc:=acc) aC.1.2.1 af;obtain⟨⟨zX,aw⟩,O⟩:=SP (f:=I.R) af;obtain⟨ayT,bO,cd,fk⟩:=acf (acc:=Ax I b acc) aC.2 aw;unfold pm;refine⟨ayS++ayT,by rw[bO,h1,List.append_assoc],?_,fun x aj o bp=> ?_⟩
  ·exact yz (l:= []) (g:=I.R) rfl (by simp) aC.1.1 (yz (g:=I.ab) (acd (e:=I.R) aC.1.2.2 G) (fun x aj=>(wG G x aj).2.2) (by omega) cd)
  ·rcases List.mem_append.1 aj with aj|aj
   ·exact au x aj o bp
   ·rcases O o bp with h|h
    ·exact fk x aj o h
    ·have:=wG cd x aj;unfold nR;omega
end Go.Proofs.YtpincjkjoeopkaaGreatDoor
