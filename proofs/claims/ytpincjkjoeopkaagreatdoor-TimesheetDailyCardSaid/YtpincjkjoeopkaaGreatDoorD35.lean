/- Time evaluation. -/
import Derived.Test.YtpincjkjoeopkaaGreatDoorD30
import Derived.Test.YtpincjkjoeopkaaGreatDoorD19
import Derived.Test.YtpincjkjoeopkaaGreatDoorD34
set_option linter.all false
namespace Go.Proofs.YtpincjkjoeopkaaGreatDoor
open Go Go.Abs Go.Proofs.Tryz
theorem ZO: ∀ {l:List Pr.dF} {e:Int},Pr.io e l=true→0≤e→ ∀ p∈l,0≤p.R∧p.R < p.ab∧p.ab≤120968640∧p.ey.length≤1024∧Pr.dd p.R p.ab p.ey=true
 | [],_,_,_,p,ak=>by simp at ak
 |x::z,e,h,he,p,ak=>by
  simp only[Pr.io,Pr.tL,Pr.hR,Bool.and_eq_true,decide_eq_true_eq] at h;rcases List.mem_cons.1 ak with rfl|ak
  ·exact⟨by omega,by omega,by omega,h.1.1.2,h.1.2⟩
  ·exact ZO h.2 (by omega) p ak
theorem ZP {r t:List Z}(h: ∀ (z:Nat) (bG:Z),r[z]? =some bG→jc (r.length+t.length) bG=true)(ht: ∀ bG∈t,jc (r.length+t.length) bG=true):jP (r++t):=by
 intro z bG N;rw[List.length_append];rw[List.getElem?_append] at N;split at N
 ·exact h z bG N
 ·exact ht _ (List.mem_of_getElem? N)
theorem ZQ {n:Nat}{a b J:Int}{ds:List eX}:jc n (.be (.map true [.int .i64,.int .i64] (dy (.agg [.int .i64 a,.int .i64 b]) (.int .i64 J) (fZ 0 ds))))=true:=by
 have key: ∀ (el:List (F×F)),nG n el=true→nG n (dy (.agg [.int .i64 a,.int .i64 b]) (.int .i64 J) el)=true:=by
  intro el
  induction el with
  |nil=>intro _;rfl
  |cons x el ih=>
   intro h;obtain⟨k,v⟩:=x;have cR: (dt n k&&dt n v&&nG n el)=true:=h;simp only[Bool.and_eq_true] at cR;rw[dy];split
   ·show (dt n (.agg [.int .i64 a,.int .i64 b])&&dt n (.int .i64 J)&&nG n el)=true;rw[cR.2];rfl
   ·show (dt n k&&dt n v&&nG n _)=true;rw[cR.1.1,cR.1.2,ih cR.2];rfl
 exact key _ ZL
def Ct (M:cc)(ae:List cw)(e l:Int)(p:Pr.dF):Int:=bel p.R e l (ae.map (fW M))
def L9 (M:cc)(ae:List cw)(e l:Int)(p:Pr.dF):Int:=if 0≤Ct M ae e l p then (ae.map cw.ah).getD (Ct M ae e l p).toNat 0 else mm M p.R
def mY (M:cc)(ae:List cw)(e l:Int)(aa:List Pr.dF):List eX:=aa.foldl (fun ds p=>fI (Ct M ae e l p) (L9 M ae e l p) p ds) []
theorem RF {M:cc}{ae:List cw}{e l:Int}{aa:List Pr.dF}{c:Nat}(h:c < aa.length):mY M ae e l (aa.take (c+1))=fI (Ct M ae e l aa[c]) (L9 M ae e l aa[c]) aa[c] (mY M ae e l (aa.take c)):=by
 unfold mY;rw[List.take_succ_eq_append_getElem h,List.foldl_append];rfl
theorem ZR {a b:Int}{p:Pr.dF}: ∀ {ds:List eX},(fI a b p ds).length≤ds.length+1
 | []=>Nat.le_refl _
 |B::t=>by
  have:=ZR (a:=a) (b:=b) (p:=p) (ds:=t);unfold fI;split
  ·simp
  ·simpa using this
theorem ZS {a b:Int}{p:Pr.dF}{n:Nat}: ∀ {ds:List eX},(∀ B∈ds,B.aa.length≤n)→ ∀ B∈fI a b p ds,B.aa.length≤n+1
 | [],_,B,ay=>by rw[fI,List.mem_singleton] at ay;subst ay;simp
 |x::t,h,B,ay=>by
  unfold fI at ay;split at ay
  ·rcases List.mem_cons.1 ay with rfl|ay
   ·have:=h x List.mem_cons_self;simp only[List.length_append,List.length_singleton];omega
   ·have:=h B (List.mem_cons_of_mem _ ay);omega
  ·rcases List.mem_cons.1 ay with rfl|ay
   ·have:=h B List.mem_cons_self;omega
   ·exact ZS (fun y bt=>h y (List.mem_cons_of_mem _ bt)) B ay
theorem H0 {M:cc}{ae:List cw}{e l:Int}{aa:List Pr.dF}: ∀ {c:Nat},c≤aa.length→(mY M ae e l (aa.take c)).length≤c∧ ∀ B∈mY M ae e l (aa.take c),B.aa.length≤c
 |0,_=>by simp[mY]
 |c+1,h=>by
  obtain⟨h1,G⟩:=H0 (M:=M) (ae:=ae) (e:=e) (l:=l) (aa:=aa) (c:=c) (by omega);rw[RF (by omega)];exact⟨Nat.le_trans ZR (by omega),ZS G⟩
set_option maxHeartbeats 4000000 in
theorem avW (M:cc)(ae:List cw)(gy:jd M ae=0)(aa:List Pr.dF)(kk:Pr.lx aa=0)(e l:Int)(he:0≤e∧e≤1440)(hl:0≤l∧l≤1440):
 aO prog 69 [M.v,.pure 3 (ai ae),.pure 3 (ai aa),.int .i64 e,.int .i64 l] [] (fun v rs=>v= .bo [.pure 3 (ai (mY M ae e l aa)),.int .i64 0]∧rs= []):=by
 have avo:=YM gy;have aJL:=aun gy;have du:=LH M ae (by omega);have H1:aa.length≤1024∧Pr.io 0 aa=true:=by
  unfold Pr.lx at kk;split at kk
  ·cases kk
  ·split at kk
   ·exact⟨by omega,by assumption⟩
   ·cases kk
 have hV:=Pr.lQ aa (by omega);rw[kk] at hV;refine hJ func69 ZT (by simp[E3,H2]) ?_;unfold cc.v at *;simp only[go_sem,E3,H2]
 (refine E.ac ?_;simp only[go_sem])
 refine om [] [] (by simp) rfl (qw _ (by first|rfl|simp only[go_sem,ck])) du ?_;intro v rs an;unfold zV at an;rw[if_pos gy] at an;obtain⟨rfl,rfl⟩:=an;refine⟨.inl rfl,?_⟩;simp only[go_sem];generalize kU:ae.map (fW M)=vs at *;have xx:vs.length=ae.length:=by rw[←kU,List.length_map]
 have LI: ∀ v∈vs,0≤v.R∧v.R≤120968640:=fun v an=>by
  rw[←kU] at an;obtain⟨I,ao,rfl⟩:=List.mem_map.1 an;have:=QN (QP gy I ao);omega
 have nL: ∀ r0:Z,bW [r0,.ag 64 2 (ai vs)] [some 0] [1] (.own 1 ae.length 0 ae.length)= .pure 2 (ai vs):=fun r0=>qx rfl rfl rfl (by rw[bT,xx]) ck;refine E.jN [some 0] [1] rfl rfl (by simp only[go_sem]<;>rfl) ?_;simp only[List.map_cons,List.map_nil,nL,tv (.pure 3 (ai ae)) (by simp only[bJ,ck]),tv (.pure 3 (ai aa)) (by simp only[bJ,ck])];have bF:decide (e < 0)=false:=decide_eq_false (by omega);have bK:decide (1440 < e)=false:=decide_eq_false (by omega);have gX:decide (l < 0)=false:=decide_eq_false (by omega);have rt:decide (1440 < l)=false:=decide_eq_false (by omega);simp only[go_sem]
 (repeat (first| (refine E.ac ?_;simp only[go_sem,bF,bK,gX,rt])|simp only[go_sem,bF,bK,gX,rt]))
 refine bM hV (by simp only[bU,bJ,ck,Bool.and_self]) rfl ?_
 (repeat (first| (refine E.ac ?_;simp only[go_sem,bT])|simp only[go_sem,bT]))
 refine hv (fun D r=> ∃ (c:Nat) (X:Nat→Nat),c≤aa.length∧D= [(1,.pure 3 (ai ae)),(3,.int .i64 e),(4,.int .i64 l),(5,.bd 0 1 0 0),(12,.pure 2 (ai vs)),(15,.bE 1),(16,.own 2 (mY M ae e l (aa.take c)).length 0 (mY M ae e l (aa.take c)).length),(51,.pure 3 (ai aa)),(52,.int .i64 aa.length),(53,.int .i64 c)]∧Cs r M (mY M ae e l (aa.take c)) X)
  (fun D _=>match bs D 53 with| .int _ j=>(aa.length-j).toNat|_=>0) ?_ ?_
 ·(refine E.iv 16 157 3 rfl (E.eW [1,3,4,5,12,15,16,51,52,53] ?_);simp only[go_sem])
  refine E.ac ⟨0,fun _=>0,by omega,rfl,⟨?_,rfl,rfl,rfl,fun c h=>absurd h (by simp[mY]),fun c j h=>absurd h (by simp[mY])⟩⟩;intro z bG N
  match z,N with
  |0,N=>cases N;exact kA (by simp only[dY,bU,bJ,ck,Bool.and_self,Bool.and_true])
  |1,N=>cases N;rfl
  |2,N=>cases N;rfl
  |z+3,N=>simp at N
 rintro D r ⟨c,X,av,rfl,eZ⟩;have aP:=dB (c:=c) (by omega)
 by_cases aI:c < aa.length
 rotate_left
 ·have h1:decide ((c:Int) < aa.length)=false:=decide_eq_false (by omega);obtain rfl:c=aa.length:=by omega
  rw[List.take_length] at *;simp only[go_sem,E3,H2]
  (repeat (first| (refine E.ac ?_;simp only[go_sem,h1])|simp only[go_sem,h1]))
  have jK:=(H0 (M:=M) (ae:=ae) (e:=e) (l:=l) (aa:=aa) (c:=aa.length) (Nat.le_refl _)).1;rw[List.take_length] at jK;generalize mY M ae e l aa=ds at *;have ay:=eZ.B;have hf:lJ r [some 2] (List.range r.length) (gq X ds)=ai ds:=avV eZ;have RG:eC r (List.range r.length) [some 2] [some 2]=some [.ag 157 3 (ai ds)]:=by simp only[eC,ay,hr,hf]
  refine E.jN [some 2] (List.range r.length) rfl rfl RG ?_;have lZ:bW r [some 2] (List.range r.length) (.own 2 ds.length 0 ds.length)= .own 0 ds.length 0 ds.length:=by simp[bW,hE]
  simp only[go_sem];have nL:bW [.ag 157 3 (ai ds)] [] [0] (.bo [.own 0 ds.length 0 ds.length,.int .i64 0])= .bo [.pure 3 (ai ds),.int .i64 0]:=by
   have:bW [.ag 157 3 (ai ds)] [] [0] (.own 0 ds.length 0 ds.length)= .pure 3 (ai ds):=qx rfl rfl rfl (by rw[bT]) ck;rw[bW];simp only[dT,this];rfl
  refine E.jN [] [0] rfl rfl (by simp only[go_sem]<;>rfl) ?_;have nF:List.take ds.length (ai ds)=ai ds:=List.take_of_length_le (by rw[bT];exact Nat.le_refl _);simp only[go_sem,nL,bT,ck,nF];exact E.ac ⟨rfl,rfl⟩
 have h1:decide ((c:Int) < aa.length)=true:=decide_eq_true (by omega);have tM: (0:Int)≤c:=by omega
 have tN: (c:Int) < aa.length:=by omega
 have nM: (ai aa).getD c []=aJ.J aa[c]:=cT aI;have dV:=RF (M:=M) (ae:=ae) (e:=e) (l:=l) aI;obtain⟨uv,rX⟩:=H0 (M:=M) (ae:=ae) (e:=e) (l:=l) (aa:=aa) (c:=c) av;have hC:=ZO H1.2 (by omega) aa[c] (List.getElem_mem aI);have uB:Ct M ae e l aa[c]=bel aa[c].R e l vs:=by unfold Ct;rw[kU]
 have avX:L9 M ae e l aa[c]=if 0≤bel aa[c].R e l vs then (ae.map cw.ah).getD (bel aa[c].R e l vs).toNat 0 else mm M aa[c].R:=by unfold L9;rw[uB]
 have RH:=YP aa[c].R e l vs;rw[uB,avX] at dV;generalize ak:aa[c]=p at *;generalize Af:mY M ae e l (aa.take c)=ds at *;have ba:=eZ.M;have hm:=eZ.m;have ay:=eZ.B;simp only[go_sem,E3,H2]
 (repeat (first| (refine E.ac ?_;simp only[go_sem,h1,tM,tN,nM,bT,Pr.H3,dH,dO,ee,ec,List.append_assoc])|simp only[go_sem,h1,tM,tN,nM,bT,Pr.H3,dH,dO,ee,ec,List.append_assoc]))
 refine bM (auq vs (by omega) LI p.R e l (by omega) he) rfl rfl ?_;generalize bel p.R e l vs=bP at *
 by_cases oK:0≤bP
 ·rw[if_pos oK] at dV;have lo:decide (0≤bP)=true:=decide_eq_true oK;have vX:bP < ae.length:=by omega
  have gs: (ai ae).getD bP.toNat []=aJ.J (ae[bP.toNat]'(by omega)):=cT (by omega);have avY: (ae.map cw.ah).getD bP.toNat 0=(ae[bP.toNat]'(by omega)).ah:=by
   rw[List.getD_eq_getElem?_getD,List.getElem?_map,List.getElem?_eq_getElem (by omega)];rfl
  rw[avY] at dV
  (repeat (first| (refine E.ac ?_;simp only[go_sem,dH,dO,ee,ec,List.append_assoc,List.length_append,lo,oK,vX,gs,uZ,bT])|simp only[go_sem,dH,dO,ee,ec,List.append_assoc,List.length_append,lo,oK,vX,gs,uZ,bT]))
  generalize (ae[bP.toNat]'(by omega)).ah=ah at dV ⊢;have avZ:=RA bP ah ds
  by_cases gi:cM bP ah ds < ds.length
  ·have hw:dm (.agg [.int .i64 bP,.int .i64 ah]) (fZ 0 ds)=some (.int .i64 (cM bP ah ds:Int)):=by
    rw[HZ,if_pos gi,Nat.zero_add]
   (repeat (first| (refine E.ac ?_;simp only[go_sem,dH,dO,ee,ec,List.append_assoc,List.length_append,bQ ba,bQ hm,bQ ay,hw])|simp only[go_sem,dH,dO,ee,ec,List.append_assoc,List.length_append,bQ ba,bQ hm,bQ ay,hw]))
   refine bM (Ma p.ey (by omega)) (by simp only[bU,bJ,ck,Bool.and_self]) rfl ?_;have yr: (gq X ds).getD (cM bP ah ds) []= [.int .i64 (ds[cM bP ah ds]).bP,.int .i64 (ds[cM bP ah ds]).ah,.own (X (cM bP ah ds)) (ds[cM bP ah ds]).aa.length 0 (ds[cM bP ah ds]).aa.length]:=by
    rw[List.getD_eq_getElem?_getD,L6 gi];rfl
   have aj:=eZ.x _ gi;have mZ: ((cM bP ah ds:Nat):Int) < ds.length:=by omega
   have iN: (0:Int)≤((cM bP ah ds:Nat):Int):=by omega
   (repeat (first| (refine E.ac ?_;simp only[go_sem,dH,dO,ee,ec,List.append_assoc,List.length_append,bQ ba,bQ hm,bQ ay,bQ aj,yr,kC,iN,mZ,Int.toNat_natCast])|simp only[go_sem,dH,dO,ee,ec,List.append_assoc,List.length_append,bQ ba,bQ hm,bQ ay,bQ aj,yr,kC,iN,mZ,Int.toNat_natCast]))
   have L2:=km ay;have hne: (2==r.length+2)=false:=beq_false_of_ne (by omega);rw[hne];refine⟨trivial,by have:=rX _ (List.getElem_mem gi);omega,?_⟩;have RI:X (cM bP ah ds)≠0:=fun e=>by rw[e,ba] at aj;simp at aj
   have RJ:X (cM bP ah ds)≠1:=fun e=>by rw[e,hm] at aj;cases aj
   have H4:X (cM bP ah ds)≠2:=fun e=>by rw[e,ay] at aj;simp at aj
   simp only[tF aj];have sB: (r.set (X (cM bP ah ds)) (.ag 88 3 (ai (ds[cM bP ah ds].aa++ [⟨p.R,p.ab,p.ey⟩]))))[0]? =some (.ag 32 2 [[.int .i64 M.off,.pure 2 (ai M.cS)]]):=by rw[List.getElem?_set,if_neg RI];exact ba
   have ov: (r.set (X (cM bP ah ds)) (.ag 88 3 (ai (ds[cM bP ah ds].aa++ [⟨p.R,p.ab,p.ey⟩]))))[1]? =some (.be (.map true [.int .i64,.int .i64] (fZ 0 ds))):=by rw[List.getElem?_set,if_neg RJ];exact hm
   have qH: (r.set (X (cM bP ah ds)) (.ag 88 3 (ai (ds[cM bP ah ds].aa++ [⟨p.R,p.ab,p.ey⟩]))))[2]? =some (.ag 157 3 (gq X ds)):=by rw[List.getElem?_set,if_neg H4];exact ay
   have nJ: (r.set (X (cM bP ah ds)) (.ag 88 3 (ai (ds[cM bP ah ds].aa++ [⟨p.R,p.ab,p.ey⟩])))).length=r.length:=List.length_set;generalize dc:r.set (X (cM bP ah ds)) (.ag 88 3 (ai (ds[cM bP ah ds].aa++ [⟨p.R,p.ab,p.ey⟩])))=aF at *;simp only[←nJ]
   (repeat (first| (refine E.ac ?_;simp only[go_sem,dH,dO,ee,ec,List.append_assoc,List.length_append,bQ sB,bQ ov,bQ qH,yr,kC,iN,mZ,Int.toNat_natCast,aP])|simp only[go_sem,dH,dO,ee,ec,List.append_assoc,List.length_append,bQ sB,bQ ov,bQ qH,yr,kC,iN,mZ,Int.toNat_natCast,aP]))
   refine⟨⟨c+1,X,by omega,by rw[dV,vc gi,List.length_set],?_⟩,by omega⟩;rw[dV,tF qH];have Cu:=(sA eZ gi).2.2.2;have RK: ∀ j,j < ds.length→X j < aF.length:=fun j aX=>by rw[nJ];exact (sA eZ aX).2.2.2
   refine ZM eZ gi ?_ (fun z bG N G aV=> ?_) ?_ ?_
   ·have RL:jP aF:=by rw[←dc];exact Co eZ.all (kA ck)
    refine EV (Co RL ?_) ?_
    ·have e: ((gq X ds).set (cM bP ah ds) [.int .i64 (ds[cM bP ah ds]).bP,.int .i64 (ds[cM bP ah ds]).ah,.own (X (cM bP ah ds)) ((ds[cM bP ah ds]).aa.length+1) 0 ((ds[cM bP ah ds]).aa.length+1)])=gq X (fI bP ah p ds):=by
      rw[vc gi,RB];unfold qG;simp
     rw[e];refine L8 fun j aX=> ?_;rw[vc gi,List.length_set] at aX;exact RK j aX
    ·intro bG hrow;simp only[fR] at hrow;rcases hrow with rfl|rfl|rfl
     ·exact kA (by simp only[dY,bU,bJ,ck,Bool.and_self,Bool.and_true])
     ·exact kA (by simp only[dY,bU,bJ,Bool.and_self,Bool.and_true])
     ·exact kA (by simp only[dY,bU,bJ,ck,Bool.and_self,Bool.and_true])
   ·refine bQ ?_;rw[List.getElem?_set,if_neg (fun e=>G e.symm),←dc,List.getElem?_set,if_neg (fun e=>aV e.symm)];exact N
   ·refine bQ ?_;rw[List.getElem?_set,if_pos rfl,if_pos (by omega)];unfold qG;simp
   ·refine bQ ?_;rw[List.getElem?_set,if_neg (fun e=>H4 e.symm),←dc,List.getElem?_set,if_pos rfl,if_pos Cu]
  ·have hw:dm (.agg [.int .i64 bP,.int .i64 ah]) (fZ 0 ds)=none:=by
    rw[HZ,if_neg gi]
   have Cv:cM bP ah ds=ds.length:=by omega
   (repeat (first| (refine E.ac ?_;simp only[go_sem,dH,dO,ee,ec,List.append_assoc,List.length_append,bQ ba,bQ hm,bQ ay,hw])|simp only[go_sem,dH,dO,ee,ec,List.append_assoc,List.length_append,bQ ba,bQ hm,bQ ay,hw]))
   have L2:=km ay;simp only[tF hm];have sB: (r.set 1 (.be (.map true [.int .i64,.int .i64] (dy (.agg [.int .i64 bP,.int .i64 ah]) (.int .i64 (ds.length:Int)) (fZ 0 ds)))))[0]? =some (.ag 32 2 [[.int .i64 M.off,.pure 2 (ai M.cS)]]):=by rw[List.getElem?_set,if_neg (by omega)];exact ba
   have ov: (r.set 1 (.be (.map true [.int .i64,.int .i64] (dy (.agg [.int .i64 bP,.int .i64 ah]) (.int .i64 (ds.length:Int)) (fZ 0 ds)))))[1]? =some (.be (.map true [.int .i64,.int .i64] (dy (.agg [.int .i64 bP,.int .i64 ah]) (.int .i64 (ds.length:Int)) (fZ 0 ds)))):=by rw[List.getElem?_set,if_pos rfl,if_pos (by omega)]
   have qH: (r.set 1 (.be (.map true [.int .i64,.int .i64] (dy (.agg [.int .i64 bP,.int .i64 ah]) (.int .i64 (ds.length:Int)) (fZ 0 ds)))))[2]? =some (.ag 157 3 (gq X ds)):=by rw[List.getElem?_set,if_neg (by omega)];exact ay
   have nJ: (r.set 1 (.be (.map true [.int .i64,.int .i64] (dy (.agg [.int .i64 bP,.int .i64 ah]) (.int .i64 (ds.length:Int)) (fZ 0 ds))))).length=r.length:=List.length_set;generalize dc:r.set 1 (.be (.map true [.int .i64,.int .i64] (dy (.agg [.int .i64 bP,.int .i64 ah]) (.int .i64 (ds.length:Int)) (fZ 0 ds))))=aF at *;simp only[←nJ]
   (repeat (first| (refine E.ac ?_;simp only[go_sem,dH,dO,ee,ec,List.append_assoc,List.length_append,bQ sB,bQ ov,bQ qH,kC])|simp only[go_sem,dH,dO,ee,ec,List.append_assoc,List.length_append,bQ sB,bQ ov,bQ qH,kC]))
   refine⟨by omega,?_⟩;simp only[tF qH];obtain⟨cs,fS⟩: ∃ cs,cs=gq X ds++ [[.int .i64 bP,.int .i64 ah,.bH]]:=⟨_,rfl⟩;have yt:cs.length=ds.length+1:=by rw[fS,List.length_append,kC];rfl
   have tO:cs.getD ds.length []= [.int .i64 bP,.int .i64 ah,.bH]:=by rw[fS,List.getD_eq_getElem?_getD,List.getElem?_append_right (by rw[kC];exact Nat.le_refl _),kC,Nat.sub_self];rfl
   have H5: ∀ y,cs.set ds.length y=gq X ds++ [y]:=fun y=>by rw[fS,List.set_append_right _ _ (by rw[kC];exact Nat.le_refl _),kC,Nat.sub_self];rfl
   rw[←fS];have yu: (aF.set 2 (.ag 157 3 cs))[0]? =some (.ag 32 2 [[.int .i64 M.off,.pure 2 (ai M.cS)]]):=by rw[List.getElem?_set,if_neg (by omega)];exact sB
   have vd: (aF.set 2 (.ag 157 3 cs))[2]? =some (.ag 157 3 cs):=by rw[List.getElem?_set,if_pos rfl,if_pos (by omega)]
   have sC: (aF.set 2 (.ag 157 3 cs))[1]? =aF[1]? :=by rw[List.getElem?_set,if_neg (by omega)]
   rw[ov] at sC;have Ag: (aF.set 2 (.ag 157 3 cs)).length=aF.length:=List.length_set;generalize du:aF.set 2 (.ag 157 3 cs)=S at *;simp only[←Ag];have mZ: (ds.length:Int) < ((ds.length+1:Nat):Int):=by omega
   have iN: (0:Int)≤(ds.length:Int):=by omega
   (repeat (first| (refine E.ac ?_;simp only[go_sem,dH,dO,ee,ec,List.append_assoc,List.length_append,bQ yu,bQ sC,bQ vd,tO,yt,iN,mZ])|simp only[go_sem,dH,dO,ee,ec,List.append_assoc,List.length_append,bQ yu,bQ sC,bQ vd,tO,yt,iN,mZ]))
   refine bM (Ma p.ey (by omega)) (by simp only[bU,bJ,ck,Bool.and_self]) rfl ?_
   (repeat (first| (refine E.ac ?_;simp only[go_sem,dH,dO,ee,ec,List.append_assoc,List.length_append,bQ yu,bQ sC,bQ vd,tO,yt,H5,iN,mZ,Int.toNat_natCast,aP])|simp only[go_sem,dH,dO,ee,ec,List.append_assoc,List.length_append,bQ yu,bQ sC,bQ vd,tO,yt,H5,iN,mZ,Int.toNat_natCast,aP]))
   have hne: (2==S.length+3)=false:=beq_false_of_ne (by omega);rw[hne];refine⟨trivial,?_⟩;rw[tF vd]
   (repeat (first| (refine E.ac ?_;simp only[go_sem,aP])|simp only[go_sem,aP]))
   obtain⟨ly,yp⟩:=ZN (W:=S.set 2 (.ag 157 3 (gq X ds++ [[.int .i64 bP,.int .i64 ah,.own (S.length+4) 1 0 1]]))++ [.ag 88 3 [[.int .i64 p.R,.int .i64 p.ab,.pure 2 (ai p.ey)]],.ag 280 2 [[.int .i64 bP,.int .i64 ah]],.ag 157 3 [[.int .i64 bP,.int .i64 ah,.bH]],.ag 88 3 [[.int .i64 p.R,.int .i64 p.ab,.pure 2 (ai p.ey)]],.ag 88 3 [[.int .i64 p.R,.int .i64 p.ab,.pure 2 (ai p.ey)]]]) (p:=p) eZ Cv (S.length+4) (by omega) (by
    refine ZP (fun z bG N=> ?_) ?_
    ·rw[List.getElem?_set] at N;split at N
     ·split at N
      ·cases N;have e:gq X ds++ [[.int .i64 bP,.int .i64 ah,.own (S.length+4) 1 0 1]]=gq (fun c=>if c < ds.length then X c else S.length+4) (ds++ [⟨bP,ah,[p]⟩]):=by
        rw[RD];congr 1
        ·exact RE fun c av=>by rw[if_pos av]
        ·unfold qG;simp
       rw[e];refine L8 fun c av=> ?_;rw[List.length_append,List.length_singleton] at av;simp only[List.length_set,List.length_cons,List.length_nil];split
       ·have:=(sA eZ (by assumption)).2.2.2;omega
       ·omega
      ·cases N
     ·rename_i G;rw[←du,List.getElem?_set,if_neg G,←dc,List.getElem?_set] at N;split at N
      ·split at N
       ·cases N;exact ZQ
       ·cases N
      ·exact Qx (by rw[List.length_set];omega) (eZ.all z bG N)
    ·intro bG hrow;simp only[fR] at hrow;rcases hrow with rfl|rfl|rfl|rfl|rfl
     all_goals exact kA (by simp only[dY,bU,bJ,ck,Bool.and_self,Bool.and_true])) (fun z bG N h1 G=>by
    refine bQ ?_;rw[List.getElem?_set,if_neg (fun e=>G e.symm),←du,List.getElem?_set,if_neg (fun e=>G e.symm),←dc,List.getElem?_set,if_neg (fun e=>h1 e.symm)];exact N) (by
    refine bQ ?_;rw[List.getElem?_set,if_neg (by omega)];exact sC) (by
    refine bQ ?_;rw[List.getElem?_set,if_pos rfl,if_pos (by omega)]) (by
    rw[List.getElem?_append_right (by rw[List.length_set];omega),List.length_set,Nat.add_sub_cancel_left];rfl)
   exact⟨⟨c+1,ly,by omega,by rw[dV,E2 Cv,List.length_append];rfl,by rw[dV];exact yp⟩,by omega⟩
 ·rw[if_neg oK] at dV;have lo:decide (0≤bP)=false:=decide_eq_false oK;have awa:ot M p.R=0:=by unfold ot;rw[if_neg (by omega),if_neg (by omega)]
  have fC:=YA M p.R;rw[awa,if_pos rfl] at fC;unfold cc.v at fC
  (repeat (first| (refine E.ac ?_;simp only[go_sem,dH,dO,ee,ec,List.append_assoc,List.length_append,lo,oK,bQ ba])|simp only[go_sem,dH,dO,ee,ec,List.append_assoc,List.length_append,lo,oK,bQ ba]))
  refine bM fC (by simp only[bU,bJ,ck,Bool.and_self,Bool.and_true]) rfl ?_;generalize mm M p.R=ah at dV ⊢
  (repeat (first| (refine E.ac ?_;simp only[go_sem,dH,dO,ee,ec,List.append_assoc,List.length_append,lo,oK,bQ ba])|simp only[go_sem,dH,dO,ee,ec,List.append_assoc,List.length_append,lo,oK,bQ ba]))
  have avZ:=RA bP ah ds
  by_cases gi:cM bP ah ds < ds.length
  ·have hw:dm (.agg [.int .i64 bP,.int .i64 ah]) (fZ 0 ds)=some (.int .i64 (cM bP ah ds:Int)):=by
    rw[HZ,if_pos gi,Nat.zero_add]
   (repeat (first| (refine E.ac ?_;simp only[go_sem,dH,dO,ee,ec,List.append_assoc,List.length_append,bQ ba,bQ hm,bQ ay,hw])|simp only[go_sem,dH,dO,ee,ec,List.append_assoc,List.length_append,bQ ba,bQ hm,bQ ay,hw]))
   refine bM (Ma p.ey (by omega)) (by simp only[bU,bJ,ck,Bool.and_self]) rfl ?_;have yr: (gq X ds).getD (cM bP ah ds) []= [.int .i64 (ds[cM bP ah ds]).bP,.int .i64 (ds[cM bP ah ds]).ah,.own (X (cM bP ah ds)) (ds[cM bP ah ds]).aa.length 0 (ds[cM bP ah ds]).aa.length]:=by
    rw[List.getD_eq_getElem?_getD,L6 gi];rfl
   have aj:=eZ.x _ gi;have mZ: ((cM bP ah ds:Nat):Int) < ds.length:=by omega
   have iN: (0:Int)≤((cM bP ah ds:Nat):Int):=by omega
   (repeat (first| (refine E.ac ?_;simp only[go_sem,dH,dO,ee,ec,List.append_assoc,List.length_append,bQ ba,bQ hm,bQ ay,bQ aj,yr,kC,iN,mZ,Int.toNat_natCast])|simp only[go_sem,dH,dO,ee,ec,List.append_assoc,List.length_append,bQ ba,bQ hm,bQ ay,bQ aj,yr,kC,iN,mZ,Int.toNat_natCast]))
   have L2:=km ay;have hne: (2==r.length+2)=false:=beq_false_of_ne (by omega);rw[hne];refine⟨trivial,by have:=rX _ (List.getElem_mem gi);omega,?_⟩;have RI:X (cM bP ah ds)≠0:=fun e=>by rw[e,ba] at aj;simp at aj
   have RJ:X (cM bP ah ds)≠1:=fun e=>by rw[e,hm] at aj;cases aj
   have H4:X (cM bP ah ds)≠2:=fun e=>by rw[e,ay] at aj;simp at aj
   simp only[tF aj];have sB: (r.set (X (cM bP ah ds)) (.ag 88 3 (ai (ds[cM bP ah ds].aa++ [⟨p.R,p.ab,p.ey⟩]))))[0]? =some (.ag 32 2 [[.int .i64 M.off,.pure 2 (ai M.cS)]]):=by rw[List.getElem?_set,if_neg RI];exact ba
   have ov: (r.set (X (cM bP ah ds)) (.ag 88 3 (ai (ds[cM bP ah ds].aa++ [⟨p.R,p.ab,p.ey⟩]))))[1]? =some (.be (.map true [.int .i64,.int .i64] (fZ 0 ds))):=by rw[List.getElem?_set,if_neg RJ];exact hm
   have qH: (r.set (X (cM bP ah ds)) (.ag 88 3 (ai (ds[cM bP ah ds].aa++ [⟨p.R,p.ab,p.ey⟩]))))[2]? =some (.ag 157 3 (gq X ds)):=by rw[List.getElem?_set,if_neg H4];exact ay
   have nJ: (r.set (X (cM bP ah ds)) (.ag 88 3 (ai (ds[cM bP ah ds].aa++ [⟨p.R,p.ab,p.ey⟩])))).length=r.length:=List.length_set;generalize dc:r.set (X (cM bP ah ds)) (.ag 88 3 (ai (ds[cM bP ah ds].aa++ [⟨p.R,p.ab,p.ey⟩])))=aF at *;simp only[←nJ]
   (repeat (first| (refine E.ac ?_;simp only[go_sem,dH,dO,ee,ec,List.append_assoc,List.length_append,bQ sB,bQ ov,bQ qH,yr,kC,iN,mZ,Int.toNat_natCast,aP])|simp only[go_sem,dH,dO,ee,ec,List.append_assoc,List.length_append,bQ sB,bQ ov,bQ qH,yr,kC,iN,mZ,Int.toNat_natCast,aP]))
   refine⟨⟨c+1,X,by omega,by rw[dV,vc gi,List.length_set],?_⟩,by omega⟩;rw[dV,tF qH];have Cu:=(sA eZ gi).2.2.2;have RK: ∀ j,j < ds.length→X j < aF.length:=fun j aX=>by rw[nJ];exact (sA eZ aX).2.2.2
   refine ZM eZ gi ?_ (fun z bG N G aV=> ?_) ?_ ?_
   ·have RL:jP aF:=by rw[←dc];exact Co eZ.all (kA ck)
    refine EV (Co RL ?_) ?_
    ·have e: ((gq X ds).set (cM bP ah ds) [.int .i64 (ds[cM bP ah ds]).bP,.int .i64 (ds[cM bP ah ds]).ah,.own (X (cM bP ah ds)) ((ds[cM bP ah ds]).aa.length+1) 0 ((ds[cM bP ah ds]).aa.length+1)])=gq X (fI bP ah p ds):=by
      rw[vc gi,RB];unfold qG;simp
     rw[e];refine L8 fun j aX=> ?_;rw[vc gi,List.length_set] at aX;exact RK j aX
    ·intro bG hrow;simp only[fR] at hrow;rcases hrow with rfl|rfl|rfl
     ·exact kA (by simp only[dY,bU,bJ,ck,Bool.and_self,Bool.and_true])
     ·exact kA (by simp only[dY,bU,bJ,Bool.and_self,Bool.and_true])
     ·exact kA (by simp only[dY,bU,bJ,ck,Bool.and_self,Bool.and_true])
   ·refine bQ ?_;rw[List.getElem?_set,if_neg (fun e=>G e.symm),←dc,List.getElem?_set,if_neg (fun e=>aV e.symm)];exact N
   ·refine bQ ?_;rw[List.getElem?_set,if_pos rfl,if_pos (by omega)];unfold qG;simp
   ·refine bQ ?_;rw[List.getElem?_set,if_neg (fun e=>H4 e.symm),←dc,List.getElem?_set,if_pos rfl,if_pos Cu]
  ·have hw:dm (.agg [.int .i64 bP,.int .i64 ah]) (fZ 0 ds)=none:=by
    rw[HZ,if_neg gi]
   have Cv:cM bP ah ds=ds.length:=by omega
   (repeat (first| (refine E.ac ?_;simp only[go_sem,dH,dO,ee,ec,List.append_assoc,List.length_append,bQ ba,bQ hm,bQ ay,hw])|simp only[go_sem,dH,dO,ee,ec,List.append_assoc,List.length_append,bQ ba,bQ hm,bQ ay,hw]))
   have L2:=km ay;simp only[tF hm];have sB: (r.set 1 (.be (.map true [.int .i64,.int .i64] (dy (.agg [.int .i64 bP,.int .i64 ah]) (.int .i64 (ds.length:Int)) (fZ 0 ds)))))[0]? =some (.ag 32 2 [[.int .i64 M.off,.pure 2 (ai M.cS)]]):=by rw[List.getElem?_set,if_neg (by omega)];exact ba
   have ov: (r.set 1 (.be (.map true [.int .i64,.int .i64] (dy (.agg [.int .i64 bP,.int .i64 ah]) (.int .i64 (ds.length:Int)) (fZ 0 ds)))))[1]? =some (.be (.map true [.int .i64,.int .i64] (dy (.agg [.int .i64 bP,.int .i64 ah]) (.int .i64 (ds.length:Int)) (fZ 0 ds)))):=by rw[List.getElem?_set,if_pos rfl,if_pos (by omega)]
   have qH: (r.set 1 (.be (.map true [.int .i64,.int .i64] (dy (.agg [.int .i64 bP,.int .i64 ah]) (.int .i64 (ds.length:Int)) (fZ 0 ds)))))[2]? =some (.ag 157 3 (gq X ds)):=by rw[List.getElem?_set,if_neg (by omega)];exact ay
   have nJ: (r.set 1 (.be (.map true [.int .i64,.int .i64] (dy (.agg [.int .i64 bP,.int .i64 ah]) (.int .i64 (ds.length:Int)) (fZ 0 ds))))).length=r.length:=List.length_set;generalize dc:r.set 1 (.be (.map true [.int .i64,.int .i64] (dy (.agg [.int .i64 bP,.int .i64 ah]) (.int .i64 (ds.length:Int)) (fZ 0 ds))))=aF at *;simp only[←nJ]
   (repeat (first| (refine E.ac ?_;simp only[go_sem,dH,dO,ee,ec,List.append_assoc,List.length_append,bQ sB,bQ ov,bQ qH,kC])|simp only[go_sem,dH,dO,ee,ec,List.append_assoc,List.length_append,bQ sB,bQ ov,bQ qH,kC]))
   refine⟨by omega,?_⟩;simp only[tF qH];obtain⟨cs,fS⟩: ∃ cs,cs=gq X ds++ [[.int .i64 bP,.int .i64 ah,.bH]]:=⟨_,rfl⟩;have yt:cs.length=ds.length+1:=by rw[fS,List.length_append,kC];rfl
   have tO:cs.getD ds.length []= [.int .i64 bP,.int .i64 ah,.bH]:=by rw[fS,List.getD_eq_getElem?_getD,List.getElem?_append_right (by rw[kC];exact Nat.le_refl _),kC,Nat.sub_self];rfl
   have H5: ∀ y,cs.set ds.length y=gq X ds++ [y]:=fun y=>by rw[fS,List.set_append_right _ _ (by rw[kC];exact Nat.le_refl _),kC,Nat.sub_self];rfl
   rw[←fS];have yu: (aF.set 2 (.ag 157 3 cs))[0]? =some (.ag 32 2 [[.int .i64 M.off,.pure 2 (ai M.cS)]]):=by rw[List.getElem?_set,if_neg (by omega)];exact sB
   have vd: (aF.set 2 (.ag 157 3 cs))[2]? =some (.ag 157 3 cs):=by rw[List.getElem?_set,if_pos rfl,if_pos (by omega)]
   have sC: (aF.set 2 (.ag 157 3 cs))[1]? =aF[1]? :=by rw[List.getElem?_set,if_neg (by omega)]
   rw[ov] at sC;have Ag: (aF.set 2 (.ag 157 3 cs)).length=aF.length:=List.length_set;generalize du:aF.set 2 (.ag 157 3 cs)=S at *;simp only[←Ag];have mZ: (ds.length:Int) < ((ds.length+1:Nat):Int):=by omega
   have iN: (0:Int)≤(ds.length:Int):=by omega
   (repeat (first| (refine E.ac ?_;simp only[go_sem,dH,dO,ee,ec,List.append_assoc,List.length_append,bQ yu,bQ sC,bQ vd,tO,yt,iN,mZ])|simp only[go_sem,dH,dO,ee,ec,List.append_assoc,List.length_append,bQ yu,bQ sC,bQ vd,tO,yt,iN,mZ]))
   refine bM (Ma p.ey (by omega)) (by simp only[bU,bJ,ck,Bool.and_self]) rfl ?_
   (repeat (first| (refine E.ac ?_;simp only[go_sem,dH,dO,ee,ec,List.append_assoc,List.length_append,bQ yu,bQ sC,bQ vd,tO,yt,H5,iN,mZ,Int.toNat_natCast,aP])|simp only[go_sem,dH,dO,ee,ec,List.append_assoc,List.length_append,bQ yu,bQ sC,bQ vd,tO,yt,H5,iN,mZ,Int.toNat_natCast,aP]))
   have hne: (2==S.length+3)=false:=beq_false_of_ne (by omega);rw[hne];refine⟨trivial,?_⟩;rw[tF vd]
   (repeat (first| (refine E.ac ?_;simp only[go_sem,aP])|simp only[go_sem,aP]))
   obtain⟨ly,yp⟩:=ZN (W:=S.set 2 (.ag 157 3 (gq X ds++ [[.int .i64 bP,.int .i64 ah,.own (S.length+4) 1 0 1]]))++ [.ag 88 3 [[.int .i64 p.R,.int .i64 p.ab,.pure 2 (ai p.ey)]],.ag 280 2 [[.int .i64 bP,.int .i64 ah]],.ag 157 3 [[.int .i64 bP,.int .i64 ah,.bH]],.ag 88 3 [[.int .i64 p.R,.int .i64 p.ab,.pure 2 (ai p.ey)]],.ag 88 3 [[.int .i64 p.R,.int .i64 p.ab,.pure 2 (ai p.ey)]]]) (p:=p) eZ Cv (S.length+4) (by omega) (by
    refine ZP (fun z bG N=> ?_) ?_
    ·rw[List.getElem?_set] at N;split at N
     ·split at N
      ·cases N;have e:gq X ds++ [[.int .i64 bP,.int .i64 ah,.own (S.length+4) 1 0 1]]=gq (fun c=>if c < ds.length then X c else S.length+4) (ds++ [⟨bP,ah,[p]⟩]):=by
        rw[RD];congr 1
        ·exact RE fun c av=>by rw[if_pos av]
        ·unfold qG;simp
       rw[e];refine L8 fun c av=> ?_;rw[List.length_append,List.length_singleton] at av;simp only[List.length_set,List.length_cons,List.length_nil];split
       ·have:=(sA eZ (by assumption)).2.2.2;omega
       ·omega
      ·cases N
     ·rename_i G;rw[←du,List.getElem?_set,if_neg G,←dc,List.getElem?_set] at N;split at N
      ·split at N
       ·cases N;exact ZQ
       ·cases N
      ·exact Qx (by rw[List.length_set];omega) (eZ.all z bG N)
    ·intro bG hrow;simp only[fR] at hrow;rcases hrow with rfl|rfl|rfl|rfl|rfl
     all_goals exact kA (by simp only[dY,bU,bJ,ck,Bool.and_self,Bool.and_true])) (fun z bG N h1 G=>by
    refine bQ ?_;rw[List.getElem?_set,if_neg (fun e=>G e.symm),←du,List.getElem?_set,if_neg (fun e=>G e.symm),←dc,List.getElem?_set,if_neg (fun e=>h1 e.symm)];exact N) (by
    refine bQ ?_;rw[List.getElem?_set,if_neg (by omega)];exact sC) (by
    refine bQ ?_;rw[List.getElem?_set,if_pos rfl,if_pos (by omega)]) (by
    rw[List.getElem?_append_right (by rw[List.length_set];omega),List.length_set,Nat.add_sub_cancel_left];rfl)
   exact⟨⟨c+1,ly,by omega,by rw[dV,E2 Cv,List.length_append];rfl,by rw[dV];exact yp⟩,by omega⟩
theorem awy {e cO:Int}(he:cO≤e): ∀ {l:List Pr.dF},Pr.io e l=true→Pr.io cO l=true
 | [],_=>rfl
 |p::z,h=>by
  simp only[Pr.io,Pr.tL,Pr.hR,Bool.and_eq_true,decide_eq_true_eq] at h ⊢;exact⟨⟨⟨⟨by omega,h.1.1.1.2⟩,h.1.1.2⟩,h.1.2⟩,h.2⟩
theorem R9: ∀ {l cb:List Pr.dF} {e:Int},cb.Sublist l→Pr.io e l=true→Pr.io e cb=true
 |_,_,_,.slnil,_=>rfl
 |_,_,e,.cons (a:=p) ao,h=>by
  have cR:=h;simp only[Pr.io,Pr.tL,Pr.hR,Bool.and_eq_true,decide_eq_true_eq] at cR;exact awy (e:=p.ab) (by omega) (R9 ao cR.2)
 |_,_,e,.cons_cons (a:=p) ao,h=>by
  simp only[Pr.io,Bool.and_eq_true] at h ⊢;exact⟨h.1,R9 ao h.2⟩
theorem awz {l cb:List Pr.dF}(ao:cb.Sublist l)(h:Pr.lx l=0):Pr.lx cb=0:=by
 have hl:=ao.length_le;have h1:l.length≤1024∧Pr.io 0 l=true:=by
  unfold Pr.lx at h;split at h
  ·cases h
  ·split at h
   ·exact⟨by omega,by assumption⟩
   ·cases h
 unfold Pr.lx;rw[if_neg (by omega),if_pos (R9 ao h1.2)]
theorem aai {a b:Int}{p:Pr.dF}{aY:List Pr.dF}{cs:Int}(aC:a < cs): ∀ {ds:List eX},(∀ B∈ds,B.aa.Sublist aY∧B.bP < cs)→ ∀ B∈fI a b p ds,B.aa.Sublist (aY++ [p])∧B.bP < cs
 | [],_,B,ay=>by
  rw[fI,List.mem_singleton] at ay;subst ay;exact⟨List.sublist_append_right aY [p],aC⟩
 |x::t,h,B,ay=>by
  have aj:=h x List.mem_cons_self;unfold fI at ay;split at ay
  ·rcases List.mem_cons.1 ay with rfl|ay
   ·exact⟨aj.1.append (List.Sublist.refl [p]),aj.2⟩
   ·have:=h B (List.mem_cons_of_mem _ ay);exact⟨this.1.trans (List.sublist_append_left aY [p]),this.2⟩
  ·rcases List.mem_cons.1 ay with rfl|ay
   ·exact⟨aj.1.trans (List.sublist_append_left aY [p]),aj.2⟩
   ·exact aai aC (fun y bt=>h y (List.mem_cons_of_mem _ bt)) B ay
theorem aaj {M:cc}{ae:List cw}{e l:Int}{aa:List Pr.dF}: ∀ {c:Nat},c≤aa.length→ ∀ B∈mY M ae e l (aa.take c),B.aa.Sublist (aa.take c)∧B.bP < ae.length
 |0,_,B,ay=>by simp[mY] at ay
 |c+1,h,B,ay=>by
  rw[RF (by omega)] at ay;rw[List.take_succ_eq_append_getElem (by omega)];refine aai ?_ (aaj (by omega)) B ay;have:=YP (aa[c]'(by omega)).R e l (ae.map (fW M));rw[List.length_map] at this;unfold Ct;omega
theorem awA {M:cc}{ae:List cw}{e l:Int}{aa:List Pr.dF}(h:Pr.lx aa=0): ∀ B∈mY M ae e l aa,Pr.lx B.aa=0∧B.bP < ae.length:=fun B ay=>by
 have:=aaj (M:=M) (ae:=ae) (e:=e) (l:=l) (aa:=aa) (c:=aa.length) (Nat.le_refl _) B (by rw[List.take_length];exact ay);rw[List.take_length] at this;exact⟨awz this.1 h,this.2⟩
theorem Sa: ∀ {dl:List Pr.lR} {k a m:Int} {w:List Pr.bx},Pr.lz a m dl=true→Pr.gz w→Pr.gz (Pr.pR dl k w)∧Pr.da (Pr.pR dl k w)≤Pr.da w
 | [],k,a,m,w,_,h=>⟨h,by simp[Pr.pR]⟩
 |b::dl,k,a,m,w,hb,h=>by
  simp only[Pr.lz,Bool.and_eq_true] at hb;rw[Pr.pR];split
  ·exact Sa hb.2 h
  ·obtain⟨J,B⟩:=Pr.Sb (l:=w) (z:= []) (a:=b.after) (k:=min (b.iP-k) (Pr.da w-b.after)) (by omega) h (by simp[Pr.gz]);obtain⟨e,f⟩:=Sa (k:=k+min (b.iP-k) (Pr.da w-b.after)) hb.2 J;simp only[Pr.da] at B;exact⟨e,by omega⟩
theorem awB {z:Pr.gK}{ae:Pr.bx}{aa:List Pr.dF}(h:Pr.qD z ae aa=0):Pr.gz (Pr.pb z ae aa)∧Pr.da (Pr.pb z ae aa)≤100000:=by
 obtain⟨h1,G,au,bv⟩:=Pr.Sc h;obtain⟨yn,kX,nK⟩:=Pr.LS h1;have tG:=Pr.LU au;obtain⟨fK,E8⟩:=Pr.Sd (z:= []) (Pr.Ig tG) (by omega) (Pr.Rf (Pr.HP (z:=z) (ae:=ae) (aa:=aa) (last:=0)) (by omega)) (by simp[Pr.gz]);unfold Pr.pb;simp only;split
 ·exact⟨by simp[Pr.gz],by simp[Pr.da]⟩
 ·obtain⟨J,B⟩:=Sa (k:=Pr.vg (Pr.mx (Pr.kB z ae 0 aa) (Pr.na aa) [])) kX fK;simp only[Pr.da] at E8;exact⟨J,by omega⟩
theorem awC {z:Pr.gK}{ae:Pr.bx}{aa:List Pr.dF}(h:Pr.qD z ae aa=0):Pr.dd 0 120968640 (Pr.pb z ae aa)=true∧(Pr.pb z ae aa).length≤100000:=by
 obtain⟨h1,G,au,bv⟩:=Pr.Sc h;obtain⟨yn,kX,nK⟩:=Pr.LS h1;obtain⟨av,ht⟩:=awB h;obtain⟨⟨el,ju⟩,_⟩:=Pr.awD (z:=z) (ae:=ae) (aa:=aa) kX (Pr.LU au);have hl:=Pr.nO av;refine⟨Se (fun x aj=> ?_) (ju.Sf.imp fun h=>by omega),by omega⟩;have:=av x aj;have:=ju.xR x aj;omega
end Go.Proofs.YtpincjkjoeopkaaGreatDoor
