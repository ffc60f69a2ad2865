/- Time evaluation. -/
import Derived.Test.YtpincjkjoeopkaaGreatDoorW23
set_option linter.all false
namespace Go.Proofs.YtpincjkjoeopkaaGreatDoor
open Go Go.Abs Go.Proofs.Tryz
structure aLe (r:List Z) (M:cc) (ds:List eX) (X:Nat→Nat):Prop where
 all:jP r
 M:r[0]? =some (.ag 32 2 [[.int .i64 M.off,.pure 2 (ai M.cS)]])
 B:r[1]? =some (.ag 157 3 (gq X ds))
 x: ∀ c (h:c < ds.length),r[X c]? =some (.ag 88 3 (ai ds[c].aa))
 inj: ∀ c j,c < ds.length→j < ds.length→X c=X j→c=j
theorem aK1 {r:List Z}{M:cc}{ds:List eX}{X:Nat→Nat}(h:aLe r M ds X){c:Nat}(av:c < ds.length):X c≠0∧X c≠1∧X c < r.length:=by
 have aj:=h.x c av;refine⟨fun e=> ?_,fun e=> ?_,km aj⟩
 ·rw[e,h.M] at aj;simp at aj
 ·rw[e,h.B] at aj;simp at aj
theorem aOj {r W:List Z}{M:cc}{ds:List eX}{X:Nat→Nat}(h:aLe r M ds X){a b:Int}{p:Pr.dF}(ak:cM a b ds < ds.length)(hW:jP W)
 (bp: ∀ z bG,r[z]? =some bG→z≠1→z≠X (cM a b ds)→W[z]? =some bG)
 (G:W[1]? =some (.ag 157 3 ((gq X ds).set (cM a b ds) (qG X (cM a b ds) ⟨ds[cM a b ds].bP,ds[cM a b ds].ah,ds[cM a b ds].aa++ [p]⟩))))
 (aV:W[X (cM a b ds)]? =some (.ag 88 3 (ai (ds[cM a b ds].aa++ [p])))):aLe W M (fI a b p ds) X:=by
 obtain⟨bb,n1,_⟩:=aK1 h ak;have hl: (fI a b p ds).length=ds.length:=by rw[vc ak,List.length_set]
 refine⟨hW,bp _ _ h.M (by omega) (fun e=>bb e.symm),by rw[vc ak,RB];exact G,fun c av=> ?_,fun c j av hj=>h.inj c j (by omega) (by omega)⟩;rw[hl] at av;simp only[vc ak,List.getElem_set]
 by_cases e:cM a b ds=c
 ·subst e;rw[if_pos rfl];exact aV
 ·rw[if_neg e];exact bp _ _ (h.x c av) (aK1 h av).2.1 fun bK=>e (h.inj _ _ ak av bK.symm)
theorem aOk {r W:List Z}{M:cc}{ds:List eX}{X:Nat→Nat}(h:aLe r M ds X){a b:Int}{p:Pr.dF}(ak:cM a b ds=ds.length)(q:Nat)(avU:r.length≤q)(hW:jP W)
 (bp: ∀ z bG,r[z]? =some bG→z≠1→W[z]? =some bG)
 (G:W[1]? =some (.ag 157 3 (gq X ds++ [[.int .i64 a,.int .i64 b,.own q 1 0 1]])))
 (aV:W[q]? =some (.ag 88 3 (ai [p]))): ∃ ly,aLe W M (fI a b p ds) ly:=by
 refine⟨fun c=>if c < ds.length then X c else q,?_⟩;rw[E2 ak];refine⟨hW,bp _ _ h.M (by omega),?_,fun c av=> ?_,fun c j av hj=> ?_⟩
 ·rw[RD,G];congr 3
  ·exact RE fun c av=>by rw[if_pos av]
  ·unfold qG;simp
 ·rw[List.length_append,List.length_singleton] at av
  by_cases e:c < ds.length
  ·simp only[if_pos e,List.getElem_append_left e];exact bp _ _ (h.x c e) (aK1 h e).2.1
  ·obtain rfl:c=ds.length:=by omega
   simp only[Nat.lt_irrefl,if_false,List.getElem_append_right (Nat.le_refl _),Nat.sub_self,List.getElem_cons_zero];exact aV
 ·rw[List.length_append,List.length_singleton] at av hj
  by_cases e:c < ds.length<;>by_cases f:j < ds.length
  ·simp only[if_pos e,if_pos f];exact h.inj c j e f
  ·simp only[if_pos e,if_neg f];intro g;have:=(aK1 h e).2.2;omega
  ·simp only[if_neg e,if_pos f];intro g;have:=(aK1 h f).2.2;omega
  ·intro _;omega
theorem aOl {r:List Z}{M:cc}{ds:List eX}{X:Nat→Nat}(h:aLe r M ds X):lJ r [some 1] (List.range r.length) (gq X ds)=ai ds:=by
 rw[KV];unfold ai;refine List.ext_getElem (by simp[gq]) fun j h1 G=> ?_;have hj:j < ds.length:=by simpa using G
 rw[List.getElem_map,List.getElem_map];have aw:=L6 (X:=X) hj;rw[List.getElem?_eq_getElem (by rw[kC];exact hj)] at aw;rw[Option.some.inj aw];obtain⟨_,eo,hl⟩:=aK1 h hj;unfold qG;have af:bW r [some 1] (List.range r.length) (.own (X j) ds[j].aa.length 0 ds[j].aa.length)= .pure 3 (ai ds[j].aa):=by
  refine qx ?_ ?_ (h.x j hj) (by rw[bT]) ck
  ·simp[hE,eo.symm]
  ·simp;exact hl
 simp only[dT,af];rfl
theorem aLA: ∀ (A di:List (Option Nat)) (z:Nat),hE (A++di) z=match hE A z with|some c=>some c|none=>(hE di z).map (·+A.length)
 | [],di,z=>by simp[hE]
 |none::A,di,z=>by
  rw[List.cons_append,hE,hE,aLA A di z];cases hE A z<;>cases hE di z<;>simp;omega
 |some I::A,di,z=>by
  rw[List.cons_append,hE,hE,aLA A di z];split
  ·rfl
  ·cases hE A z<;>cases hE di z<;>simp;omega
mutual
theorem aLf {r:List Z}{n:Nat}{ax:List (Option Nat)}{bn:List Nat}(H: ∀ z,z < n→hE ax z=some z): ∀ (a:F),dt n a=true→bW r ax bn a=a
 | .own z ..,h=>by simp only[dt,decide_eq_true_eq] at h;simp only[bW,H _ h]
 | .bd z ..,h=>by simp only[dt,decide_eq_true_eq] at h;simp only[bW,H _ h]
 | .agg ap,h=>by rw[dt] at h;rw[bW,aLB H ap h]
 | .bo ap,h=>by rw[dt] at h;rw[bW,aLB H ap h]
 | .fn _ ap,h=>by rw[dt] at h;rw[bW,aLB H ap h]
 | .bE _,h=>by simp only[dt,decide_eq_true_eq] at h;simp only[bW,H _ h]
 | .fO ..,h=>by simp only[dt,Bool.and_eq_true,decide_eq_true_eq] at h;simp only[bW,H _ h.1,H _ h.2]
 | .int ..,_=>rfl
 | .bool ..,_=>rfl
 | .str ..,_=>rfl
 | .bH,_=>rfl
 | .kt,_=>rfl
 | .kH,_=>rfl
 | .pure ..,_=>rfl
 | .en ..,_=>rfl
 | .cj,_=>rfl
theorem aLB {r:List Z}{n:Nat}{ax:List (Option Nat)}{bn:List Nat}(H: ∀ z,z < n→hE ax z=some z): ∀ (ap:List F),gx n ap=true→dT r ax bn ap=ap
 | [],_=>rfl
 |a::ap,h=>by
  simp only[gx,Bool.and_eq_true] at h;rw[dT,aLf H a h.1,aLB H ap h.2]
end
theorem aOm {r:List Z}{n:Nat}{ax:List (Option Nat)}{bn:List Nat}(H: ∀ z,z < n→hE ax z=some z){ar:List (List F)}(h:mj n ar=true):lJ r ax bn ar=ar:=by
 rw[KV]
 induction ar with
 |nil=>rfl
 |cons e ar ih=>
  simp only[mj,Bool.and_eq_true] at h;rw[List.map_cons,aLB H e h.1,ih h.2]
theorem aML {r:List Z}{n:Nat}{ax:List (Option Nat)}{bn:List Nat}(H: ∀ z,z < n→hE ax z=some z): ∀ {ar:List (F×F)},nG n ar=true→(ar.map fun p=>(bW r ax bn p.1,bW r ax bn p.2))=ar
 | [],_=>rfl
 |e::ar,h=>by
  simp only[nG,Bool.and_eq_true] at h;rw[List.map_cons,aLf H _ h.1.1,aLf H _ h.1.2,aML H h.2]
theorem aOn {r:List Z}{n:Nat}{ax:List (Option Nat)}{bn:List Nat}(H: ∀ z,z < n→hE ax z=some z): ∀ {z:Z},jc n z=true→hr r ax bn z=z
 | .fP,_=>rfl
 | .ag ..,h=>by rw[hr,aOm H h]
 | .be (.map ..),h=>by rw[hr,aML H h]
 | .be (.eh ..),_=>rfl
def aKN (n:Nat):List (Option Nat):=(List.range n++ [n+1]).map some
theorem aLC {n z:Nat}(h:z < n):hE (aKN n) z=some z:=by
 unfold aKN;rw[List.map_append,aLA,Hd h]
theorem aMM {n:Nat}:hE (aKN n) (n+1)=some n:=by
 unfold aKN;rw[List.map_append,aLA,List.range_eq_range',XW,if_neg (by omega)];simp[hE]
theorem aMN {n:Nat}:hE (aKN n) (n+2)=none:=by
 unfold aKN;rw[List.map_append,aLA,List.range_eq_range',XW,if_neg (by omega)];simp[hE]
theorem aMO {r t:List Z}{x:Z}{bn:List Nat}(h:jP r)(aj: (r++t)[r.length+1]? =some x): ∀ (k I:Nat),I+k=r.length→eC (r++t) bn (aKN r.length) ((List.range' I k).map some++ [some (r.length+1)])=some (r.drop I++ [hr (r++t) (aKN r.length) bn x])
 |0,I,e=>by rw[show I=r.length by omega];simp only[List.range'_zero,List.map_nil,List.nil_append,eC,aj,List.drop_length]
 |k+1,I,e=>by
  have ao:I < r.length:=by omega
  rw[List.range'_succ,List.map_cons,List.cons_append,eC,aMO h aj k (I+1) (by omega),List.getElem?_append_left ao,List.getElem?_eq_getElem ao];simp only;rw[aOn (fun z N=>aLC N) (h I _ (List.getElem?_eq_getElem ao)),List.drop_eq_getElem_cons ao];rfl
theorem aMP {bb:Nat}{K:aQ→List Z→Prop}{D:aQ}{r t:List Z}{x:Z}{bn:List Nat}(aH:bb≤r.length)(N:jP r)(aj: (r++t)[r.length+1]? =some x)
 (h:E bb K (D.map fun p=>(p.1,bW (r++t) (aKN r.length) bn p.2)) (r++ [hr (r++t) (aKN r.length) bn x])):E bb K D (r++t):=by
 have aw:eC (r++t) bn (aKN r.length) (aKN r.length)=some (r++ [hr (r++t) (aKN r.length) bn x]):=by
  have:=aMO (bn:=bn) N aj r.length 0 (by omega);rw[←List.range_eq_range'] at this;simpa[aKN] using this
 have O:keeps bb (aKN r.length):=by
  refine⟨by simp[aKN];omega,fun z N=> .inl ?_⟩;unfold aKN;rw[List.getElem?_map,List.getElem?_append_left (by simp;omega),List.getElem?_range (by omega)];rfl
 have ss: (List.range r.length++ [r.length+1]).Nodup:=by
  rw[List.nodup_append];refine⟨List.nodup_range,by simp,fun a aC b af=> ?_⟩;rw[List.mem_range] at aC;rw[List.mem_singleton] at af;omega
 exact E.oc (fv.ll (bb:=bb) (D:=D) (aKN r.length) bn (VS ss) O aw) h
theorem aMQ (a b:Int): ∀ {ds:List eX} {k:Nat} (h:k < ds.length),k≤cM a b ds→(HY a b ds[k]=true↔cM a b ds=k)
 |B::t,0,h,_=>by
  unfold cM;simp only[List.getElem_cons_zero];constructor
  ·intro h;rw[if_pos h]
  ·intro G;split at G
   ·assumption
   ·omega
 |B::t,k+1,h,h1=>by
  unfold cM at h1 ⊢;simp only[List.getElem_cons_succ];split at h1
  ·omega
  rename_i ay;rw[if_neg ay];have:=aMQ a b (ds:=t) (k:=k) (by simpa using h) (by omega);rw[this];omega
set_option maxHeartbeats 4000000 in
theorem aOo (M:cc)(ae:List cw)(gy:jd M ae=0)(aa:List Pr.dF)(kk:Pr.lx aa=0)(e l:Int)(he:0≤e∧e≤1440)(hl:0≤l∧l≤1440):
 aO prog 77 [M.v,.pure 3 (ai ae),.pure 3 (ai aa),.int .i64 e,.int .i64 l] [] (fun v rs=>v= .bo [.pure 3 (ai (mY M ae e l aa)),.int .i64 0]∧rs= []):=by
 have avo:=YM gy;have aJL:=aun gy;have du:=aMK M aJL ae (by omega);rw[gy] at du;have H1:aa.length≤1024∧Pr.io 0 aa=true:=by
  unfold Pr.lx at kk;split at kk
  ·cases kk
  ·split at kk
   ·exact⟨by omega,by assumption⟩
   ·cases kk
 have hV:=Pr.aLQ aa (by omega);rw[kk] at hV;refine hJ func77 azV (by simp[a77,aIR]) ?_;unfold cc.v at *;simp only[go_sem,a77,aIR]
 repeat (refine E.ac ?_;simp only[go_sem])
 refine bM du (by first|rfl|simp only[go_sem,ck]) rfl ?_;simp only[go_sem]
 repeat (refine E.ac ?_;simp only[go_sem])
 have bF:decide (e < 0)=false:=decide_eq_false (by omega);have bK:decide (1440 < e)=false:=decide_eq_false (by omega);have gX:decide (l < 0)=false:=decide_eq_false (by omega);have rt:decide (1440 < l)=false:=decide_eq_false (by omega)
 (repeat (first| (refine E.ac ?_;simp only[go_sem,bF,bK,gX,rt])|simp only[go_sem,bF,bK,gX,rt]))
 refine bM hV (by simp only[bU,bJ,ck,Bool.and_self]) rfl ?_
 (repeat (first| (refine E.ac ?_;simp only[go_sem,bT])|simp only[go_sem,bT]))
 refine hv (fun D r=> ∃ (c:Nat) (X:Nat→Nat),c≤aa.length∧D= [(1,.pure 3 (ai ae)),(2,.pure 3 (ai aa)),(3,.int .i64 e),(4,.int .i64 l),(5,.bd 0 1 0 0),(14,.own 1 (mY M ae e l (aa.take c)).length 0 (mY M ae e l (aa.take c)).length),(15,.int .i64 c)]∧aLe r M (mY M ae e l (aa.take c)) X)
  (fun D _=>match bs D 15 with| .int _ j=>(aa.length-j).toNat|_=>0) ?_ ?_
 ·(refine E.iv 14 157 3 rfl (E.eW [1,2,3,4,5,14,15] ?_);simp only[go_sem])
  refine E.ac ⟨0,fun _=>0,by omega,rfl,⟨?_,rfl,rfl,fun c h=>absurd h (by simp[mY]),fun c j h=>absurd h (by simp[mY])⟩⟩;intro z bG N
  match z,N with
  |0,N=>cases N;exact kA (by simp only[dY,bU,bJ,ck,Bool.and_self,Bool.and_true])
  |1,N=>cases N;rfl
  |z+2,N=>simp at N
 rintro D r ⟨c,X,av,rfl,eZ⟩;have aP:=dB (c:=c) (by omega)
 by_cases aI:c < aa.length
 rotate_left
 ·have h1:decide ((c:Int) < aa.length)=false:=decide_eq_false (by omega);obtain rfl:c=aa.length:=by omega
  rw[List.take_length] at *;simp only[go_sem,a77,aIR,bT]
  (repeat (first| (refine E.ac ?_;simp only[go_sem,h1,bT])|simp only[go_sem,h1,bT]))
  have jK:=(H0 (M:=M) (ae:=ae) (e:=e) (l:=l) (aa:=aa) (c:=aa.length) (Nat.le_refl _)).1;rw[List.take_length] at jK;generalize mY M ae e l aa=ds at *;have ay:=eZ.B;have hf:lJ r [some 1] (List.range r.length) (gq X ds)=ai ds:=aOl eZ;have RG:eC r (List.range r.length) [some 1] [some 1]=some [.ag 157 3 (ai ds)]:=by simp only[eC,ay,hr,hf]
  refine E.jN [some 1] (List.range r.length) rfl rfl RG ?_;have lZ:bW r [some 1] (List.range r.length) (.own 1 ds.length 0 ds.length)= .own 0 ds.length 0 ds.length:=by simp[bW,hE]
  simp only[go_sem];have nL:bW [.ag 157 3 (ai ds)] [] [0] (.bo [.own 0 ds.length 0 ds.length,.int .i64 0])= .bo [.pure 3 (ai ds),.int .i64 0]:=by
   have:bW [.ag 157 3 (ai ds)] [] [0] (.own 0 ds.length 0 ds.length)= .pure 3 (ai ds):=qx rfl rfl rfl (by rw[bT]) ck;rw[bW];simp only[dT,this];rfl
  refine E.jN [] [0] rfl rfl (by simp only[go_sem]<;>rfl) ?_;have nF:List.take ds.length (ai ds)=ai ds:=List.take_of_length_le (by rw[bT];exact Nat.le_refl _);simp only[go_sem,nL,bT,ck,nF];exact E.ac ⟨rfl,rfl⟩
 have h1:decide ((c:Int) < aa.length)=true:=decide_eq_true (by omega);have tM: (0:Int)≤c:=by omega
 have tN: (c:Int) < aa.length:=by omega
 have nM: (ai aa).getD c []=aJ.J aa[c]:=cT aI;have dV:=RF (M:=M) (ae:=ae) (e:=e) (l:=l) aI;obtain⟨uv,rX⟩:=H0 (M:=M) (ae:=ae) (e:=e) (l:=l) (aa:=aa) (c:=c) av;have hC:=ZO H1.2 (by omega) aa[c] (List.getElem_mem aI);have uB:Ct M ae e l aa[c]=bel aa[c].R e l (ae.map (fW M)):=rfl;have avX:L9 M ae e l aa[c]=if 0≤bel aa[c].R e l (ae.map (fW M)) then (ae.map cw.ah).getD (bel aa[c].R e l (ae.map (fW M))).toNat 0 else mm M aa[c].R:=rfl
 have RH:=YP aa[c].R e l (ae.map (fW M));rw[List.length_map] at RH;rw[uB,avX] at dV;have cU:=aOi M aJL ae avo (QP gy) aa[c].R e l (by omega) he hl;unfold cc.v at cU;generalize ak:aa[c]=p at *;generalize Af:mY M ae e l (aa.take c)=ds at *;have ba:=eZ.M;have ay:=eZ.B;simp only[go_sem,a77,aIR,bT]
 (repeat (first| (refine E.ac ?_;simp only[go_sem,h1,bT,dH,dO,ee,ec,List.append_assoc,bQ ba,ba])|simp only[go_sem,h1,bT,dH,dO,ee,ec,List.append_assoc,bQ ba,ba]))
 have HW:=km ay;have aOp: (0==r.length)=false:=beq_false_of_ne (by omega);rw[nM];refine⟨by omega,by omega,by rw[Pr.H3];exact Nat.succ_pos _,?_⟩;rw[aOp];refine⟨trivial,?_⟩;rw[show (aJ.J p).getD 0 F.cj= .int .i64 p.R from rfl];refine gG cU (by simp only[bU,bJ,ck,Bool.and_self,Bool.and_true]) rfl ?_
 (repeat (first| (refine E.ac ?_;simp only[go_sem,dH,dO,ee,ec,List.append_assoc,List.length_append,bQ ba])|simp only[go_sem,dH,dO,ee,ec,List.append_assoc,List.length_append,bQ ba]))
 generalize aPV:bel p.R e l (ae.map (fW M))=bP at *;generalize axJ: (if 0≤bP then (ae.map cw.ah).getD bP.toNat 0 else mm M p.R)=ah at *;refine arL (E 0 fun D ca=>bs D 1= .pure 3 (ai ae)∧bs D 2= .pure 3 (ai aa)∧bs D 3= .int .i64 e∧bs D 4= .int .i64 l∧bs D 5= .bd 0 1 0 0∧bs D 14= .own 1 ds.length 0 ds.length∧bs D 15= .int .i64 c∧bs D 16= .bd r.length 1 0 0∧ca=r++ [.ag 157 3 [[.int .i64 bP,.int .i64 ah,.bH]]]) ?_ ?_ ?_
 ·intro lo;simp only[bC] at lo;rw[if_pos lo] at axJ;have vX:bP < ae.length:=by omega
  have gs: (ai ae).getD bP.toNat []=aJ.J (ae[bP.toNat]'(by omega)):=cT (by omega);have avY: (ae.map cw.ah).getD bP.toNat 0=(ae[bP.toNat]'(by omega)).ah:=by
   rw[List.getD_eq_getElem?_getD,List.getElem?_map,List.getElem?_eq_getElem (by omega)];rfl
  rw[avY] at axJ;simp only[go_sem,dH,dO,ee,ec,List.append_assoc,List.length_append,gs,uZ,axJ];exact⟨lo,vX,E.ac ⟨rfl,rfl,rfl,rfl,rfl,rfl,rfl,rfl,rfl⟩⟩
 ·intro lo;simp only[bC] at lo;rw[if_neg (by omega)] at axJ;have fC:=aOg M aJL p.R (by omega) (by omega);unfold cc.v at fC;simp only[go_sem,dH,dO,ee,ec,List.append_assoc,List.length_append,bQ ba,nM];refine⟨by omega,by omega,?_⟩;rw[show (aJ.J p).getD 0 F.cj= .int .i64 p.R from rfl];refine gG fC (by simp only[bU,bJ,ck,Bool.and_self,Bool.and_true]) rfl ?_;rw[axJ];simp only[go_sem,dH,dO,ee,ec,List.append_assoc,List.length_append,bQ ba,nM];exact E.ac ⟨rfl,rfl,rfl,rfl,rfl,rfl,rfl,rfl,rfl⟩
 ·intro fl cG h;refine E.mono ?_ h;rintro D ca ⟨xu,vJ,UP,xb,Dd,Aw,NZ,QC,rfl⟩;simp only[go_sem,xu,vJ,UP,xb,Dd,Aw,NZ,QC];have avZ:=RA bP ah ds
  (refine E.ac ?_;simp only[go_sem])
  refine hv (fun D ca=> ∃ k:Nat,k≤cM bP ah ds∧D= [(1,.pure 3 (ai ae)),(2,.pure 3 (ai aa)),(3,.int .i64 e),(4,.int .i64 l),(5,.bd 0 1 0 0),(14,.own 1 ds.length 0 ds.length),(15,.int .i64 c),(16,.bd r.length 1 0 0),(17,.int .i64 k)]∧ca=r++ [.ag 157 3 [[.int .i64 bP,.int .i64 ah,.bH]]])
   (fun D _=>match bs D 17 with| .int _ j=>(ds.length-j).toNat|_=>0) ?_ ?_
  ·exact E.ac ⟨0,by omega,rfl,rfl⟩
  rintro D ca ⟨k,O,rfl,rfl⟩;have nH:=dB (c:=k) (by omega)
  by_cases gO:k < ds.length
  ·have q1:decide ((k:Int) < ds.length)=true:=decide_eq_true (by omega);have aJZ:=aMQ bP ah gO O;have gk: (gq X ds).getD k []= [.int .i64 ds[k].bP,.int .i64 ds[k].ah,.own (X k) ds[k].aa.length 0 ds[k].aa.length]:=by
    rw[List.getD_eq_getElem?_getD,L6 gO];rfl
   simp only[go_sem,a77,aIR,q1,dH,dO,ee,ec,List.append_assoc,List.length_append,bQ ba,bQ ay,gk,kC];refine⟨by omega,by omega,?_⟩
   by_cases c1:ds[k].bP=bP
   rotate_left
   ·have r1: (ds[k].bP != bP)=true:=bne_iff_ne.2 c1;have hne: ¬cM bP ah ds=k:=fun h=>by
     have:=aJZ.2 h;unfold HY at this;exact c1 (of_decide_eq_true this).1
    simp only[go_sem,r1,dH,dO,ee,ec,List.append_assoc,List.length_append,bQ ba,bQ ay,gk,kC]
    repeat (refine E.ac ?_;(show eG _ _ _ _ _ _);simp only[go_sem])
    refine E.ac ⟨⟨k+1,by omega,by rw[nH],rfl⟩,?_⟩;simp only[go_sem,nH];omega
   have r1: (ds[k].bP != bP)=false:=by simp[c1]
   simp only[go_sem,r1,dH,dO,ee,ec,List.append_assoc,List.length_append,bQ ba,bQ ay,gk,kC];refine⟨by omega,by omega,?_⟩
   by_cases c2:ds[k].ah=ah
   rotate_left
   ·have cY: (ds[k].ah != ah)=true:=bne_iff_ne.2 c2;have hne: ¬cM bP ah ds=k:=fun h=>by
     have:=aJZ.2 h;unfold HY at this;exact c2 (of_decide_eq_true this).2
    simp only[go_sem,cY]
    repeat (refine E.ac ?_;(show eG _ _ _ _ _ _);simp only[go_sem,cY])
    refine E.ac ⟨⟨k+1,by omega,by rw[nH],rfl⟩,?_⟩;simp only[go_sem,nH];omega
   have cY: (ds[k].ah != ah)=false:=by simp[c2]
   have BD:cM bP ah ds=k:=aJZ.1 (by unfold HY;exact decide_eq_true ⟨c1,c2⟩);have gi:cM bP ah ds < ds.length:=by omega
   have eF: ((k:Int)==(ds.length:Int))=false:=by simp;omega
   simp only[go_sem,cY]
   repeat (refine E.ac ?_;(show eG _ _ _ _ _ _);simp only[go_sem,cY,eF,dH,dO,ee,ec,List.append_assoc,List.length_append,bQ ba,bQ ay,gk,kC,nM])
   rw[show (aJ.J p).getD 2 F.cj= .pure 2 (ai p.ey) from rfl,show List.take 2 (aJ.J p)= [.int .i64 p.R,.int .i64 p.ab] from rfl];simp only[go_sem];refine⟨by omega,by omega,by omega,by omega,?_⟩;refine⟨by omega,?_⟩;simp only[go_sem,dH,dO,ee,ec,List.append_assoc,List.length_append,bQ ba,bQ ay];have lZ: ∀ (aF:List Z) (bn:List Nat),bW aF (aKN r.length) bn (.bd 0 1 0 0)= .bd 0 1 0 0:=fun aF bn=>aLf (fun z N=>aLC N) _ (decide_eq_true (by omega));have uv: ∀ (aF:List Z) (bn:List Nat),bW aF (aKN r.length) bn (.own 1 ds.length 0 ds.length)= .own 1 ds.length 0 ds.length:=fun aF bn=>aLf (fun z N=>aLC N) _ (decide_eq_true (by omega));have aL4: ∀ (aF:List Z) (bn:List Nat),bW aF (aKN r.length) bn (.bd (r.length+1) 1 0 0)= .bd r.length 1 0 0:=fun aF bn=>by simp only[bW,aMM]
   have aL5: ∀ (a b:Z),hr (r++ [a,b,.ag 64 2 (ai p.ey)]) (aKN r.length) [r.length+2] (.ag 88 3 [[.int .i64 p.R,.int .i64 p.ab,.own (r.length+2) p.ey.length 0 p.ey.length]])= .ag 88 3 [[.int .i64 p.R,.int .i64 p.ab,.pure 2 (ai p.ey)]]:=fun a b=>by
    have:bW (r++ [a,b,.ag 64 2 (ai p.ey)]) (aKN r.length) [r.length+2] (.own (r.length+2) p.ey.length 0 p.ey.length)= .pure 2 (ai p.ey):=qx aMN (by simp) (by rw[List.getElem?_append_right (by omega),Nat.add_sub_cancel_left];rfl) (by rw[bT]) ck;rw[hr,KV];simp only[List.map_cons,List.map_nil,dT,this];rfl
   refine aMP (bn:= [r.length+2]) (by omega) eZ.all (x:= .ag 88 3 [[.int .i64 p.R,.int .i64 p.ab,.own (r.length+2) p.ey.length 0 p.ey.length]]) (by rw[List.getElem?_append_right (by omega),Nat.add_sub_cancel_left];rfl) ?_;rw[aL5];have aL6: ∀ (aF:List Z) (I:List (Option Nat)) (bn:List Nat) (x:Int),bW aF I bn (.int .i64 x)= .int .i64 x:=fun _ _ _ _=>rfl;have aL7: ∀ (aF:List Z) (I:List (Option Nat)) (bn:List Nat) (n:Nat) (el:List (List F)),bW aF I bn (.pure n el)= .pure n el:=fun _ _ _ _ _=>rfl;simp only[List.map_cons,List.map_nil,lZ,uv,aL4,aL6,aL7];have yr: (gq X ds).getD k []= [.int .i64 (ds[k]).bP,.int .i64 (ds[k]).ah,.own (X k) (ds[k]).aa.length 0 (ds[k]).aa.length]:=gk;subst BD;have aj:=eZ.x _ gi
   (repeat (first| (refine E.ac ?_;simp only[go_sem,dH,dO,ee,ec,List.append_assoc,List.length_append,bQ ba,bQ ay,bQ aj,yr,kC,Int.toNat_natCast])|simp only[go_sem,dH,dO,ee,ec,List.append_assoc,List.length_append,bQ ba,bQ ay,bQ aj,yr,kC,Int.toNat_natCast]))
   have hne: (1==r.length+1)=false:=beq_false_of_ne (by omega);rw[hne];refine⟨by omega,by omega,trivial,by have:=rX _ (List.getElem_mem gi);omega,?_⟩;have RI:X (cM bP ah ds)≠0:=fun e=>by rw[e,ba] at aj;simp at aj
   have RJ:X (cM bP ah ds)≠1:=fun e=>by rw[e,ay] at aj;simp at aj
   simp only[tF aj];have sB: (r.set (X (cM bP ah ds)) (.ag 88 3 (ai (ds[cM bP ah ds].aa++ [⟨p.R,p.ab,p.ey⟩]))))[0]? =some (.ag 32 2 [[.int .i64 M.off,.pure 2 (ai M.cS)]]):=by rw[List.getElem?_set,if_neg RI];exact ba
   have qH: (r.set (X (cM bP ah ds)) (.ag 88 3 (ai (ds[cM bP ah ds].aa++ [⟨p.R,p.ab,p.ey⟩]))))[1]? =some (.ag 157 3 (gq X ds)):=by rw[List.getElem?_set,if_neg RJ];exact ay
   have nJ: (r.set (X (cM bP ah ds)) (.ag 88 3 (ai (ds[cM bP ah ds].aa++ [⟨p.R,p.ab,p.ey⟩])))).length=r.length:=List.length_set;have Cu:=(aK1 eZ gi).2.2;have RK: ∀ j,j < ds.length→X j < r.length:=fun j hj=>(aK1 eZ hj).2.2;generalize dc:r.set (X (cM bP ah ds)) (.ag 88 3 (ai (ds[cM bP ah ds].aa++ [⟨p.R,p.ab,p.ey⟩])))=aF at *;have mZ: ((cM bP ah ds:Nat):Int) < ds.length:=by omega
   have iN: (0:Int)≤((cM bP ah ds:Nat):Int):=by omega
   (repeat (first| (refine E.ac ?_;simp only[go_sem,dH,dO,ee,ec,List.append_assoc,List.length_append,bQ sB,bQ qH,yr,kC,iN,mZ,Int.toNat_natCast,aP])|simp only[go_sem,dH,dO,ee,ec,List.append_assoc,List.length_append,bQ sB,bQ qH,yr,kC,iN,mZ,Int.toNat_natCast,aP]))
   refine⟨⟨c+1,X,by omega,by rw[dV,vc gi,List.length_set],?_⟩,by omega⟩;rw[dV,tF qH];refine aOj eZ gi ?_ (fun z bG N G aV=> ?_) ?_ ?_
   ·have RL:jP aF:=by rw[←dc];exact Co eZ.all (kA ck)
    refine EV (Co RL ?_) ?_
    ·have e: ((gq X ds).set (cM bP ah ds) [.int .i64 (ds[cM bP ah ds]).bP,.int .i64 (ds[cM bP ah ds]).ah,.own (X (cM bP ah ds)) ((ds[cM bP ah ds]).aa.length+1) 0 ((ds[cM bP ah ds]).aa.length+1)])=gq X (fI bP ah p ds):=by
      rw[vc gi,RB];unfold qG;simp
     rw[e];refine L8 fun j hj=> ?_;rw[vc gi,List.length_set] at hj;rw[nJ];exact RK j hj
    ·intro bG y;simp only[fR] at y;rcases y with rfl|rfl
     all_goals exact kA (by simp only[dY,bU,bJ,ck,Bool.and_self,Bool.and_true])
   ·refine bQ ?_;rw[List.getElem?_set,if_neg (fun e=>G e.symm),←dc,List.getElem?_set,if_neg (fun e=>aV e.symm)];exact N
   ·refine bQ ?_;rw[List.getElem?_set,if_pos rfl,if_pos (by omega)];unfold qG;simp
   ·refine bQ ?_;rw[List.getElem?_set,if_neg (fun e=>RJ e.symm),←dc,List.getElem?_set,if_pos rfl,if_pos Cu]
  ·have q1:decide ((k:Int) < ds.length)=false:=decide_eq_false (by omega);simp only[go_sem,a77,aIR,q1,dH,dO,ee,ec,List.append_assoc,List.length_append,bQ ba,bQ ay,kC]
   repeat (refine E.ac ?_;(show eG _ _ _ _ _ _);simp only[go_sem])
   have eF: ((k:Int)==(ds.length:Int))=true:=by simp;omega
   have Cv:cM bP ah ds=ds.length:=by omega
   have aOq:k=ds.length:=by omega
   rw[eF];simp only[go_sem,dH,dO,ee,ec,List.append_assoc,List.length_append,bQ ba,bQ ay,kC];refine⟨by omega,?_⟩;simp only[tF ay];obtain⟨cs,fS⟩: ∃ cs,cs=gq X ds++ [[.int .i64 bP,.int .i64 ah,.bH]]:=⟨_,rfl⟩;have yt:cs.length=ds.length+1:=by rw[fS,List.length_append,kC];rfl
   have tO:cs.getD ds.length []= [.int .i64 bP,.int .i64 ah,.bH]:=by rw[fS,List.getD_eq_getElem?_getD,List.getElem?_append_right (by rw[kC];exact Nat.le_refl _),kC,Nat.sub_self];rfl
   have H5: ∀ d,cs.set ds.length d=gq X ds++ [d]:=fun d=>by rw[fS,List.set_append_right _ _ (by rw[kC];exact Nat.le_refl _),kC,Nat.sub_self];rfl
   rw[←fS];have yu: (r.set 1 (.ag 157 3 cs))[0]? =some (.ag 32 2 [[.int .i64 M.off,.pure 2 (ai M.cS)]]):=by rw[List.getElem?_set,if_neg (by omega)];exact ba
   have vd: (r.set 1 (.ag 157 3 cs))[1]? =some (.ag 157 3 cs):=by rw[List.getElem?_set,if_pos rfl,if_pos (by omega)]
   have Ag: (r.set 1 (.ag 157 3 cs)).length=r.length:=List.length_set;generalize du:r.set 1 (.ag 157 3 cs)=S at *
   try simp only[←Ag]
   have mZ: (ds.length:Int) < ((ds.length+1:Nat):Int):=by omega
   have iN: (0:Int)≤(ds.length:Int):=by omega
   have aMR:jP S:=by
    rw[←du];refine Co eZ.all ?_;rw[fS];have RK: ∀ j,j < ds.length→X j < r.length:=fun j hj=>(aK1 eZ hj).2.2;have: ∀ (A di:List (List F)),mj r.length A=true→mj r.length di=true→mj r.length (A++di)=true:=fun A di hA cU=>by
     induction A with
     |nil=>exact cU
     |cons a A ih=>
      simp only[mj,Bool.and_eq_true] at hA;rw[List.cons_append,mj,hA.1,ih hA.2];rfl
    exact this _ _ (L8 RK) rfl
   have aOr:jP (S++ [.ag 157 3 [[.int .i64 bP,.int .i64 ah,.bH]]]):=EV aMR fun bG y=>by
    rw[List.mem_singleton] at y;subst y;rfl
   rw[show ∀ (a b:Z),S++ [a,b]=(S++ [a])++ [b] from fun a b=>by simp];refine E.drop (by omega) aOr ?_ ?_
   ·have:S.length+1=(S++ [Z.ag 157 3 [[.int .i64 bP,.int .i64 ah,.bH]]]).length:=by simp
    rw[←this];simp only[Ez,List.all_cons,List.all_nil,dt,Bool.and_true,Bool.and_eq_true,decide_eq_true_eq,true_and];omega
   repeat (refine E.ac ?_;(show eG _ _ _ _ _ _);simp only[go_sem,dH,dO,ee,ec,List.append_assoc,List.length_append,bQ yu,bQ vd,tO,yt,iN,mZ,nM])
   rw[show (aJ.J p).getD 2 F.cj= .pure 2 (ai p.ey) from rfl,show List.take 2 (aJ.J p)= [.int .i64 p.R,.int .i64 p.ab] from rfl];simp only[go_sem];refine⟨by omega,by omega,by omega,by omega,?_⟩;refine⟨by omega,?_⟩;simp only[go_sem,dH,dO,ee,ec,List.append_assoc,List.length_append,bQ yu,bQ vd];have lZ: ∀ (aF:List Z) (bn:List Nat),bW aF (aKN S.length) bn (.bd 0 1 0 0)= .bd 0 1 0 0:=fun aF bn=>aLf (fun z N=>aLC N) _ (decide_eq_true (by omega));have uv: ∀ (aF:List Z) (bn:List Nat) (n:Nat),bW aF (aKN S.length) bn (.own 1 n 0 n)= .own 1 n 0 n:=fun aF bn n=>aLf (fun z N=>aLC N) _ (decide_eq_true (by omega));have aL4: ∀ (aF:List Z) (bn:List Nat),bW aF (aKN S.length) bn (.bd (S.length+1) 1 0 0)= .bd S.length 1 0 0:=fun aF bn=>by simp only[bW,aMM]
   have aL5: ∀ (a b:Z),hr (S++ [a,b,.ag 64 2 (ai p.ey)]) (aKN S.length) [S.length+2] (.ag 88 3 [[.int .i64 p.R,.int .i64 p.ab,.own (S.length+2) p.ey.length 0 p.ey.length]])= .ag 88 3 [[.int .i64 p.R,.int .i64 p.ab,.pure 2 (ai p.ey)]]:=fun a b=>by
    have:bW (S++ [a,b,.ag 64 2 (ai p.ey)]) (aKN S.length) [S.length+2] (.own (S.length+2) p.ey.length 0 p.ey.length)= .pure 2 (ai p.ey):=qx aMN (by simp) (by rw[List.getElem?_append_right (by omega),Nat.add_sub_cancel_left];rfl) (by rw[bT]) ck;rw[hr,KV];simp only[List.map_cons,List.map_nil,dT,this];rfl
   refine aMP (bn:= [S.length+2]) (by omega) aMR (x:= .ag 88 3 [[.int .i64 p.R,.int .i64 p.ab,.own (S.length+2) p.ey.length 0 p.ey.length]]) (by rw[List.getElem?_append_right (by omega),Nat.add_sub_cancel_left];rfl) ?_;rw[aL5];have aL6: ∀ (aF:List Z) (I:List (Option Nat)) (bn:List Nat) (x:Int),bW aF I bn (.int .i64 x)= .int .i64 x:=fun _ _ _ _=>rfl;have aL7: ∀ (aF:List Z) (I:List (Option Nat)) (bn:List Nat) (n:Nat) (el:List (List F)),bW aF I bn (.pure n el)= .pure n el:=fun _ _ _ _ _=>rfl;simp only[List.map_cons,List.map_nil,lZ,uv,aL4,aL6,aL7];subst aOq
   (repeat (first| (refine E.ac ?_;simp only[go_sem,dH,dO,ee,ec,List.append_assoc,List.length_append,bQ yu,bQ vd,tO,yt,H5,iN,mZ,Int.toNat_natCast,aP])|simp only[go_sem,dH,dO,ee,ec,List.append_assoc,List.length_append,bQ yu,bQ vd,tO,yt,H5,iN,mZ,Int.toNat_natCast,aP]))
   have hne: (1==S.length+1)=false:=beq_false_of_ne (by omega);rw[hne];refine⟨trivial,?_⟩
   try rw[tF vd]
   (repeat (first| (refine E.ac ?_;simp only[go_sem,aP])|simp only[go_sem,aP]))
   obtain⟨ly,yp⟩:=aOk (W:=S.set 1 (.ag 157 3 (gq X ds++ [[.int .i64 bP,.int .i64 ah,.own (S.length+2) 1 0 1]]))++ [.ag 88 3 [[.int .i64 p.R,.int .i64 p.ab,.pure 2 (ai p.ey)]],.ag 88 3 [[.int .i64 p.R,.int .i64 p.ab,.pure 2 (ai p.ey)]],.ag 88 3 [[.int .i64 p.R,.int .i64 p.ab,.pure 2 (ai p.ey)]]]) eZ (p:=p) Cv (S.length+2) (by omega) (by
    refine ZP (fun z bG N=> ?_) ?_
    ·rw[List.getElem?_set] at N;split at N
     ·split at N
      ·cases N;have e:gq X ds++ [[.int .i64 bP,.int .i64 ah,.own (S.length+2) 1 0 1]]=gq (fun c=>if c < ds.length then X c else S.length+2) (ds++ [⟨bP,ah,[p]⟩]):=by
        rw[RD];congr 1
        ·exact RE fun c av=>by rw[if_pos av]
        ·unfold qG;simp
       rw[e];refine L8 fun c av=> ?_;rw[List.length_append,List.length_singleton] at av;simp only[List.length_set,List.length_cons,List.length_nil];split
       ·have:=(aK1 eZ (by assumption)).2.2;omega
       ·omega
      ·cases N
     ·rename_i G;rw[←du,List.getElem?_set,if_neg G] at N;exact Qx (by rw[List.length_set];omega) (eZ.all z bG N)
    ·intro bG y;simp only[fR] at y;rcases y with rfl|rfl|rfl
     all_goals exact kA (by simp only[dY,bU,bJ,ck,Bool.and_self,Bool.and_true])) (fun z bG N G=>by
    refine bQ ?_;rw[List.getElem?_set,if_neg (fun e=>G e.symm),←du,List.getElem?_set,if_neg (fun e=>G e.symm)];exact N) (by
    refine bQ ?_;rw[List.getElem?_set,if_pos rfl,if_pos (by omega)]) (by
    rw[List.getElem?_append_right (by rw[List.length_set];omega),List.length_set,Nat.add_sub_cancel_left];rfl)
   exact⟨⟨c+1,ly,by omega,by rw[dV,E2 Cv,List.length_append];rfl,by rw[dV];exact yp⟩,by omega⟩
end Go.Proofs.YtpincjkjoeopkaaGreatDoor
