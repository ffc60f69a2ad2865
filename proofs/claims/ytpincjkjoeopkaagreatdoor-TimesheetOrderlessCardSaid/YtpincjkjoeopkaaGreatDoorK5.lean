/- The abstract machine. -/
import Derived.Test.YtpincjkjoeopkaaGreatDoorK4
set_option linter.unusedSimpArgs false
set_option linter.unusedVariables false
set_option linter.unusedSectionVars false
namespace Go.Abs
variable [dw]
def JG {bd:Type}(bQ:List bd)(off:Nat)(ys:List bd):List bd:=bQ.take off++ys++bQ.drop (off+ys.length)
theorem aqg {bd:Type}[aG bd]{a b:List bd}{off:Nat}:jZ (ac a) off (ac b)=ac (JG a off b):=by
 simp[jZ,JG,ac]
attribute [go_sem] aqg
theorem aqh {P:Program}{aX:Nat}{F:fW}{K:nx}{r:aJ}{d:List R}(az:aJ→List R→Prop)(h:ey P aX F ⟨az,K.x,K.i⟩ r d)(cU: ∀ e i,az e i→K.n e i):ey P aX F K r d:=
 wM (K:=⟨az,K.x,K.i⟩) (aF:=K) F cU (fun _ _ _ h=>h) (fun _ _ h=>h) h
theorem VO {P:Program}{aX:Nat}{a b:fW}{K:nx}{r:aJ}{d:List R}(az:aJ→List R→Prop)(h:ey P aX a ⟨az,K.x,K.i⟩ r d)(cU: ∀ e i,az e i→s aX (ey P aX b K) e i):ey P aX (.seq a b) K r d:=by
 rw[VK];exact aqh (K:=⟨s aX (ey P aX b K),K.x,K.i⟩) az h cU
def wQ (l:List (Int×Int)):List (z×z):=l.map fun p=>(.int .i64 p.1,.int .i64 p.2)
def ib (l:List (Int×Int))(k:Int):Option Int:=(l.find? fun p=>k==p.1).map (·.2)
def iL (k v:Int):List (Int×Int)→List (Int×Int)
 | []=> [(k,v)]
 |p::O=>if k==p.1 then (k,v)::O else p::iL k v O
theorem VP: ∀ {l:List (Int×Int)},jL (wQ l)=true
 | []=>_root_.id rfl
 |p::l=>by
  have:=VP (l:=l);simp only[jL,wQ,List.map_map,Bool.and_eq_true] at this ⊢;simp only[List.map_cons,bP,Function.comp_apply,bE,Bool.true_and];exact this
theorem VQ {k:Int}: ∀ {l:List (Int×Int)},dd (.int .i64 k) (wQ l)=(ib l k).map (.int .i64 ·)
 | []=>_root_.id rfl
 |p::l=>by
  have ih:=VQ (k:=k) (l:=l);unfold wQ ib at *;rw[List.map_cons,dd,List.find?_cons];have:fp (.int .i64 k) (.int .i64 p.1)=(k==p.1):=by simp[fp,cf,dU]
  simp only[this];cases I:k==p.1
  ·simpa using ih
  ·rfl
theorem VR {k v:Int}: ∀ {l:List (Int×Int)},dp (.int .i64 k) (.int .i64 v) (wQ l)=wQ (iL k v l)
 | []=>_root_.id rfl
 |p::l=>by
  have ih:=VR (k:=k) (v:=v) (l:=l);unfold wQ at *;rw[List.map_cons,dp,iL];have:fp (.int .i64 k) (.int .i64 p.1)=(k==p.1):=by simp[fp,cf,dU]
  simp only[this];cases I:k==p.1
  ·simp only[Bool.false_eq_true,if_false,List.map_cons,ih]
  ·rfl
theorem VS {k v bo:Int}: ∀ {l:List (Int×Int)},ib (iL k v l) bo=if bo=k then some v else ib l bo
 | []=>by
  unfold ib iL
  by_cases h:bo=k<;>simp[h]
 |p::l=>by
  have ih:=VS (k:=k) (v:=v) (bo:=bo) (l:=l);unfold ib at *;rw[iL];cases I:k==p.1
  ·simp only[Bool.false_eq_true,if_false,List.find?_cons];cases gc:bo==p.1
   ·exact ih
   ·have: ¬bo=k:=by
     intro e;subst e;rw[I] at gc;cases gc
    simp[this]
  ·have e:k=p.1:=by simpa using I
   simp only[if_true,List.find?_cons]
   by_cases h:bo=k
   ·simp[h]
   ·have h1: (bo==k)=false:=by simpa using h
    have B: (bo==p.1)=false:=by rw[←e];exact h1
    simp[h1,B,h]
attribute [go_sem] Option.isSome_some Option.isSome_none Option.getD_some Option.getD_none VP VQ VR
end Go.Abs
namespace Go.Abs
variable [dw]
mutual
def di (n:Nat):z→Bool
 | .own i _ _ _=>decide (i < n)
 | .aW i _ _ _=>decide (i < n)
 | .agg aj=>gl n aj
 | .bg aj=>gl n aj
 | .fn _ aj=>gl n aj
 | .bu i=>decide (i < n)
 | .fG i m=>decide (i < n)&&decide (m < n)
 |_=>true
def gl (n:Nat):List z→Bool
 | []=>true
 |F::aj=>di n F&&gl n aj
end
def lG (n:Nat):List (List z)→Bool
 | []=>true
 |e::al=>gl n e&&lG n al
def mU (n:Nat):List (z×z)→Bool
 | []=>true
 |p::O=>di n p.1&&di n p.2&&mU n O
def iM (n:Nat):R→Bool
 | .fH=>true
 | .aa _ _ ah=>lG n ah
 | .aY (.map _ _ ents)=>mU n ents
 | .aY (.dY _ _)=>true
mutual
theorem J3 {n:Nat}: ∀ (a:z),bE a=true→di n a=true
 | .own ..,h=>by simp[bE] at h
 | .aW ..,h=>by simp[bE] at h
 | .agg aj,h=>by rw[bE] at h;rw[di];exact F0 aj h
 | .bg aj,h=>by rw[bE] at h;rw[di];exact F0 aj h
 | .fn _ aj,h=>by rw[bE] at h;rw[di];exact F0 aj h
 | .bu _,h=>by simp[bE] at h
 | .fG ..,h=>by simp[bE] at h
 | .int ..,_=>rfl
 | .bool ..,_=>rfl
 | .str ..,_=>rfl
 | .bD,_=>rfl
 | .jW,_=>rfl
 | .km,_=>rfl
 | .pure ..,_=>rfl
 | .eb ..,_=>rfl
 | .cc,_=>rfl
theorem F0 {n:Nat}: ∀ (as:List z),bP as=true→gl n as=true
 | [],_=>rfl
 |a::as,h=>by
  simp only[bP,Bool.and_eq_true] at h;rw[gl,J3 a h.1,F0 as h.2];rfl
end
theorem kf {n:Nat}: ∀ {al:List (List z)},eg al=true→lG n al=true
 | [],_=>rfl
 |e::al,h=>by
  simp only[eg,Bool.and_eq_true] at h;rw[lG,F0 e h.1,kf h.2];rfl
mutual
theorem F1 {n m:Nat}(h:n≤m): ∀ (a:z),di n a=true→di m a=true
 | .own ..,k=>by simp only[di,decide_eq_true_eq] at k ⊢;omega
 | .aW ..,k=>by simp only[di,decide_eq_true_eq] at k ⊢;omega
 | .agg aj,k=>by rw[di] at k ⊢;exact F2 h aj k
 | .bg aj,k=>by rw[di] at k ⊢;exact F2 h aj k
 | .fn _ aj,k=>by rw[di] at k ⊢;exact F2 h aj k
 | .bu _,k=>by simp only[di,decide_eq_true_eq] at k ⊢;omega
 | .fG ..,k=>by simp only[di,Bool.and_eq_true,decide_eq_true_eq] at k ⊢;omega
 | .int ..,_=>rfl
 | .bool ..,_=>rfl
 | .str ..,_=>rfl
 | .bD,_=>rfl
 | .jW,_=>rfl
 | .km,_=>rfl
 | .pure ..,_=>rfl
 | .eb ..,_=>rfl
 | .cc,_=>rfl
theorem F2 {n m:Nat}(h:n≤m): ∀ (as:List z),gl n as=true→gl m as=true
 | [],_=>rfl
 |a::as,k=>by
  simp only[gl,Bool.and_eq_true] at k ⊢;exact⟨F1 h a k.1,F2 h as k.2⟩
end
theorem WE {n m:Nat}(h:n≤m): ∀ {al:List (List z)},lG n al=true→lG m al=true
 | [],_=>rfl
 |e::al,k=>by
  simp only[lG,Bool.and_eq_true] at k ⊢;exact⟨F2 h e k.1,WE h k.2⟩
theorem WG {n m:Nat}(h:n≤m): ∀ {al:List (z×z)},mU n al=true→mU m al=true
 | [],_=>rfl
 |e::al,k=>by
  simp only[mU,Bool.and_eq_true] at k ⊢;exact⟨⟨F1 h _ k.1.1,F1 h _ k.1.2⟩,WG h k.2⟩
theorem Py {n m:Nat}(h:n≤m): ∀ {i:R},iM n i=true→iM m i=true
 | .fH,_=>rfl
 | .aa ..,k=>WE h k
 | .aY (.map ..),k=>WG h k
 | .aY (.dY ..),_=>rfl
theorem WH: ∀ (k E i:Nat),hR ((List.range' E k).map some) i=if E≤i∧i < E+k then some (i-E) else none
 |0,E,i=>by rw[if_neg (by omega)];rfl
 |k+1,E,i=>by
  rw[List.range'_succ,List.map_cons,hR,WH k (E+1) i]
  by_cases h:E=i
  ·subst h;simp
  ·rw[if_neg h]
   by_cases B:E+1≤i∧i < E+1+k
   ·rw[if_pos B,if_pos (by omega)];simp;omega
   ·rw[if_neg B,if_neg (by omega)];rfl
theorem F3 {n i:Nat}(h:i < n):hR ((List.range n).map some) i=some i:=by
 rw[List.range_eq_range',WH,if_pos (by omega)];simp
mutual
theorem J4 {d:List R}{n:Nat}: ∀ (a:z),di n a=true→bU d ((List.range n).map some) [] a=a
 | .own i ..,h=>by simp only[di,decide_eq_true_eq] at h;simp only[bU,F3 h]
 | .aW i ..,h=>by simp only[di,decide_eq_true_eq] at h;simp only[bU,F3 h]
 | .agg aj,h=>by rw[di] at h;rw[bU,A7 aj h]
 | .bg aj,h=>by rw[di] at h;rw[bU,A7 aj h]
 | .fn _ aj,h=>by rw[di] at h;rw[bU,A7 aj h]
 | .bu _,h=>by simp only[di,decide_eq_true_eq] at h;simp only[bU,F3 h]
 | .fG ..,h=>by simp only[di,Bool.and_eq_true,decide_eq_true_eq] at h;simp only[bU,F3 h.1,F3 h.2]
 | .int ..,_=>rfl
 | .bool ..,_=>rfl
 | .str ..,_=>rfl
 | .bD,_=>rfl
 | .jW,_=>rfl
 | .km,_=>rfl
 | .pure ..,_=>rfl
 | .eb ..,_=>rfl
 | .cc,_=>rfl
theorem A7 {d:List R}{n:Nat}: ∀ (as:List z),gl n as=true→dV d ((List.range n).map some) [] as=as
 | [],_=>rfl
 |a::as,h=>by
  simp only[gl,Bool.and_eq_true] at h;rw[dV,J4 a h.1,A7 as h.2]
end
theorem arK {d:List R}{n:Nat}{al:List (List z)}(h:lG n al=true):lD d ((List.range n).map some) [] al=al:=by
 rw[JC]
 induction al with
 |nil=>rfl
 |cons e al ih=>
  simp only[lG,Bool.and_eq_true] at h;rw[List.map_cons,A7 e h.1,ih h.2]
theorem WI {d:List R}{n:Nat}: ∀ {al:List (z×z)},mU n al=true→(al.map fun p=>(bU d ((List.range n).map some) [] p.1,bU d ((List.range n).map some) [] p.2))=al
 | [],_=>rfl
 |e::al,h=>by
  simp only[mU,Bool.and_eq_true] at h;rw[List.map_cons,J4 _ h.1.1,J4 _ h.1.2,WI h.2]
theorem WJ {d:List R}{n:Nat}: ∀ {i:R},iM n i=true→ho d ((List.range n).map some) [] i=i
 | .fH,_=>rfl
 | .aa ..,h=>by rw[ho,arK h]
 | .aY (.map ..),h=>by rw[ho,WI h]
 | .aY (.dY ..),_=>rfl
def jA (d:List R):Prop:= ∀ (i:Nat) (bz:R),d[i]? =some bz→iM d.length bz=true
theorem WK {d:List R}(h:jA d): ∀ (k E:Nat),E+k=d.length→ew d [] ((List.range d.length).map some) ((List.range' E k).map some)=some (d.drop E)
 |0,E,e=>by rw[show E=d.length by omega];simp[ew]
 |k+1,E,e=>by
  have ak:E < d.length:=by omega
  rw[List.range'_succ,List.map_cons,ew,WK h k (E+1) (by omega),List.getElem?_eq_getElem ak];simp only;rw[WJ (h E _ (List.getElem?_eq_getElem ak)),List.drop_eq_getElem_cons ak]
theorem WL {d:List R}(h:jA d):ew d [] ((List.range d.length).map some) ((List.range d.length).map some)=some d:=by
 have:=WK h d.length 0 (by omega);rw[←List.range_eq_range'] at this;simpa using this
theorem WM (n:Nat): ∀ (k E c:Nat),eH n (List.range' E k) c=if c < k then E+c else n+(c-k)
 |0,E,c=>by simp[eH]
 |k+1,E,0=>by rw[List.range'_succ,eH];simp
 |k+1,E,c+1=>by
  rw[List.range'_succ,eH,WM n k (E+1) c]
  by_cases h:c < k
  ·rw[if_pos h,if_pos (by omega)];omega
  ·rw[if_neg h,if_neg (by omega)];omega
theorem WN (n:Nat):eH n (List.range n)=fun c=>c:=by
 funext c;rw[List.range_eq_range',WM];split<;>omega
mutual
theorem F4: ∀ (a:z),dI (fun c=>c) a=a
 | .own .. =>rfl
 | .aW .. =>rfl
 | .agg aj=>by rw[dI,F5 aj]
 | .bg aj=>by rw[dI,F5 aj]
 | .fn _ aj=>by rw[dI,F5 aj]
 | .bu _=>rfl
 | .fG .. =>rfl
 | .int .. =>rfl
 | .bool .. =>rfl
 | .str .. =>rfl
 | .bD=>rfl
 | .jW=>rfl
 | .km=>rfl
 | .pure .. =>rfl
 | .eb .. =>rfl
 | .cc=>rfl
theorem F5: ∀ (as:List z),iX (fun c=>c) as=as
 | []=>rfl
 |a::as=>by rw[iX,F4 a,F5 as]
end
theorem WO: ∀ (i:R),gu (fun c=>c) i=i
 | .fH=>rfl
 | .aa e N ah=>by
  rw[gu,Fl];congr 1
  induction ah with
  |nil=>rfl
  |cons x ai ih=>rw[List.map_cons,F5,ih]
 | .aY (.map aE M ents)=>by
  rw[gu];congr 2
  induction ents with
  |nil=>rfl
  |cons x ai ih=>rw[List.map_cons,F4,F4,ih]
 | .aY (.dY ..)=>rfl
theorem WQ {bd:Type}: ∀ (k E:Nat) (ai ys:List bd),E+k=ai.length→k≤ys.length→fq ai (List.range' E k) ys=ai.take E++ys
 |0,E,ai,ys,e,_=>by simp only[List.range'_zero,fq];rw[show E=ai.length by omega,List.take_length]
 |k+1,E,ai,[],e,h=>by simp at h
 |k+1,E,ai,y::ys,e,h=>by
  rw[List.range'_succ,fq,WQ k (E+1) _ ys (by rw[List.length_set];omega) (by simpa using h)];have ak:E < ai.length:=by omega
  rw[List.take_succ_eq_append_getElem (by rw[List.length_set];exact ak),List.getElem_set_self,List.take_set_of_le (Nat.le_refl _),List.append_assoc];rfl
theorem WR {bd:Type}{ai ys:List bd}(h:ai.length≤ys.length):fq ai (List.range ai.length) ys=ys:=by
 rw[List.range_eq_range',WQ _ _ _ _ (by omega) h];simp
theorem WS {P:Program}{f:FuncId}{args:List z}{d:List R}{br K:z→List R→Prop}(G:jA d)(aw:gl d.length args=true)(h:aK P f args d br)
 (aQ: ∀ v rs,br v rs→d.length≤rs.length∧K v rs):tG P f args d K:=by
 refine⟨List.range d.length,[],d,List.nodup_range,WL G,?_⟩;rw[A7 args aw];refine h.mono fun v rs ag=>⟨.inl rfl,?_⟩;obtain⟨h1,B⟩:=aQ v rs ag;rw[WN,F4,show rs.map (gu fun c=>c)=rs from by rw[List.map_congr_left (fun i _=>WO i),List.map_id'],WR h1];exact B
theorem tV {P:Program}{f:FuncId}{args:List z}{d:List R}{dst:Option Nat}{r:aJ}{K:aJ→List R→Prop}{br:z→List R→Prop}(G:jA d)(aw:gl d.length args=true)(h:aK P f args d br)
 (aQ: ∀ v rs,br v rs→d.length≤rs.length∧K (put r dst v) rs):tL P f args d dst r K:=WS G aw h aQ
theorem arL {P:Program}{f:FuncId}{args:List z}{bC:List Nat}{tk:df}{d:List R}{dst:Option Nat}{r:aJ}{K:aJ→List R→Prop}{br:z→List R→Prop}(ht:ex bC tk (List.range d.length) [])(G:jA d)(aw:gl d.length args=true)(h:aK P f args d br)
 (aQ: ∀ v rs,br v rs→d.length≤rs.length∧K (put r dst v) rs):tO P f args bC tk d dst r K:=by
 obtain⟨ap,bk,srows,h1,B,am⟩:=WS (K:=fun v rs=>K (put r dst v) rs) G aw h aQ;refine⟨List.range d.length,[],d,ht,List.nodup_range,WL G,?_⟩;rw[A7 args aw];refine h.mono fun v rs ag=>⟨.inl rfl,?_⟩;obtain⟨h1,B⟩:=aQ v rs ag;rw[WN,F4,show rs.map (gu fun c=>c)=rs from by rw[List.map_congr_left (fun i _=>WO i),List.map_id'],WR h1];exact B
theorem cd.arM (qG Pz:Dr)(aq:Pz.o→qG.o){n:Nat}{C av:bv}(h: @cd qG n C av): @cd Pz n C av:=
 @cd.mk Pz n C av (@cd.os qG _ _ _ h) (@cd.tape qG _ _ _ h) (@cd.output qG _ _ _ h) (@cd.size qG _ _ _ h) (@cd.block qG _ _ _ h) (@cd.uG qG _ _ _ h) (@cd.bS qG _ _ _ h) (@cd.bT qG _ _ _ h) (@cd.len qG _ _ _ h) (@cd.d qG _ _ _ h) (@cd.qu qG _ _ _ h) (fun k=> @cd.drawn qG _ _ _ h (aq k))
@[reducible] def dw.ax (iK:dw):dw:= {o:=True,n:=iK.n,H:=iK.H,nP:=iK.nP}
omit [dw] in
theorem aK.F6 (iK:dw){P:Program}{f:FuncId}{args:List z}{d:List R}{br:z→List R→Prop}(h: @aK iK.ax P f args d br): @aK iK P f args d br:=by
 intro C du G ar hG dk;refine (h C du G ar hG dk).mono ?_;rintro e w' ⟨aV,v,av,rfl,aR,ag,Ai,hl,aQ⟩;exact⟨aV,v,av,rfl,aR,ag,Ai,cd.arM iK.ax.toDr iK.toDr (fun _=>trivial) hl,aQ⟩
theorem WT {d t:List R}(h:jA d): ∀ (k E:Nat),E+k=d.length→ew (d++t) [] ((List.range d.length).map some) ((List.range' E k).map some)=some (d.drop E)
 |0,E,e=>by rw[show E=d.length by omega];simp[ew]
 |k+1,E,e=>by
  have ak:E < d.length:=by omega
  rw[List.range'_succ,List.map_cons,ew,WT h k (E+1) (by omega),List.getElem?_append_left ak,List.getElem?_eq_getElem ak];simp only;rw[WJ (h E _ (List.getElem?_eq_getElem ak)),List.drop_eq_getElem_cons ak]
def Dj (n:Nat)(r:aJ):Bool:=r.all fun p=>di n p.2
theorem s.drop {aX:Nat}{K:aJ→List R→Prop}{r:aJ}{d t:List R}(aB:aX≤d.length)(G:jA d)(he:Dj d.length r=true)(h:s aX K r d):s aX K r (d++t):=by
 have ao:ew (d++t) [] ((List.range d.length).map some) ((List.range d.length).map some)=some d:=by
  have:=WT (t:=t) G d.length 0 (by omega);rw[←List.range_eq_range'] at this;simpa using this
 have I:keeps aX ((List.range d.length).map some):=by
  refine⟨by simpa using aB,fun i G=> .inl ?_⟩;rw[List.getElem?_map,List.getElem?_range (by omega)];rfl
 have Z: (r.map fun p=>(p.1,bU (d++t) ((List.range d.length).map some) [] p.2))=r:=by
  rw[List.map_congr_left (g:=id) (fun p ae=> ?_),List.map_id];have:=List.all_eq_true.1 he p ae;rw[J4 _ this];rfl
 have:=s.nt (eP.kb (aX:=aX) (r:=r) ((List.range d.length).map some) [] (UC List.nodup_range) I ao) (by rw[Z];exact h);exact this
end Go.Abs
