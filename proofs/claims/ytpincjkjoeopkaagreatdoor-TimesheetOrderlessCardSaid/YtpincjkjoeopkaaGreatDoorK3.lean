/- The abstract machine. -/
import Derived.Test.YtpincjkjoeopkaaGreatDoorK2
set_option linter.unusedSimpArgs false
set_option linter.unusedVariables false
set_option linter.unusedSectionVars false
namespace Go.Abs
variable [dw]
def jK:List z→List Nat
 |x::_=>cS x
 | []=> []
def OI:List z→List Nat
 | [_,y]=>cS y
 |_=> []
theorem aod {x:z}{ai:List z}:jK (x::ai)=cS x:=_root_.id rfl
theorem aoe {x y:z}:OI [x,y]=cS y:=_root_.id rfl
theorem aof {i n L l:Nat}:cS (.own i n L l)= [i]:=_root_.id rfl
theorem aog {i n L l:Nat}:cS (.aW i n L l)= [i]:=_root_.id rfl
theorem aoh {N:Nat}{ah:List (List z)}:cS (.pure N ah)= []:=_root_.id rfl
theorem aoi {aj:List z}{L:Nat}:cS (.eb aj L)= []:=_root_.id rfl
theorem aoj:cS .bD= []:=_root_.id rfl
theorem aok {i:Nat}:cS (.bu i)= [i]:=_root_.id rfl
theorem aol {c:Nat}{tk:df}:ix c [] tk=tk:=_root_.id rfl
theorem aom {c i:Nat}{rs:List Nat}{tk:df}:ix c (i::rs) tk=(c,i,false)::ix c rs tk:=_root_.id rfl
section
variable {bC:List Nat} {tk:df} {W az:List Nat}
theorem OJ:ex bC tk [] []=True:=by simp[ex]
theorem aon:ex bC [] W az=True:=by simp[ex]
theorem Vo {c i:Nat}{w:Bool}:ex bC ((c,i,w)::tk) W az↔(c∈bC→i∉W∧(w=true→i∉az))∧ex bC tk W az:=by
 constructor
 ·intro h;exact⟨fun an=>h c i w (List.mem_cons_self ..) an,fun j E v hm aT=>h j E v (List.mem_cons_of_mem _ hm) aT⟩
 ·rintro⟨h1,B⟩ j E v hm aT;rcases List.mem_cons.1 hm with he|hm
  ·cases he;exact h1 aT
  ·exact B j E v hm aT
theorem aoo {c i:Nat}:ex bC ((c,i,false)::tk) W az=if bC.contains c&&W.contains i then False else ex bC tk W az:=by
 apply propext;rw[Vo]
 by_cases h1:c∈bC<;>by_cases B:i∈W<;>simp[h1,B]
theorem aop {c i:Nat}:ex bC ((c,i,true)::tk) W az=if bC.contains c&&(W.contains i||az.contains i) then False else ex bC tk W az:=by
 apply propext;rw[Vo]
 by_cases h1:c∈bC<;>by_cases B:i∈W<;>by_cases am:i∈az<;>simp[h1,B,am]
end
def tO (P:Program)(f:FuncId)(args:List z)(bC:List Nat)(tk:df)(d:List R)(dst:Option Nat)(r:aJ)(K:aJ→List R→Prop):Prop:=wA P f args bC tk d fun v bY=>K (put r dst v) bY
def OK (P:Program)(bj:List (Nat×eQ))(ff:List (TypeId×Nat))(aa:List Nat)(K:aJ→List R→Prop)(base:Nat)(r:aJ)(d:List R):Prop:=ny P base bj aa K [] r (d++sv ff)
def OL (al:Option (List (List z)))(bz:Option R)(k:Nat)(e:TypeId)(N len:Nat)(vs:List z)(d:List R)(dst:Option Nat)(r:aJ)(K:aJ→List R→Prop):Prop:=
 match al with
 |some al=>((vs.all fun v=>(cf v).all cM)=true∧0 < len)∧bz=some (.aa e N [])∧K (put r dst (.own k len 0 len)) (d.set k (.aa e N al))
 |none=>False
section
variable {P:Program} {base c:Nat} {bC:List Nat} {tk:df} {aa:List Nat} {r:aJ} {d:List R} {o:Option Nat} {args:List bc} {g:Option (Nat×Bool)}
theorem aoq {aX:Nat}{K:nx}{bj:List (Nat×eQ)}{ff:List (TypeId×Nat)}:eX P aX (.su bj ff aa) K r d=OK P bj ff aa K.n d.length r d:=_root_.id rfl
theorem aor {K:aJ→List R→Prop}{bj:List (Nat×eQ)}{ff:List (TypeId×Nat)}:OK P bj ff aa K base r d=ny P base bj aa K [] r (d++sv ff):=_root_.id rfl
theorem aos:sv []= []:=_root_.id rfl
theorem aot {e:TypeId}{N:Nat}{rs:List (TypeId×Nat)}:sv ((e,N)::rs)= .aa e N []::sv rs:=_root_.id rfl
theorem aou {K:aJ→List R→Prop}:ny P base [] aa K tk r d=K (eW aa r) d:=_root_.id rfl
theorem aov {K:aJ→List R→Prop}{op:fV}{ff:Option Nat}{ds:List (Nat×eQ)}:
 ny P base ((c,⟨⟨o,op,args,none⟩,ff,bC⟩)::ds) aa K tk r d=gO P base c ⟨⟨o,op,args,none⟩,ff,bC⟩ tk r d (ny P base ds aa K):=_root_.id rfl
theorem aow {K:aJ→List R→Prop}{op:fV}{ff:Option Nat}{E:Nat}{dZ:Bool}{ds:List (Nat×eQ)}:
 ny P base ((c,⟨⟨o,op,args,some (E,dZ)⟩,ff,bC⟩)::ds) aa K tk r d=qF P base (bn r E) dZ c ⟨⟨o,op,args,some (E,dZ)⟩,ff,bC⟩ tk r d (ny P base ds aa K):=_root_.id rfl
variable {K:df→aJ→List R→Prop}
theorem aox {L:eQ}:qF P base (.bool true) true c L tk r d K=gO P base c L tk r d K:=_root_.id rfl
theorem aoy {L:eQ}:qF P base (.bool false) false c L tk r d K=gO P base c L tk r d K:=_root_.id rfl
theorem aoz {L:eQ}:qF P base (.bool true) false c L tk r d K=K tk (put r L.bB.dst (.bg [])) d:=_root_.id rfl
theorem aoA {L:eQ}:qF P base (.bool false) true c L tk r d K=K tk (put r L.bB.dst (.bg [])) d:=_root_.id rfl
theorem gP {b dZ:Bool}{L:eQ}(h1:b=true→qF P base (.bool true) dZ c L tk r d K)(B:b=false→qF P base (.bool false) dZ c L tk r d K):qF P base (.bool b) dZ c L tk r d K:=by
 cases b
 ·exact B rfl
 ·exact h1 rfl
theorem aoB {f:FuncId}:gO P base c ⟨⟨o,.call f,args,g⟩,none,bC⟩ tk r d K=tO P f (args.map (bc.aI r)) bC tk d o r (K tk):=_root_.id rfl
theorem tP {op:fV}{vs:List z}(hW:jx op vs= [])(cU:gD op vs= [])(kw:df)(ht:kw=tk){A:df→Prop}: (ex bC tk (jx op vs) (gD op vs)∧A kw)=A tk:=by
 rw[hW,cU,ht,OJ,true_and]
theorem aoC:gO P base c ⟨⟨o,.pK,args,g⟩,none,bC⟩ tk r d K=bx .pK (args.map (bc.aI r)) d o r (K tk):=by
 exact tP (op:= .pK) (vs:=args.map (bc.aI r)) (_root_.id rfl) (_root_.id rfl) (ix c [] tk) rfl (A:=fun kw=>bx .pK (args.map (bc.aI r)) d o r (K kw))
theorem aoD:gO P base c ⟨⟨o,.pick,args,g⟩,none,bC⟩ tk r d K=bx .pick (args.map (bc.aI r)) d o r (K tk):=by
 exact tP (op:= .pick) (vs:=args.map (bc.aI r)) (_root_.id rfl) (_root_.id rfl) (ix c [] tk) rfl (A:=fun kw=>bx .pick (args.map (bc.aI r)) d o r (K kw))
theorem aoE {D p}:gO P base c ⟨⟨o,(.build D p),args,g⟩,none,bC⟩ tk r d K=bx (.build D p) (args.map (bc.aI r)) d o r (K tk):=by
 exact tP (op:=(.build D p)) (vs:=args.map (bc.aI r)) (_root_.id rfl) (_root_.id rfl) (ix c [] tk) rfl (A:=fun kw=>bx (.build D p) (args.map (bc.aI r)) d o r (K kw))
theorem aoF:gO P base c ⟨⟨o,.sy,args,g⟩,none,bC⟩ tk r d K=bx .sy (args.map (bc.aI r)) d o r (K tk):=by
 exact tP (op:= .sy) (vs:=args.map (bc.aI r)) (_root_.id rfl) (_root_.id rfl) (ix c [] tk) rfl (A:=fun kw=>bx .sy (args.map (bc.aI r)) d o r (K kw))
theorem aoG {L}:gO P base c ⟨⟨o,(.jc L),args,g⟩,none,bC⟩ tk r d K=bx (.jc L) (args.map (bc.aI r)) d o r (K tk):=by
 exact tP (op:=(.jc L)) (vs:=args.map (bc.aI r)) (_root_.id rfl) (_root_.id rfl) (ix c [] tk) rfl (A:=fun kw=>bx (.jc L) (args.map (bc.aI r)) d o r (K kw))
theorem aoH {n M}:gO P base c ⟨⟨o,(.qA n M),args,g⟩,none,bC⟩ tk r d K=bx (.qA n M) (args.map (bc.aI r)) d o r (K tk):=by
 exact tP (op:=(.qA n M)) (vs:=args.map (bc.aI r)) (_root_.id rfl) (_root_.id rfl) (ix c [] tk) rfl (A:=fun kw=>bx (.qA n M) (args.map (bc.aI r)) d o r (K kw))
theorem aoI:gO P base c ⟨⟨o,.not,args,g⟩,none,bC⟩ tk r d K=bx .not (args.map (bc.aI r)) d o r (K tk):=by
 exact tP (op:= .not) (vs:=args.map (bc.aI r)) (_root_.id rfl) (_root_.id rfl) (ix c [] tk) rfl (A:=fun kw=>bx .not (args.map (bc.aI r)) d o r (K kw))
theorem aoJ {n}:gO P base c ⟨⟨o,(.fieldAddr n),args,g⟩,none,bC⟩ tk r d K=bx (.fieldAddr n) (args.map (bc.aI r)) d o r (K tk):=by
 exact tP (op:=(.fieldAddr n)) (vs:=args.map (bc.aI r)) (_root_.id rfl) (_root_.id rfl) (ix c [] tk) rfl (A:=fun kw=>bx (.fieldAddr n) (args.map (bc.aI r)) d o r (K kw))
theorem aoK:gO P base c ⟨⟨o,.len,args,g⟩,none,bC⟩ tk r d K=bx .len (args.map (bc.aI r)) d o r (K tk):=by
 exact tP (op:= .len) (vs:=args.map (bc.aI r)) (_root_.id rfl) (_root_.id rfl) (ix c [] tk) rfl (A:=fun kw=>bx .len (args.map (bc.aI r)) d o r (K kw))
theorem aoL {j}:gO P base c ⟨⟨o,(.extract j),args,g⟩,none,bC⟩ tk r d K=bx (.extract j) (args.map (bc.aI r)) d o r (K tk):=by
 exact tP (op:=(.extract j)) (vs:=args.map (bc.aI r)) (_root_.id rfl) (_root_.id rfl) (ix c [] tk) rfl (A:=fun kw=>bx (.extract j) (args.map (bc.aI r)) d o r (K kw))
theorem aoM:gO P base c ⟨⟨o,.oS,args,g⟩,none,bC⟩ tk r d K=(ex bC tk [] (jK (args.map (bc.aI r)))∧bx .oS (args.map (bc.aI r)) d o r (K (ix c (jK (args.map (bc.aI r))) tk))):=by
 show (ex bC tk (jx .oS (args.map (bc.aI r))) (gD .oS (args.map (bc.aI r)))∧bx .oS (args.map (bc.aI r)) d o r (K (ix c (gD .oS (args.map (bc.aI r))) tk)))=_;have h1:jx .oS (args.map (bc.aI r))= []:=_root_.id rfl;have B:gD .oS (args.map (bc.aI r))=jK (args.map (bc.aI r)):=by cases args<;>exact _root_.id rfl
 rw[h1,B]
theorem aoN {n}:gO P base c ⟨⟨o,(.oT n),args,g⟩,none,bC⟩ tk r d K=(ex bC tk [] (jK (args.map (bc.aI r)))∧bx (.oT n) (args.map (bc.aI r)) d o r (K (ix c (jK (args.map (bc.aI r))) tk))):=by
 show (ex bC tk (jx (.oT n) (args.map (bc.aI r))) (gD (.oT n) (args.map (bc.aI r)))∧bx (.oT n) (args.map (bc.aI r)) d o r (K (ix c (gD (.oT n) (args.map (bc.aI r))) tk)))=_;have h1:jx (.oT n) (args.map (bc.aI r))= []:=_root_.id rfl;have B:gD (.oT n) (args.map (bc.aI r))=jK (args.map (bc.aI r)):=by cases args<;>exact _root_.id rfl
 rw[h1,B]
theorem aoO {n}:gO P base c ⟨⟨o,(.indexAddr n),args,g⟩,none,bC⟩ tk r d K=(ex bC tk [] (jK (args.map (bc.aI r)))∧bx (.indexAddr n) (args.map (bc.aI r)) d o r (K (ix c (jK (args.map (bc.aI r))) tk))):=by
 show (ex bC tk (jx (.indexAddr n) (args.map (bc.aI r))) (gD (.indexAddr n) (args.map (bc.aI r)))∧bx (.indexAddr n) (args.map (bc.aI r)) d o r (K (ix c (gD (.indexAddr n) (args.map (bc.aI r))) tk)))=_;have h1:jx (.indexAddr n) (args.map (bc.aI r))= []:=_root_.id rfl;have B:gD (.indexAddr n) (args.map (bc.aI r))=jK (args.map (bc.aI r)):=by cases args<;>exact _root_.id rfl
 rw[h1,B]
theorem aoP {a b n}:gO P base c ⟨⟨o,(.slice a b n),args,g⟩,none,bC⟩ tk r d K=(ex bC tk [] (jK (args.map (bc.aI r)))∧bx (.slice a b n) (args.map (bc.aI r)) d o r (K (ix c (jK (args.map (bc.aI r))) tk))):=by
 show (ex bC tk (jx (.slice a b n) (args.map (bc.aI r))) (gD (.slice a b n) (args.map (bc.aI r)))∧bx (.slice a b n) (args.map (bc.aI r)) d o r (K (ix c (gD (.slice a b n) (args.map (bc.aI r))) tk)))=_;have h1:jx (.slice a b n) (args.map (bc.aI r))= []:=_root_.id rfl;have B:gD (.slice a b n) (args.map (bc.aI r))=jK (args.map (bc.aI r)):=by cases args<;>exact _root_.id rfl
 rw[h1,B]
theorem aoQ {l N}:gO P base c ⟨⟨o,.uZ l N,args,g⟩,none,bC⟩ tk r d K=bx (.uZ l N) (args.map (bc.aI r)) d o r (K tk):=by
 exact tP (op:=(.uZ l N)) (vs:=args.map (bc.aI r)) (_root_.id rfl) (_root_.id rfl) (ix c [] tk) rfl (A:=fun kw=>bx (.uZ l N) (args.map (bc.aI r)) d o r (K kw))
theorem aoR {ok aE M D}:gO P base c ⟨⟨o,.ib ok aE M D,args,g⟩,none,bC⟩ tk r d K=(ex bC tk [] (jK (args.map (bc.aI r)))∧bx (.ib ok aE M D) (args.map (bc.aI r)) d o r (K (ix c (jK (args.map (bc.aI r))) tk))):=by
 show (ex bC tk (jx (.ib ok aE M D) (args.map (bc.aI r))) (gD (.ib ok aE M D) (args.map (bc.aI r)))∧bx (.ib ok aE M D) (args.map (bc.aI r)) d o r (K (ix c (gD (.ib ok aE M D) (args.map (bc.aI r))) tk)))=_;have h1:jx (.ib ok aE M D) (args.map (bc.aI r))= []:=_root_.id rfl;have B:gD (.ib ok aE M D) (args.map (bc.aI r))=jK (args.map (bc.aI r)):=by cases args<;>exact _root_.id rfl
 rw[h1,B]
theorem aoS {aE M}:gO P base c ⟨⟨o,.oR aE M,args,g⟩,none,bC⟩ tk r d K=(ex bC tk (jK (args.map (bc.aI r))) []∧bx (.oR aE M) (args.map (bc.aI r)) d o r (K tk)):=by
 show (ex bC tk (jx (.oR aE M) (args.map (bc.aI r))) (gD (.oR aE M) (args.map (bc.aI r)))∧bx (.oR aE M) (args.map (bc.aI r)) d o r (K tk))=_;have h1:jx (.oR aE M) (args.map (bc.aI r))=jK (args.map (bc.aI r)):=by cases args<;>exact _root_.id rfl
 have B:gD (.oR aE M) (args.map (bc.aI r))= []:=_root_.id rfl;rw[h1,B]
theorem aoT {aE M D}:gO P base c ⟨⟨o,.oa aE M D,args,g⟩,none,bC⟩ tk r d K=(ex bC tk (jK (args.map (bc.aI r))) []∧bx (.oa aE M D) (args.map (bc.aI r)) d o r (K tk)):=by
 show (ex bC tk (jx (.oa aE M D) (args.map (bc.aI r))) (gD (.oa aE M D) (args.map (bc.aI r)))∧bx (.oa aE M D) (args.map (bc.aI r)) d o r (K tk))=_;have h1:jx (.oa aE M D) (args.map (bc.aI r))=jK (args.map (bc.aI r)):=by cases args<;>exact _root_.id rfl
 have B:gD (.oa aE M D) (args.map (bc.aI r))= []:=_root_.id rfl;rw[h1,B]
theorem aoU:gO P base c ⟨⟨o,.rv,args,g⟩,none,bC⟩ tk r d K=(ex bC tk (jK (args.map (bc.aI r))) []∧bx .rv (args.map (bc.aI r)) d o r (K tk)):=by
 show (ex bC tk (jx .rv (args.map (bc.aI r))) (gD .rv (args.map (bc.aI r)))∧bx .rv (args.map (bc.aI r)) d o r (K tk))=_;have h1:jx .rv (args.map (bc.aI r))=jK (args.map (bc.aI r)):=by cases args<;>exact _root_.id rfl
 have B:gD .rv (args.map (bc.aI r))= []:=_root_.id rfl;rw[h1,B]
theorem aoV {n}:gO P base c ⟨⟨o,.store n,args,g⟩,none,bC⟩ tk r d K=(ex bC tk (jK (args.map (bc.aI r))) []∧bx (.store n) (args.map (bc.aI r)) d o r (K tk)):=by
 show (ex bC tk (jx (.store n) (args.map (bc.aI r))) (gD (.store n) (args.map (bc.aI r)))∧bx (.store n) (args.map (bc.aI r)) d o r (K tk))=_;have h1:jx (.store n) (args.map (bc.aI r))=jK (args.map (bc.aI r)):=by cases args<;>exact _root_.id rfl
 have B:gD (.store n) (args.map (bc.aI r))= []:=_root_.id rfl;rw[h1,B]
theorem aoW {e N b}:gO P base c ⟨⟨o,.append e N b,args,g⟩,none,bC⟩ tk r d K=(ex bC tk (jK (args.map (bc.aI r))) (OI (args.map (bc.aI r)))∧bx (.append e N b) (args.map (bc.aI r)) d o r (K tk)):=by
 show (ex bC tk (jx (.append e N b) (args.map (bc.aI r))) (gD (.append e N b) (args.map (bc.aI r)))∧bx (.append e N b) (args.map (bc.aI r)) d o r (K tk))=_;have h1:jx (.append e N b) (args.map (bc.aI r))=jK (args.map (bc.aI r)):=by cases args<;>exact _root_.id rfl
 have B:gD (.append e N b) (args.map (bc.aI r))=OI (args.map (bc.aI r)):=by
  generalize args.map (bc.aI r)=vs;rcases vs with _|⟨x,_|⟨y,_|⟨D,vs⟩⟩⟩<;>exact _root_.id rfl
 rw[h1,B]
theorem aoX {q e D}:gO P base c ⟨⟨o,.alloc e D,[],g⟩,some q,bC⟩ tk r d K=
 (ex bC tk [base+q] []∧d[base+q]? =some (.aa e D.length [])∧K ((c,base+q,true)::tk) (put r o (.aW (base+q) 1 0 0)) (d.set (base+q) (.aa e D.length [D]))):=_root_.id rfl
theorem aoY {q e N D len ja}:gO P base c ⟨⟨o,.rx e N D len ja,args,g⟩,some q,bC⟩ tk r d K=
 (ex bC tk [base+q] []∧OL (ob (List.replicate len D) N ja (args.map (bc.aI r))) d[base+q]? (base+q) e N len (args.map (bc.aI r)) d o r (K ((c,base+q,true)::tk))):=by
 show (ex bC tk [base+q] []∧iZ (.rx e N D len ja) (args.map (bc.aI r)) (base+q) d _)=_;unfold OL;simp only[iZ];split<;>simp_all
theorem aoZ {al bz k e N len vs}{K:aJ→List R→Prop}:OL (some al) bz k e N len vs d o r K=
 (((vs.all fun v=>(cf v).all cM)=true∧0 < len)∧bz=some (.aa e N [])∧K (put r o (.own k len 0 len)) (d.set k (.aa e N al))):=_root_.id rfl
end
theorem FQ {P:Program}{f:FuncId}{args:List z}{bC:List Nat}{tk:df}{d:List R}{dst:Option Nat}{r:aJ}{K:aJ→List R→Prop}(ap bk:List Nat){srows:List R}{tM:List z}{br:z→List R→Prop}
 (ht:ex bC tk ap bk) (aB:ap.Nodup) (ao:ew d bk (ap.map some) (ap.map some)=some srows) (Z:dV d (ap.map some) bk args=tM) (hA:aK P f tM srows br)
 (I: ∀ v rs,br v rs→(bk= []∨(pI v=true∧(rs.all Au)=true))∧K (put r dst (dI (eH d.length ap) v)) (fq d ap (rs.map (gu (eH d.length ap))))):
 tO P f args bC tk d dst r K:=
 ⟨ap,bk,srows,ht,aB,ao,by rw[Z];exact hA.mono I⟩
end Go.Abs
