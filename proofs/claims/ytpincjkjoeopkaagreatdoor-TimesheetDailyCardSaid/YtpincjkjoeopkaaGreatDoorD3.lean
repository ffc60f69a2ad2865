/- The abstract machine. -/
import Derived.Test.YtpincjkjoeopkaaGreatDoorD2
set_option linter.all false
namespace Go.Abs
variable [dE]
def kg:List F→List Nat
 |x::_=>db x
 | []=> []
def PL:List F→List Nat
 | [_,y]=>db y
 |_=> []
theorem apL {x:F}{aq:List F}:kg (x::aq)=db x:=_root_.id rfl
theorem apM {x y:F}:PL [x,y]=db y:=_root_.id rfl
theorem apN {z n V l:Nat}:db (.own z n V l)= [z]:=_root_.id rfl
theorem apO {z n V l:Nat}:db (.bd z n V l)= [z]:=_root_.id rfl
theorem apP {U:Nat}{am:List (List F)}:db (.pure U am)= []:=_root_.id rfl
theorem apQ {ap:List F}{V:Nat}:db (.en ap V)= []:=_root_.id rfl
theorem apR:db .bH= []:=_root_.id rfl
theorem apS {z:Nat}:db (.bE z)= [z]:=_root_.id rfl
theorem apT {c:Nat}{tk:dr}:iM c [] tk=tk:=_root_.id rfl
theorem apU {c z:Nat}{rs:List Nat}{tk:dr}:iM c (z::rs) tk=(c,z,false)::iM c rs tk:=_root_.id rfl
section
variable {bL:List Nat} {tk:dr} {W aF:List Nat}
theorem PM:eL bL tk [] []=True:=by simp[eL]
theorem apV:eL bL [] W aF=True:=by simp[eL]
theorem WE {c z:Nat}{w:Bool}:eL bL ((c,z,w)::tk) W aF↔(c∈bL→z∉W∧(w=true→z∉aF))∧eL bL tk W aF:=by
 constructor
 ·intro h;exact⟨fun av=>h c z w (List.mem_cons_self ..) av,fun j I v hm aX=>h j I v (List.mem_cons_of_mem _ hm) aX⟩
 ·rintro⟨h1,G⟩ j I v hm aX;rcases List.mem_cons.1 hm with he|hm
  ·cases he;exact h1 aX
  ·exact G j I v hm aX
theorem apW {c z:Nat}:eL bL ((c,z,false)::tk) W aF=if bL.contains c&&W.contains z then False else eL bL tk W aF:=by
 apply propext;rw[WE]
 by_cases h1:c∈bL<;>by_cases G:z∈W<;>simp[h1,G]
theorem apX {c z:Nat}:eL bL ((c,z,true)::tk) W aF=if bL.contains c&&(W.contains z||aF.contains z) then False else eL bL tk W aF:=by
 apply propext;rw[WE]
 by_cases h1:c∈bL<;>by_cases G:z∈W<;>by_cases au:z∈aF<;>simp[h1,G,au]
end
def wh (P:Program)(f:FuncId)(args:List F)(bL:List Nat)(tk:dr)(r:List Z)(dst:Option Nat)(D:aQ)(K:aQ→List Z→Prop):Prop:=xH P f args bL tk r fun v ca=>K (put D dst v) ca
def PN (P:Program)(bq:List (Nat×fd))(fo:List (TypeId×Nat))(ag:List Nat)(K:aQ→List Z→Prop)(base:Nat)(D:aQ)(r:List Z):Prop:=oi P base bq ag K [] D (r++tr fo)
def PO (ar:Option (List (List F)))(bG:Option Z)(k:Nat)(e:TypeId)(U len:Nat)(vs:List F)(r:List Z)(dst:Option Nat)(D:aQ)(K:aQ→List Z→Prop):Prop:=
 match ar with
 |some ar=>((vs.all fun v=>(cp v).all cV)=true∧0 < len)∧bG=some (.ag e U [])∧K (put D dst (.own k len 0 len)) (r.set k (.ag e U ar))
 |none=>False
section
variable {P:Program} {base c:Nat} {bL:List Nat} {tk:dr} {ag:List Nat} {D:aQ} {r:List Z} {B:Option Nat} {args:List bi} {g:Option (Nat×Bool)}
theorem apY {bb:Nat}{K:oh}{bq:List (Nat×fd)}{fo:List (TypeId×Nat)}:fh P bb (.tq bq fo ag) K D r=PN P bq fo ag K.n r.length D r:=_root_.id rfl
theorem apZ {K:aQ→List Z→Prop}{bq:List (Nat×fd)}{fo:List (TypeId×Nat)}:PN P bq fo ag K base D r=oi P base bq ag K [] D (r++tr fo):=_root_.id rfl
theorem aqa:tr []= []:=_root_.id rfl
theorem aqb {e:TypeId}{U:Nat}{rs:List (TypeId×Nat)}:tr ((e,U)::rs)= .ag e U []::tr rs:=_root_.id rfl
theorem aqc {K:aQ→List Z→Prop}:oi P base [] ag K tk D r=K (eW ag D) r:=_root_.id rfl
theorem aqd {K:aQ→List Z→Prop}{op:gc}{fo:Option Nat}{ds:List (Nat×fd)}:
 oi P base ((c,⟨⟨B,op,args,none⟩,fo,bL⟩)::ds) ag K tk D r=gZ P base c ⟨⟨B,op,args,none⟩,fo,bL⟩ tk D r (oi P base ds ag K):=_root_.id rfl
theorem aqe {K:aQ→List Z→Prop}{op:gc}{fo:Option Nat}{I:Nat}{ej:Bool}{ds:List (Nat×fd)}:
 oi P base ((c,⟨⟨B,op,args,some (I,ej)⟩,fo,bL⟩)::ds) ag K tk D r=ru P base (bs D I) ej c ⟨⟨B,op,args,some (I,ej)⟩,fo,bL⟩ tk D r (oi P base ds ag K):=_root_.id rfl
variable {K:dr→aQ→List Z→Prop}
theorem aqf {V:fd}:ru P base (.bool true) true c V tk D r K=gZ P base c V tk D r K:=_root_.id rfl
theorem aqg {V:fd}:ru P base (.bool false) false c V tk D r K=gZ P base c V tk D r K:=_root_.id rfl
theorem aqh {V:fd}:ru P base (.bool true) false c V tk D r K=K tk (put D V.bI.dst (.bo [])) r:=_root_.id rfl
theorem aqi {V:fd}:ru P base (.bool false) true c V tk D r K=K tk (put D V.bI.dst (.bo [])) r:=_root_.id rfl
theorem gw {b ej:Bool}{V:fd}(h1:b=true→ru P base (.bool true) ej c V tk D r K)(G:b=false→ru P base (.bool false) ej c V tk D r K):ru P base (.bool b) ej c V tk D r K:=by
 cases b
 ·exact G rfl
 ·exact h1 rfl
theorem aqj {f:FuncId}:gZ P base c ⟨⟨B,.call f,args,g⟩,none,bL⟩ tk D r K=wh P f (args.map (bi.aM D)) bL tk r B D (K tk):=_root_.id rfl
theorem uO {op:gc}{vs:List F}(hW:jM op vs= [])(dc:fw op vs= [])(kR:dr)(ht:kR=tk){A:dr→Prop}: (eL bL tk (jM op vs) (fw op vs)∧A kR)=A tk:=by
 rw[hW,dc,ht,PM,true_and]
theorem aqk:gZ P base c ⟨⟨B,.qt,args,g⟩,none,bL⟩ tk D r K=bA .qt (args.map (bi.aM D)) r B D (K tk):=by
 exact uO (op:= .qt) (vs:=args.map (bi.aM D)) (_root_.id rfl) (_root_.id rfl) (iM c [] tk) rfl (A:=fun kR=>bA .qt (args.map (bi.aM D)) r B D (K kR))
theorem aql:gZ P base c ⟨⟨B,.pick,args,g⟩,none,bL⟩ tk D r K=bA .pick (args.map (bi.aM D)) r B D (K tk):=by
 exact uO (op:= .pick) (vs:=args.map (bi.aM D)) (_root_.id rfl) (_root_.id rfl) (iM c [] tk) rfl (A:=fun kR=>bA .pick (args.map (bi.aM D)) r B D (K kR))
theorem aqm {M p}:gZ P base c ⟨⟨B,(.build M p),args,g⟩,none,bL⟩ tk D r K=bA (.build M p) (args.map (bi.aM D)) r B D (K tk):=by
 exact uO (op:=(.build M p)) (vs:=args.map (bi.aM D)) (_root_.id rfl) (_root_.id rfl) (iM c [] tk) rfl (A:=fun kR=>bA (.build M p) (args.map (bi.aM D)) r B D (K kR))
theorem aLr:gZ P base c ⟨⟨B,.DR,args,g⟩,none,bL⟩ tk D r K=bA .DR (args.map (bi.aM D)) r B D (K tk):=by
 exact uO (op:= .DR) (vs:=args.map (bi.aM D)) (_root_.id rfl) (_root_.id rfl) (iM c [] tk) rfl (A:=fun kR=>bA .DR (args.map (bi.aM D)) r B D (K kR))
theorem aqn:gZ P base c ⟨⟨B,.tu,args,g⟩,none,bL⟩ tk D r K=bA .tu (args.map (bi.aM D)) r B D (K tk):=by
 exact uO (op:= .tu) (vs:=args.map (bi.aM D)) (_root_.id rfl) (_root_.id rfl) (iM c [] tk) rfl (A:=fun kR=>bA .tu (args.map (bi.aM D)) r B D (K kR))
theorem aqo {V}:gZ P base c ⟨⟨B,(.iY V),args,g⟩,none,bL⟩ tk D r K=bA (.iY V) (args.map (bi.aM D)) r B D (K tk):=by
 exact uO (op:=(.iY V)) (vs:=args.map (bi.aM D)) (_root_.id rfl) (_root_.id rfl) (iM c [] tk) rfl (A:=fun kR=>bA (.iY V) (args.map (bi.aM D)) r B D (K kR))
theorem aqp {n Y}:gZ P base c ⟨⟨B,(.rj n Y),args,g⟩,none,bL⟩ tk D r K=bA (.rj n Y) (args.map (bi.aM D)) r B D (K tk):=by
 exact uO (op:=(.rj n Y)) (vs:=args.map (bi.aM D)) (_root_.id rfl) (_root_.id rfl) (iM c [] tk) rfl (A:=fun kR=>bA (.rj n Y) (args.map (bi.aM D)) r B D (K kR))
theorem aqr:gZ P base c ⟨⟨B,.not,args,g⟩,none,bL⟩ tk D r K=bA .not (args.map (bi.aM D)) r B D (K tk):=by
 exact uO (op:= .not) (vs:=args.map (bi.aM D)) (_root_.id rfl) (_root_.id rfl) (iM c [] tk) rfl (A:=fun kR=>bA .not (args.map (bi.aM D)) r B D (K kR))
theorem aqs {n}:gZ P base c ⟨⟨B,(.fieldAddr n),args,g⟩,none,bL⟩ tk D r K=bA (.fieldAddr n) (args.map (bi.aM D)) r B D (K tk):=by
 exact uO (op:=(.fieldAddr n)) (vs:=args.map (bi.aM D)) (_root_.id rfl) (_root_.id rfl) (iM c [] tk) rfl (A:=fun kR=>bA (.fieldAddr n) (args.map (bi.aM D)) r B D (K kR))
theorem aqt:gZ P base c ⟨⟨B,.len,args,g⟩,none,bL⟩ tk D r K=bA .len (args.map (bi.aM D)) r B D (K tk):=by
 exact uO (op:= .len) (vs:=args.map (bi.aM D)) (_root_.id rfl) (_root_.id rfl) (iM c [] tk) rfl (A:=fun kR=>bA .len (args.map (bi.aM D)) r B D (K kR))
theorem aqu {j}:gZ P base c ⟨⟨B,(.extract j),args,g⟩,none,bL⟩ tk D r K=bA (.extract j) (args.map (bi.aM D)) r B D (K tk):=by
 exact uO (op:=(.extract j)) (vs:=args.map (bi.aM D)) (_root_.id rfl) (_root_.id rfl) (iM c [] tk) rfl (A:=fun kR=>bA (.extract j) (args.map (bi.aM D)) r B D (K kR))
theorem aqv:gZ P base c ⟨⟨B,.pF,args,g⟩,none,bL⟩ tk D r K=(eL bL tk [] (kg (args.map (bi.aM D)))∧bA .pF (args.map (bi.aM D)) r B D (K (iM c (kg (args.map (bi.aM D))) tk))):=by
 show (eL bL tk (jM .pF (args.map (bi.aM D))) (fw .pF (args.map (bi.aM D)))∧bA .pF (args.map (bi.aM D)) r B D (K (iM c (fw .pF (args.map (bi.aM D))) tk)))=_;have h1:jM .pF (args.map (bi.aM D))= []:=_root_.id rfl;have G:fw .pF (args.map (bi.aM D))=kg (args.map (bi.aM D)):=by cases args<;>exact _root_.id rfl
 rw[h1,G]
theorem aqw {n}:gZ P base c ⟨⟨B,(.pG n),args,g⟩,none,bL⟩ tk D r K=(eL bL tk [] (kg (args.map (bi.aM D)))∧bA (.pG n) (args.map (bi.aM D)) r B D (K (iM c (kg (args.map (bi.aM D))) tk))):=by
 show (eL bL tk (jM (.pG n) (args.map (bi.aM D))) (fw (.pG n) (args.map (bi.aM D)))∧bA (.pG n) (args.map (bi.aM D)) r B D (K (iM c (fw (.pG n) (args.map (bi.aM D))) tk)))=_;have h1:jM (.pG n) (args.map (bi.aM D))= []:=_root_.id rfl;have G:fw (.pG n) (args.map (bi.aM D))=kg (args.map (bi.aM D)):=by cases args<;>exact _root_.id rfl
 rw[h1,G]
theorem aqx {n}:gZ P base c ⟨⟨B,(.indexAddr n),args,g⟩,none,bL⟩ tk D r K=(eL bL tk [] (kg (args.map (bi.aM D)))∧bA (.indexAddr n) (args.map (bi.aM D)) r B D (K (iM c (kg (args.map (bi.aM D))) tk))):=by
 show (eL bL tk (jM (.indexAddr n) (args.map (bi.aM D))) (fw (.indexAddr n) (args.map (bi.aM D)))∧bA (.indexAddr n) (args.map (bi.aM D)) r B D (K (iM c (fw (.indexAddr n) (args.map (bi.aM D))) tk)))=_;have h1:jM (.indexAddr n) (args.map (bi.aM D))= []:=_root_.id rfl;have G:fw (.indexAddr n) (args.map (bi.aM D))=kg (args.map (bi.aM D)):=by cases args<;>exact _root_.id rfl
 rw[h1,G]
theorem aqz {l U}:gZ P base c ⟨⟨B,.wb l U,args,g⟩,none,bL⟩ tk D r K=bA (.wb l U) (args.map (bi.aM D)) r B D (K tk):=by
 exact uO (op:=(.wb l U)) (vs:=args.map (bi.aM D)) (_root_.id rfl) (_root_.id rfl) (iM c [] tk) rfl (A:=fun kR=>bA (.wb l U) (args.map (bi.aM D)) r B D (K kR))
theorem aqA {ok aK Y M}:gZ P base c ⟨⟨B,.iw ok aK Y M,args,g⟩,none,bL⟩ tk D r K=(eL bL tk [] (kg (args.map (bi.aM D)))∧bA (.iw ok aK Y M) (args.map (bi.aM D)) r B D (K (iM c (kg (args.map (bi.aM D))) tk))):=by
 show (eL bL tk (jM (.iw ok aK Y M) (args.map (bi.aM D))) (fw (.iw ok aK Y M) (args.map (bi.aM D)))∧bA (.iw ok aK Y M) (args.map (bi.aM D)) r B D (K (iM c (fw (.iw ok aK Y M) (args.map (bi.aM D))) tk)))=_;have h1:jM (.iw ok aK Y M) (args.map (bi.aM D))= []:=_root_.id rfl;have G:fw (.iw ok aK Y M) (args.map (bi.aM D))=kg (args.map (bi.aM D)):=by cases args<;>exact _root_.id rfl
 rw[h1,G]
theorem aqB {aK Y}:gZ P base c ⟨⟨B,.pE aK Y,args,g⟩,none,bL⟩ tk D r K=(eL bL tk (kg (args.map (bi.aM D))) []∧bA (.pE aK Y) (args.map (bi.aM D)) r B D (K tk)):=by
 show (eL bL tk (jM (.pE aK Y) (args.map (bi.aM D))) (fw (.pE aK Y) (args.map (bi.aM D)))∧bA (.pE aK Y) (args.map (bi.aM D)) r B D (K tk))=_;have h1:jM (.pE aK Y) (args.map (bi.aM D))=kg (args.map (bi.aM D)):=by cases args<;>exact _root_.id rfl
 have G:fw (.pE aK Y) (args.map (bi.aM D))= []:=_root_.id rfl;rw[h1,G]
theorem aqC {aK Y M}:gZ P base c ⟨⟨B,.oU aK Y M,args,g⟩,none,bL⟩ tk D r K=(eL bL tk (kg (args.map (bi.aM D))) []∧bA (.oU aK Y M) (args.map (bi.aM D)) r B D (K tk)):=by
 show (eL bL tk (jM (.oU aK Y M) (args.map (bi.aM D))) (fw (.oU aK Y M) (args.map (bi.aM D)))∧bA (.oU aK Y M) (args.map (bi.aM D)) r B D (K tk))=_;have h1:jM (.oU aK Y M) (args.map (bi.aM D))=kg (args.map (bi.aM D)):=by cases args<;>exact _root_.id rfl
 have G:fw (.oU aK Y M) (args.map (bi.aM D))= []:=_root_.id rfl;rw[h1,G]
theorem aqD:gZ P base c ⟨⟨B,.sj,args,g⟩,none,bL⟩ tk D r K=(eL bL tk (kg (args.map (bi.aM D))) []∧bA .sj (args.map (bi.aM D)) r B D (K tk)):=by
 show (eL bL tk (jM .sj (args.map (bi.aM D))) (fw .sj (args.map (bi.aM D)))∧bA .sj (args.map (bi.aM D)) r B D (K tk))=_;have h1:jM .sj (args.map (bi.aM D))=kg (args.map (bi.aM D)):=by cases args<;>exact _root_.id rfl
 have G:fw .sj (args.map (bi.aM D))= []:=_root_.id rfl;rw[h1,G]
theorem aqE {n}:gZ P base c ⟨⟨B,.store n,args,g⟩,none,bL⟩ tk D r K=(eL bL tk (kg (args.map (bi.aM D))) []∧bA (.store n) (args.map (bi.aM D)) r B D (K tk)):=by
 show (eL bL tk (jM (.store n) (args.map (bi.aM D))) (fw (.store n) (args.map (bi.aM D)))∧bA (.store n) (args.map (bi.aM D)) r B D (K tk))=_;have h1:jM (.store n) (args.map (bi.aM D))=kg (args.map (bi.aM D)):=by cases args<;>exact _root_.id rfl
 have G:fw (.store n) (args.map (bi.aM D))= []:=_root_.id rfl;rw[h1,G]
theorem aqF {e U b}:gZ P base c ⟨⟨B,.append e U b,args,g⟩,none,bL⟩ tk D r K=(eL bL tk (kg (args.map (bi.aM D))) (PL (args.map (bi.aM D)))∧bA (.append e U b) (args.map (bi.aM D)) r B D (K tk)):=by
 show (eL bL tk (jM (.append e U b) (args.map (bi.aM D))) (fw (.append e U b) (args.map (bi.aM D)))∧bA (.append e U b) (args.map (bi.aM D)) r B D (K tk))=_;have h1:jM (.append e U b) (args.map (bi.aM D))=kg (args.map (bi.aM D)):=by cases args<;>exact _root_.id rfl
 have G:fw (.append e U b) (args.map (bi.aM D))=PL (args.map (bi.aM D)):=by
  generalize args.map (bi.aM D)=vs;rcases vs with _|⟨x,_|⟨y,_|⟨M,vs⟩⟩⟩<;>exact _root_.id rfl
 rw[h1,G]
theorem aqG {q e M}:gZ P base c ⟨⟨B,.alloc e M,[],g⟩,some q,bL⟩ tk D r K=
 (eL bL tk [base+q] []∧r[base+q]? =some (.ag e M.length [])∧K ((c,base+q,true)::tk) (put D B (.bd (base+q) 1 0 0)) (r.set (base+q) (.ag e M.length [M]))):=_root_.id rfl
theorem aqH {q e U M len jq}:gZ P base c ⟨⟨B,.sk e U M len jq,args,g⟩,some q,bL⟩ tk D r K=
 (eL bL tk [base+q] []∧PO (oV (List.replicate len M) U jq (args.map (bi.aM D))) r[base+q]? (base+q) e U len (args.map (bi.aM D)) r B D (K ((c,base+q,true)::tk))):=by
 show (eL bL tk [base+q] []∧jp (.sk e U M len jq) (args.map (bi.aM D)) (base+q) r _)=_;unfold PO;simp only[jp];split<;>simp_all
theorem aqI {ar bG k e U len vs}{K:aQ→List Z→Prop}:PO (some ar) bG k e U len vs r B D K=
 (((vs.all fun v=>(cp v).all cV)=true∧0 < len)∧bG=some (.ag e U [])∧K (put D B (.own k len 0 len)) (r.set k (.ag e U ar))):=_root_.id rfl
end
theorem KM {P:Program}{f:FuncId}{args:List F}{bL:List Nat}{tk:dr}{r:List Z}{dst:Option Nat}{D:aQ}{K:aQ→List Z→Prop}(ax bn:List Nat){srows:List Z}{rq:List F}{bh:F→List Z→Prop}
 (ht:eL bL tk ax bn) (aH:ax.Nodup) (aw:eC r bn (ax.map some) (ax.map some)=some srows) (hb:dT r (ax.map some) bn args=rq) (hA:aO P f rq srows bh)
 (O: ∀ v rs,bh v rs→(bn= []∨(oT v=true∧(rs.all Bz)=true))∧K (put D dst (dS (eU r.length ax) v)) (fu r ax (rs.map (gD (eU r.length ax))))):
 wh P f args bL tk r dst D K:=
 ⟨ax,bn,srows,ht,aH,aw,by rw[hb];exact hA.mono O⟩
end Go.Abs
