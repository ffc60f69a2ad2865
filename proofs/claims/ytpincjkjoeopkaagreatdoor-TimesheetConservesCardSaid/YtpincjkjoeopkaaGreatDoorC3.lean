/- The abstract machine. -/
import Derived.Test.YtpincjkjoeopkaaGreatDoorC2
set_option linter.all false
namespace Go.Abs
variable [dE]
def kg:List F->List Nat
 |x::_=>db x
 | []=> []
def PL:List F->List Nat
 | [_,y]=>db y
 |_=> []
theorem apL {x:F}{aq:List F}:kg (x::aq)=db x:=aKF rfl
theorem apM {x y:F}:PL [x,y]=db y:=aKF rfl
theorem apN {z n V l:Nat}:db (.own z n V l)=[z]:=aKF rfl
theorem apO {z n V l:Nat}:db (.bd z n V l)=[z]:=aKF rfl
theorem apP {U:Nat}{am:List (List F)}:db (.pure U am)=[]:=aKF rfl
theorem apQ {ap:List F}{V:Nat}:db (.en ap V)=[]:=aKF rfl
theorem apR:db .bH=[]:=aKF rfl
theorem apS {z:Nat}:db (.bE z)=[z]:=aKF rfl
theorem apT {c:Nat}{tk:dr}:iM c [] tk=tk:=aKF rfl
theorem apU {c z:Nat}{rs:List Nat}{tk:dr}:iM c (z::rs) tk=(c,z,false)::iM c rs tk:=aKF rfl
section
variable {bL:List Nat} {tk:dr} {W aF:List Nat}
theorem PM:eL bL tk [] []=True:=by simp[eL]
theorem apV:eL bL [] W aF=True:=by simp[eL]
theorem WE {c z:Nat}{w:Bool}:eL bL ((c,z,w)::tk) W aF↔(c∈bL->z∉W/\(w=true->z∉aF))/\eL bL tk W aF:=by
 constructor
 ·intro h;exact⟨λav=>h c z w (aLa ..) av,λj I v hm hj=>h j I v (aK1 _ hm) hj⟩
 ·rintro⟨d,G⟩ j I v hm hj;rcases aKV.1 hm with he|hm
  ·cases he;exact d hj
  ·exact G j I v hm hj
theorem apW {c z:Nat}:eL bL ((c,z,false)::tk) W aF=if bL.contains c&&W.contains z then False else eL bL tk W aF:=by
 apply propext;rw[WE]
 by_cases d:c∈bL<;>by_cases G:z∈W<;>simp[d,G]
theorem apX {c z:Nat}:eL bL ((c,z,true)::tk) W aF=if bL.contains c&&(W.contains z||aF.contains z) then False else eL bL tk W aF:=by
 apply propext;rw[WE]
 by_cases d:c∈bL<;>by_cases G:z∈W<;>by_cases au:z∈aF<;>simp[d,G,au]
end
def wh (P:Program)(f:FuncId)(args:List F)(bL:List Nat)(tk:dr)(r:List Z)(dst:Option Nat)(D:aQ)(K:aQ->List Z->Prop):Prop:=xH P f args bL tk r λv ca=>K (put D dst v) ca
def PN (P:Program)(bq:List (Nat×fd))(fo:List (TypeId×Nat))(ag:List Nat)(K:aQ->List Z->Prop)(base:Nat)(D:aQ)(r:List Z):Prop:=oi P base bq ag K [] D (r++tr fo)
def PO (ar:Option (List (List F)))(bG:Option Z)(k:Nat)(e:TypeId)(U len:Nat)(vs:List F)(r:List Z)(dst:Option Nat)(D:aQ)(K:aQ->List Z->Prop):Prop:=
 match ar with
 |some ar=>((vs.all λv=>(cp v).all cV)=true/\0<len)/\bG=some (.ag e U [])/\K (put D dst (.own k len 0 len)) (r.set k (.ag e U ar))
 |none=>False
section
variable {P:Program} {base c:Nat} {bL:List Nat} {tk:dr} {ag:List Nat} {D:aQ} {r:List Z} {B:Option Nat} {args:List bi} {g:Option (Nat×Bool)}
theorem apY {bb:Nat}{K:oh}{bq:List (Nat×fd)}{fo:List (TypeId×Nat)}:fh P bb (.tq bq fo ag) K D r=PN P bq fo ag K.n r.length D r:=aKF rfl
theorem apZ {K:aQ->List Z->Prop}{bq:List (Nat×fd)}{fo:List (TypeId×Nat)}:PN P bq fo ag K base D r=oi P base bq ag K [] D (r++tr fo):=aKF rfl
theorem aqa:tr []=[]:=aKF rfl
theorem aqb {e:TypeId}{U:Nat}{rs:List (TypeId×Nat)}:tr ((e,U)::rs)= .ag e U []::tr rs:=aKF rfl
theorem aqc {K:aQ->List Z->Prop}:oi P base [] ag K tk D r=K (eW ag D) r:=aKF rfl
theorem aqd {K:aQ->List Z->Prop}{op:gc}{fo:Option Nat}{ds:List (Nat×fd)}:
 oi P base ((c,⟨⟨B,op,args,none⟩,fo,bL⟩)::ds) ag K tk D r=gZ P base c ⟨⟨B,op,args,none⟩,fo,bL⟩ tk D r (oi P base ds ag K):=aKF rfl
theorem aqe {K:aQ->List Z->Prop}{op:gc}{fo:Option Nat}{I:Nat}{ej:Bool}{ds:List (Nat×fd)}:
 oi P base ((c,⟨⟨B,op,args,some (I,ej)⟩,fo,bL⟩)::ds) ag K tk D r=ru P base (bs D I) ej c ⟨⟨B,op,args,some (I,ej)⟩,fo,bL⟩ tk D r (oi P base ds ag K):=aKF rfl
variable {K:dr->aQ->List Z->Prop}
theorem aqf {V:fd}:ru P base (.bool true) true c V tk D r K=gZ P base c V tk D r K:=aKF rfl
theorem aqg {V:fd}:ru P base (.bool false) false c V tk D r K=gZ P base c V tk D r K:=aKF rfl
theorem aqh {V:fd}:ru P base (.bool true) false c V tk D r K=K tk (put D V.bI.dst (.bo [])) r:=aKF rfl
theorem aqi {V:fd}:ru P base (.bool false) true c V tk D r K=K tk (put D V.bI.dst (.bo [])) r:=aKF rfl
theorem aSz {V:fd}{ej:Bool}:ru P base (.bo []) ej c V tk D r K=K tk (put D V.bI.dst (.bo [])) r:=aKF rfl
theorem gw {b ej:Bool}{V:fd}(d:b=true->ru P base (.bool true) ej c V tk D r K)(G:b=false->ru P base (.bool false) ej c V tk D r K):ru P base (.bool b) ej c V tk D r K:=by
 cases b
 ·exact G rfl
 ·exact d rfl
theorem aqj {f:FuncId}:gZ P base c ⟨⟨B,.call f,args,g⟩,none,bL⟩ tk D r K=wh P f (args.map (bi.aM D)) bL tk r B D (K tk):=aKF rfl
theorem uO {op:gc}{vs:List F}(hW:jM op vs=[])(dc:fw op vs=[])(kR:dr)(ht:kR=tk){A:dr->Prop}: (eL bL tk (jM op vs) (fw op vs)/\A kR)=A tk:=by
 rw[hW,dc,ht,PM,aMh]
theorem aqk:gZ P base c ⟨⟨B,.qt,args,g⟩,none,bL⟩ tk D r K=bA .qt (args.map (bi.aM D)) r B D (K tk):=by
 exact uO (op:= .qt) (vs:=args.map (bi.aM D)) (aKF rfl) (aKF rfl) (iM c [] tk) rfl (A:=λkR=>bA .qt (args.map (bi.aM D)) r B D (K kR))
theorem aql:gZ P base c ⟨⟨B,.pick,args,g⟩,none,bL⟩ tk D r K=bA .pick (args.map (bi.aM D)) r B D (K tk):=by
 exact uO (op:= .pick) (vs:=args.map (bi.aM D)) (aKF rfl) (aKF rfl) (iM c [] tk) rfl (A:=λkR=>bA .pick (args.map (bi.aM D)) r B D (K kR))
theorem aqm {M p}:gZ P base c ⟨⟨B,(.build M p),args,g⟩,none,bL⟩ tk D r K=bA (.build M p) (args.map (bi.aM D)) r B D (K tk):=by
 exact uO (op:=(.build M p)) (vs:=args.map (bi.aM D)) (aKF rfl) (aKF rfl) (iM c [] tk) rfl (A:=λkR=>bA (.build M p) (args.map (bi.aM D)) r B D (K kR))
theorem aqn:gZ P base c ⟨⟨B,.tu,args,g⟩,none,bL⟩ tk D r K=bA .tu (args.map (bi.aM D)) r B D (K tk):=by
 exact uO (op:= .tu) (vs:=args.map (bi.aM D)) (aKF rfl) (aKF rfl) (iM c [] tk) rfl (A:=λkR=>bA .tu (args.map (bi.aM D)) r B D (K kR))
theorem aqo {V}:gZ P base c ⟨⟨B,(.iY V),args,g⟩,none,bL⟩ tk D r K=bA (.iY V) (args.map (bi.aM D)) r B D (K tk):=by
 exact uO (op:=(.iY V)) (vs:=args.map (bi.aM D)) (aKF rfl) (aKF rfl) (iM c [] tk) rfl (A:=λkR=>bA (.iY V) (args.map (bi.aM D)) r B D (K kR))
theorem aqp {n Y}:gZ P base c ⟨⟨B,(.rj n Y),args,g⟩,none,bL⟩ tk D r K=bA (.rj n Y) (args.map (bi.aM D)) r B D (K tk):=by
 exact uO (op:=(.rj n Y)) (vs:=args.map (bi.aM D)) (aKF rfl) (aKF rfl) (iM c [] tk) rfl (A:=λkR=>bA (.rj n Y) (args.map (bi.aM D)) r B D (K kR))
theorem aqr:gZ P base c ⟨⟨B,.not,args,g⟩,none,bL⟩ tk D r K=bA .not (args.map (bi.aM D)) r B D (K tk):=by
 exact uO (op:= .not) (vs:=args.map (bi.aM D)) (aKF rfl) (aKF rfl) (iM c [] tk) rfl (A:=λkR=>bA .not (args.map (bi.aM D)) r B D (K kR))
theorem aqs {n}:gZ P base c ⟨⟨B,(.fieldAddr n),args,g⟩,none,bL⟩ tk D r K=bA (.fieldAddr n) (args.map (bi.aM D)) r B D (K tk):=by
 exact uO (op:=(.fieldAddr n)) (vs:=args.map (bi.aM D)) (aKF rfl) (aKF rfl) (iM c [] tk) rfl (A:=λkR=>bA (.fieldAddr n) (args.map (bi.aM D)) r B D (K kR))
theorem aqt:gZ P base c ⟨⟨B,.len,args,g⟩,none,bL⟩ tk D r K=bA .len (args.map (bi.aM D)) r B D (K tk):=by
 exact uO (op:= .len) (vs:=args.map (bi.aM D)) (aKF rfl) (aKF rfl) (iM c [] tk) rfl (A:=λkR=>bA .len (args.map (bi.aM D)) r B D (K kR))
theorem aqu {j}:gZ P base c ⟨⟨B,(.extract j),args,g⟩,none,bL⟩ tk D r K=bA (.extract j) (args.map (bi.aM D)) r B D (K tk):=by
 exact uO (op:=(.extract j)) (vs:=args.map (bi.aM D)) (aKF rfl) (aKF rfl) (iM c [] tk) rfl (A:=λkR=>bA (.extract j) (args.map (bi.aM D)) r B D (K kR))
theorem aqv:gZ P base c ⟨⟨B,.pF,args,g⟩,none,bL⟩ tk D r K=(eL bL tk [] (kg (args.map (bi.aM D)))/\bA .pF (args.map (bi.aM D)) r B D (K (iM c (kg (args.map (bi.aM D))) tk))):=by
 show (eL bL tk (jM .pF (args.map (bi.aM D))) (fw .pF (args.map (bi.aM D)))/\bA .pF (args.map (bi.aM D)) r B D (K (iM c (fw .pF (args.map (bi.aM D))) tk)))=_;have d:jM .pF (args.map (bi.aM D))=[]:=aKF rfl;have G:fw .pF (args.map (bi.aM D))=kg (args.map (bi.aM D)):=by cases args<;>exact aKF rfl
 rw[d,G]
theorem aqw {n}:gZ P base c ⟨⟨B,(.pG n),args,g⟩,none,bL⟩ tk D r K=(eL bL tk [] (kg (args.map (bi.aM D)))/\bA (.pG n) (args.map (bi.aM D)) r B D (K (iM c (kg (args.map (bi.aM D))) tk))):=by
 show (eL bL tk (jM (.pG n) (args.map (bi.aM D))) (fw (.pG n) (args.map (bi.aM D)))/\bA (.pG n) (args.map (bi.aM D)) r B D (K (iM c (fw (.pG n) (args.map (bi.aM D))) tk)))=_;have d:jM (.pG n) (args.map (bi.aM D))=[]:=aKF rfl;have G:fw (.pG n) (args.map (bi.aM D))=kg (args.map (bi.aM D)):=by cases args<;>exact aKF rfl
 rw[d,G]
theorem aqx {n}:gZ P base c ⟨⟨B,(.indexAddr n),args,g⟩,none,bL⟩ tk D r K=(eL bL tk [] (kg (args.map (bi.aM D)))/\bA (.indexAddr n) (args.map (bi.aM D)) r B D (K (iM c (kg (args.map (bi.aM D))) tk))):=by
 show (eL bL tk (jM (.indexAddr n) (args.map (bi.aM D))) (fw (.indexAddr n) (args.map (bi.aM D)))/\bA (.indexAddr n) (args.map (bi.aM D)) r B D (K (iM c (fw (.indexAddr n) (args.map (bi.aM D))) tk)))=_;have d:jM (.indexAddr n) (args.map (bi.aM D))=[]:=aKF rfl;have G:fw (.indexAddr n) (args.map (bi.aM D))=kg (args.map (bi.aM D)):=by cases args<;>exact aKF rfl
 rw[d,G]
theorem aqy {a b n}:gZ P base c ⟨⟨B,(.slice a b n),args,g⟩,none,bL⟩ tk D r K=(eL bL tk [] (kg (args.map (bi.aM D)))/\bA (.slice a b n) (args.map (bi.aM D)) r B D (K (iM c (kg (args.map (bi.aM D))) tk))):=by
 show (eL bL tk (jM (.slice a b n) (args.map (bi.aM D))) (fw (.slice a b n) (args.map (bi.aM D)))/\bA (.slice a b n) (args.map (bi.aM D)) r B D (K (iM c (fw (.slice a b n) (args.map (bi.aM D))) tk)))=_;have d:jM (.slice a b n) (args.map (bi.aM D))=[]:=aKF rfl;have G:fw (.slice a b n) (args.map (bi.aM D))=kg (args.map (bi.aM D)):=by cases args<;>exact aKF rfl
 rw[d,G]
theorem aqz {l U}:gZ P base c ⟨⟨B,.wb l U,args,g⟩,none,bL⟩ tk D r K=bA (.wb l U) (args.map (bi.aM D)) r B D (K tk):=by
 exact uO (op:=(.wb l U)) (vs:=args.map (bi.aM D)) (aKF rfl) (aKF rfl) (iM c [] tk) rfl (A:=λkR=>bA (.wb l U) (args.map (bi.aM D)) r B D (K kR))
theorem aqA {ok aK Y M}:gZ P base c ⟨⟨B,.iw ok aK Y M,args,g⟩,none,bL⟩ tk D r K=(eL bL tk [] (kg (args.map (bi.aM D)))/\bA (.iw ok aK Y M) (args.map (bi.aM D)) r B D (K (iM c (kg (args.map (bi.aM D))) tk))):=by
 show (eL bL tk (jM (.iw ok aK Y M) (args.map (bi.aM D))) (fw (.iw ok aK Y M) (args.map (bi.aM D)))/\bA (.iw ok aK Y M) (args.map (bi.aM D)) r B D (K (iM c (fw (.iw ok aK Y M) (args.map (bi.aM D))) tk)))=_;have d:jM (.iw ok aK Y M) (args.map (bi.aM D))=[]:=aKF rfl;have G:fw (.iw ok aK Y M) (args.map (bi.aM D))=kg (args.map (bi.aM D)):=by cases args<;>exact aKF rfl
 rw[d,G]
theorem aqB {aK Y}:gZ P base c ⟨⟨B,.pE aK Y,args,g⟩,none,bL⟩ tk D r K=(eL bL tk (kg (args.map (bi.aM D))) []/\bA (.pE aK Y) (args.map (bi.aM D)) r B D (K tk)):=by
 show (eL bL tk (jM (.pE aK Y) (args.map (bi.aM D))) (fw (.pE aK Y) (args.map (bi.aM D)))/\bA (.pE aK Y) (args.map (bi.aM D)) r B D (K tk))=_;have d:jM (.pE aK Y) (args.map (bi.aM D))=kg (args.map (bi.aM D)):=by cases args<;>exact aKF rfl
 have G:fw (.pE aK Y) (args.map (bi.aM D))=[]:=aKF rfl;rw[d,G]
theorem aqC {aK Y M}:gZ P base c ⟨⟨B,.oU aK Y M,args,g⟩,none,bL⟩ tk D r K=(eL bL tk (kg (args.map (bi.aM D))) []/\bA (.oU aK Y M) (args.map (bi.aM D)) r B D (K tk)):=by
 show (eL bL tk (jM (.oU aK Y M) (args.map (bi.aM D))) (fw (.oU aK Y M) (args.map (bi.aM D)))/\bA (.oU aK Y M) (args.map (bi.aM D)) r B D (K tk))=_;have d:jM (.oU aK Y M) (args.map (bi.aM D))=kg (args.map (bi.aM D)):=by cases args<;>exact aKF rfl
 have G:fw (.oU aK Y M) (args.map (bi.aM D))=[]:=aKF rfl;rw[d,G]
theorem aqD:gZ P base c ⟨⟨B,.sj,args,g⟩,none,bL⟩ tk D r K=(eL bL tk (kg (args.map (bi.aM D))) []/\bA .sj (args.map (bi.aM D)) r B D (K tk)):=by
 show (eL bL tk (jM .sj (args.map (bi.aM D))) (fw .sj (args.map (bi.aM D)))/\bA .sj (args.map (bi.aM D)) r B D (K tk))=_;have d:jM .sj (args.map (bi.aM D))=kg (args.map (bi.aM D)):=by cases args<;>exact aKF rfl
 have G:fw .sj (args.map (bi.aM D))=[]:=aKF rfl;rw[d,G]
theorem aSA {U}:gZ P base c ⟨⟨B,.copy U,args,g⟩,none,bL⟩ tk D r K=(eL bL tk (kg (args.map (bi.aM D))) (PL (args.map (bi.aM D)))/\bA (.copy U) (args.map (bi.aM D)) r B D (K tk)):=by
 show (eL bL tk (jM (.copy U) (args.map (bi.aM D))) (fw (.copy U) (args.map (bi.aM D)))/\bA (.copy U) (args.map (bi.aM D)) r B D (K tk))=_;have d:jM (.copy U) (args.map (bi.aM D))=kg (args.map (bi.aM D)):=by cases args<;>exact aKF rfl
 have G:fw (.copy U) (args.map (bi.aM D))=PL (args.map (bi.aM D)):=by
  generalize args.map (bi.aM D)=vs;rcases vs with _|⟨x,_|⟨y,_|⟨M,vs⟩⟩⟩<;>exact aKF rfl
 rw[d,G]
theorem aqE {n}:gZ P base c ⟨⟨B,.store n,args,g⟩,none,bL⟩ tk D r K=(eL bL tk (kg (args.map (bi.aM D))) []/\bA (.store n) (args.map (bi.aM D)) r B D (K tk)):=by
 show (eL bL tk (jM (.store n) (args.map (bi.aM D))) (fw (.store n) (args.map (bi.aM D)))/\bA (.store n) (args.map (bi.aM D)) r B D (K tk))=_;have d:jM (.store n) (args.map (bi.aM D))=kg (args.map (bi.aM D)):=by cases args<;>exact aKF rfl
 have G:fw (.store n) (args.map (bi.aM D))=[]:=aKF rfl;rw[d,G]
theorem aqF {e U b}:gZ P base c ⟨⟨B,.append e U b,args,g⟩,none,bL⟩ tk D r K=(eL bL tk (kg (args.map (bi.aM D))) (PL (args.map (bi.aM D)))/\bA (.append e U b) (args.map (bi.aM D)) r B D (K tk)):=by
 show (eL bL tk (jM (.append e U b) (args.map (bi.aM D))) (fw (.append e U b) (args.map (bi.aM D)))/\bA (.append e U b) (args.map (bi.aM D)) r B D (K tk))=_;have d:jM (.append e U b) (args.map (bi.aM D))=kg (args.map (bi.aM D)):=by cases args<;>exact aKF rfl
 have G:fw (.append e U b) (args.map (bi.aM D))=PL (args.map (bi.aM D)):=by
  generalize args.map (bi.aM D)=vs;rcases vs with _|⟨x,_|⟨y,_|⟨M,vs⟩⟩⟩<;>exact aKF rfl
 rw[d,G]
theorem aqG {q e M}:gZ P base c ⟨⟨B,.alloc e M,[],g⟩,some q,bL⟩ tk D r K=
 (eL bL tk [base+q] []/\r[base+q]? =some (.ag e M.length [])/\K ((c,base+q,true)::tk) (put D B (.bd (base+q) 1 0 0)) (r.set (base+q) (.ag e M.length [M]))):=aKF rfl
theorem aqH {q e U M len jq}:gZ P base c ⟨⟨B,.sk e U M len jq,args,g⟩,some q,bL⟩ tk D r K=
 (eL bL tk [base+q] []/\PO (oV (List.replicate len M) U jq (args.map (bi.aM D))) r[base+q]? (base+q) e U len (args.map (bi.aM D)) r B D (K ((c,base+q,true)::tk))):=by
 show (eL bL tk [base+q] []/\jp (.sk e U M len jq) (args.map (bi.aM D)) (base+q) r _)=_;unfold PO;simp only[jp];split<;>simp_all
theorem aqI {ar bG k e U len vs}{K:aQ->List Z->Prop}:PO (some ar) bG k e U len vs r B D K=
 (((vs.all λv=>(cp v).all cV)=true/\0<len)/\bG=some (.ag e U [])/\K (put D B (.own k len 0 len)) (r.set k (.ag e U ar))):=aKF rfl
end
theorem KM {P:Program}{f:FuncId}{args:List F}{bL:List Nat}{tk:dr}{r:List Z}{dst:Option Nat}{D:aQ}{K:aQ->List Z->Prop}(ax bn:List Nat){srows:List Z}{rq:List F}{bh:F->List Z->Prop}
 (ht:eL bL tk ax bn) (aH:ax.Nodup) (aw:eC r bn (ax.map some) (ax.map some)=some srows) (af:dT r (ax.map some) bn args=rq) (hA:aO P f rq srows bh)
 (O:∀v rs,bh v rs->(bn=[]\/(oT v=true/\(rs.all Bz)=true))/\K (put D dst (dS (eU r.length ax) v)) (fu r ax (rs.map (gD (eU r.length ax))))):
 wh P f args bL tk r dst D K:=
 ⟨ax,bn,srows,ht,aH,aw,by rw[af];exact hA.mono O⟩
end Go.Abs
