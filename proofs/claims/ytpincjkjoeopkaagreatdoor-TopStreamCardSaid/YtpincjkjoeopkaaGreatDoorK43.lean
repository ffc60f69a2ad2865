/- Time evaluation. -/
import Derived.Test.YtpincjkjoeopkaaGreatDoorK41
import Derived.Test.YtpincjkjoeopkaaGreatDoorK42
import Derived.Test.YtpincjkjoeopkaaGreatDoorK29
import Derived.Test.YtpincjkjoeopkaaGreatDoorK19
set_option linter.unusedSimpArgs false
set_option linter.unusedVariables false
set_option linter.unusedSectionVars false
namespace Go.Proofs.YtpincjkjoeopkaaGreatDoor
open Go Go.Abs
def tZ (e:Rc.Ev):Ib.Ev:=⟨e.cZ,e.Y,e.bk,e.time,e.cB,e.iq,e.eg⟩
def fw (e:Ib.Ev):Rc.Ev:=⟨e.cZ,e.Y,e.bk,e.time,e.cB,e.iq,e.eg⟩
theorem abG (aY:List Rc.Ev):ai (aY.map tZ)=ai aY:=by unfold ai;rw[List.map_map];rfl
theorem lA {e:Ib.Ev}(h:Ib.iD e):Rc.iD (fw e):=h
def lc (bh:List Ib.Ev):List Rc.Ev:=(bh.map fw).reverse
theorem Sw (bh:List Ib.Ev): (lc bh).length=bh.length:=by simp[lc]
theorem abA {bh:List Ib.Ev}(h: ∀ e∈bh,Ib.iD e): ∀ e∈lc bh,Rc.iD e:=fun e he=>by
 unfold lc at he;rw[List.mem_reverse] at he;obtain⟨x,aj,rfl⟩:=List.mem_map.1 he;exact lA (h x aj)
theorem axH {bh:List Ib.Ev}{k:Nat}(h:k < bh.length): (lc bh)[k]'(by rw[Sw];exact h)=fw (bh[bh.length-1-k]'(by omega)):=by
 unfold lc;rw[List.getElem_reverse,List.getElem_map];simp only[List.length_map]
theorem aci {bh:List Ib.Ev}{e:Ib.Ev}:e∈(lc bh).map tZ↔e∈bh:=by
 have: (lc bh).map tZ=bh.reverse:=by
  unfold lc;rw[List.map_reverse,List.map_map];congr 1;exact List.map_id _
 rw[this,List.mem_reverse]
theorem axK {bh:List Ib.Ev}(h: ∀ e∈bh,Ib.iD e){ei:Nat}(ad:ei≤(Rc.lC (lc bh)).length){X ly:List Rc.Ev}(eZ: (Rc.iQ ((Rc.lC (lc bh)).take ei)).1=X)(yp: (Rc.iQ ((Rc.lC (lc bh)).drop (Rc.iQ ((Rc.lC (lc bh)).take ei)).2.2)).1=ly):X++ly=lc bh:=by
 have h1:=(Rc.abB (Rc.lC (lc bh)) ei ad).2.2.1;rw[Rc.azf _ (abA h),eZ,yp] at h1;exact h1.symm
theorem axM {bh:List Ib.Ev}{X ly:List Rc.Ev}(h:X++ly=lc bh)(e:Ib.Ev):e∈Ib.fr (X.map tZ++Ib.fr (ly.map tZ++X.map tZ))↔e∈bh:=by
 rw[Ib.Fl,List.mem_append,Ib.Fl,List.mem_append,←aci (bh:=bh),←h,List.map_append,List.mem_append];exact⟨fun h=>h.elim .inl fun h=>h.elim .inr .inl,fun h=>h.elim .inl fun h=> .inr (.inl h)⟩
theorem axL {bh:List Ib.Ev}{n:Nat}(h:Ib.oz bh n){X ly:List Rc.Ev}(It:X++ly=lc bh):Ib.oz (X.map tZ) n∧Ib.oz (ly.map tZ) n:=by
 have hl:=congrArg List.length It;rw[List.length_append,Sw] at hl;have aH:=h.len;have hm: ∀ e,e∈X.map tZ∨e∈ly.map tZ→e∈bh:=fun e he=>by
  rw[←aci (bh:=bh),←It,List.map_append,List.mem_append];exact he
 exact⟨⟨fun e he=>h.v e (hm e (.inl he)),by rw[List.length_map];omega⟩,⟨fun e he=>h.v e (hm e (.inr he)),by rw[List.length_map];omega⟩⟩
theorem Rc.SS {b:List UInt8}: ∀ {n az:Nat} {ar:List Rc.Ev} {gs:List Rc.lS},az≤b.length→ar.length≤az→(Rc.oB b n az ar gs).1.length≤b.length
 |0,az,ar,gs,h1,G=>by simp only[Rc.oB];omega
 |n+1,az,ar,gs,h1,G=>by
  rw[Rc.oB];split
  ·split
   ·exact Rc.SS (by omega) (by simp;omega)
   ·exact Rc.SS (by omega) (by omega)
  ·exact Nat.le_trans G h1
theorem Rc.abC (b:List UInt8): (Rc.iQ b).1.length≤b.length:=Rc.SS (by omega) (by simp)
open Go.Proofs.Tryz
theorem ayg (t:Int)(h0:0≤t)(h1:t≤120968639):aO prog 259 [.agg [.int .i64 0,.bH],.int .i64 t] [] (fun v rs=>v= .bo [.int .i64 t,.int .i64 0]∧rs= []):=by
 refine ((Ym ⟨0,[]⟩ rfl t h0 h1).le (args':= [.agg [.int .i64 0,.bH],.int .i64 t]) (by simp[hK,le,cc.v,ai])).mono ?_;rintro v rs ⟨rfl,rfl⟩;exact⟨by simp[yf,zQ],rfl⟩
def wH (bm:Bool):List Z:= [.ag 359 3 [[.bH,.bE 1,.bE 2]],.be (.map false [.int .i64] (if bm then [(.int .i64 2025,.bH),(.int .i64 2026,.bH),(.int .i64 2027,.bH)] else [])),.be (.map false [.int .i64] (if bm then [(.int .i64 20454,.bool false)] else []))]
theorem ayh:aO prog 200 [.bH] [] (fun v rs=>v= .bd 0 1 0 0∧rs=wH false):=
 zN (aW:=As) (aY:= []) 60 [(.bd 0 1 0 0,wH false)] (by kernel_rfl) (by intro V h;rw[List.mem_singleton] at h;subst h;exact⟨rfl,rfl⟩)
theorem ayi:aO prog 203 [.bH,.int .i64 0] [] (fun v rs=>v= .int .i64 0∧rs= []):=
 zN (aW:=As) (aY:=MH) 60 [(.int .i64 0,[])] (by kernel_rfl) (by intro V h;rw[List.mem_singleton] at h;subst h;exact⟨rfl,rfl⟩)
theorem abQ (bm:Bool):aO prog 260 [.bd 0 1 0 0,.int .i64 20454] (wH bm) (fun v rs=>v= .bool false∧rs=wH true):=by
 cases bm
 ·exact zN (aW:=As) (aY:=MH) 60 [(.bool false,wH true)] (by kernel_rfl) (by intro V h;rw[List.mem_singleton] at h;subst h;exact⟨rfl,rfl⟩)
 ·exact zN (aW:=As) (aY:=MH) 60 [(.bool false,wH true)] (by kernel_rfl) (by intro V h;rw[List.mem_singleton] at h;subst h;exact⟨rfl,rfl⟩)
theorem ayj (bm:Bool)(t:Int)(h0:29453760≤t)(h1:t < 29455200):aO prog 201 [.agg [.int .i64 0,.bH],.bd 0 1 0 0,.int .i64 t] (wH bm)
 (fun v rs=>v= .agg [.int .i64 (t-29453760),.int .i64 3,.bool false]∧rs=wH true):=by
 refine cu func201 SJ (by simp[Ff,Iy]) ?_;have ay:t.tdiv 1440=20454:=by rw[Int.tdiv_eq_ediv_of_nonneg (by omega)];omega
 have hm:t.tmod 1440=t-29453760:=by rw[Int.tmod_eq_emod_of_nonneg (by omega)];omega
 have dn:IntKind.i64.wrap 20454=20454:=bl (by omega) (by omega);have gI:IntKind.i64.wrap 29453760=29453760:=bl (by omega) (by omega);have ik:IntKind.i64.wrap (t-29453760)=t-29453760:=bl (by omega) (by omega);have aI:decide (t-29453760 < 0)=false:=decide_eq_false (by omega);have bF:IntKind.i64.wrap (t-IntKind.i64.wrap (20454*1440))=t-29453760:=by
  rw[show IntKind.i64.wrap (20454*1440)=29453760 from by decide];exact ik
 have bK: (IntKind.i64.wrap (Int.tmod 20454 7+10)).tmod 7=3:=by decide
 cases bm
 all_goals
  have uQ:=abQ false;have abR:=abQ true;unfold wH at *;simp only[if_true,Bool.false_eq_true,if_false] at uQ abR ⊢;simp only[go_sem,Ff,Iy];refine bM (ayg t (by omega) (by omega)) rfl rfl ?_;simp only[go_sem,ay,hm,dn,aI];refine⟨by omega,by omega,by omega,by omega,?_⟩
 ·(refine fy [0,1,2] (uQ) ?_;rintro _ _ ⟨rfl,rfl⟩;simp only[go_sem])
  simp only[go_sem,bF,bK]
  (refine E.bB [some 0,some 1,some 2] ?_;simp only[go_sem])
  exact E.ac ⟨rfl,rfl⟩
 ·(refine fy [0,1,2] (abR) ?_;rintro _ _ ⟨rfl,rfl⟩;simp only[go_sem])
  simp only[go_sem,bF,bK]
  (refine E.bB [some 0,some 1,some 2] ?_;simp only[go_sem])
  exact E.ac ⟨rfl,rfl⟩
def CN:F:= .agg [.int .i64 0,.int .i64 0,.int .i64 0,.int .i64 0,.int .i64 0,.int .i64 0,.int .i64 0,.int .i64 0,.int .i64 0,.int .i64 0,.int .i64 0,.int .i64 0,.int .i64 0,.int .i64 0,.int .i64 0,.int .i64 0]
structure wI where
 ah:Int
 R:Int
 ab:Int
 ep:ByteArray
instance:aJ wI:=⟨fun a=> [.int .i64 a.ah,.int .i64 a.R,.int .i64 a.ab,.str a.ep],4,fun _=>rfl,fun _=>rfl,fun _=>rfl⟩
theorem ayk (e:wI):aJ.J e= [.int .i64 e.ah,.int .i64 e.R,.int .i64 e.ab,.str e.ep]:=rfl
theorem ayl:aJ.U wI=4:=rfl
theorem aym (e:wI):List.take 4 (aJ.J e)=aJ.J e:=rfl
attribute [go_sem] ayl aym
def MI (p:wI):Prop:=p.ah=20454∧29453760≤p.R∧p.R≤p.ab∧p.ab≤29455200
def MJ (bm:Bool):List (F×F):=if bm then [(.int .i64 2025,.bH),(.int .i64 2026,.bH),(.int .i64 2027,.bH)] else []
def MK (bm:Bool):List (F×F):=if bm then [(.int .i64 20454,.bool false)] else []
def Fg (bm:Bool):List (F×F):=if bm then [(.int .i64 0,.int .i64 0)] else []
def Av (bm:Bool):List (F×F):=if bm then [(.int .i64 20454,CN)] else []
theorem ayn (bm:Bool):kh (MJ bm)=true:=by cases bm<;>rfl
theorem ayo (bm:Bool):kh (MK bm)=true:=by cases bm<;>rfl
theorem ayp (bm:Bool):kh (Fg bm)=true:=by cases bm<;>rfl
theorem ayq (bm:Bool):kh (Av bm)=true:=by cases bm<;>rfl
attribute [go_sem] ayn ayo ayp ayq
theorem ayr (bm:Bool): (dm (.int .i64 20454) (Av bm)).getD CN=CN:=by cases bm<;>rfl
theorem ays (bm:Bool):dy (.int .i64 20454) CN (Av bm)=Av true:=by cases bm<;>rfl
theorem ayt (bm:Bool):dy (.int .i64 0) (.int .i64 0) (Fg bm)=Fg true:=by cases bm<;>rfl
def vl (bm W iZ:Bool):List Z:= [.ag 32 2 [[.int .i64 0,.bH]],.ag 359 3 [[.bH,.bE 2,.bE 3]],.be (.map false [.int .i64] (MJ bm)),.be (.map false [.int .i64] (MK bm)),
 .be (.map false [.int .i64] (Fg W)),.be (.map false [.int .i64] (Av iZ))]
theorem ayu (bm:Bool)(t:Int)(h0:29453760≤t)(h1:t < 29455200):aO prog 201 [.agg [.int .i64 0,.bH],.bd 0 1 0 0,.int .i64 t] [.ag 359 3 [[.bH,.bE 1,.bE 2]],.be (.map false [.int .i64] (MJ bm)),.be (.map false [.int .i64] (MK bm))]
 (fun v rs=>v= .agg [.int .i64 (t-29453760),.int .i64 3,.bool false]∧rs= [.ag 359 3 [[.bH,.bE 1,.bE 2]],.be (.map false [.int .i64] (MJ true)),.be (.map false [.int .i64] (MK true))]):=ayj bm t h0 h1
theorem ayv (aa:List wI)(hl:aa.length≤1000000)(ak: ∀ p∈aa,MI p):aO prog 115 [.agg [.int .i64 0,.bH],.bH,.bH,.pure 4 (ai aa)] []
 (fun v rs=>v= .bE 0∧rs= [.be (.map false [.int .i64] (Av (decide (0 < aa.length))))]):=by
 refine cu func115 SK (by simp[ip,iC]) ?_;have hA:=ayh;unfold wH at hA;simp only[if_true,Bool.false_eq_true,if_false] at hA;simp only[go_sem,ip,iC,bT]
 (refine rv (hA) ?_;rintro _ _ ⟨rfl,rfl⟩;simp only[go_sem])
 refine dN (fun D r=> ∃ (i:Nat) (bm W:Bool),i≤aa.length∧D= [(2,.bH),(4,.bd 0 1 0 0),(9,.bd 1 1 0 0),(10,.bE 4),(11,.bE 5),(27,.pure 4 (ai aa)),(28,.int .i64 aa.length),(29,.int .i64 i)]∧r=vl bm W (decide (0 < i)))
  (fun D _=>match bs D 29 with| .int _ j=>(aa.length-j).toNat|_=>0) ?_ ?_
 ·exact E.ac ⟨0,false,false,by omega,rfl,rfl⟩
 rintro D r ⟨i,bm,W,av,rfl,rfl⟩;have fK:=dB (i:=i) (by omega)
 by_cases aI:i < aa.length
 rotate_left
 ·have h1:decide ((i:Int) < aa.length)=false:=decide_eq_false (by omega);obtain rfl:i=aa.length:=by omega
  unfold vl;simp only[go_sem,ip,iC,h1]
  (refine E.bB [some 5] ?_;simp only[go_sem])
  exact E.ac ⟨rfl,rfl⟩
 have h1:decide ((i:Int) < aa.length)=true:=decide_eq_true (by omega);have z0: (0:Int)≤i:=by omega
 have mn: (i:Int) < aa.length:=by omega
 have aw: (ai aa).getD i []=aJ.J aa[i]:=cT aI;obtain⟨p1,iT,Ds,aJ6⟩:=ak _ (List.getElem_mem aI);generalize aa[i]=p at *;generalize hG:decide (0 < i)=iZ;unfold vl;simp only[go_sem,ip,iC,h1,z0,mn,aw,bT,ayk,p1];rw[show (F.agg [.int .i64 0,.int .i64 0,.int .i64 0,.int .i64 0,.int .i64 0,.int .i64 0,.int .i64 0,.int .i64 0,.int .i64 0,.int .i64 0,.int .i64 0,.int .i64 0,.int .i64 0,.int .i64 0,.int .i64 0,.int .i64 0])=CN from rfl,ayr];refine⟨rfl,rfl,?_⟩;rw[show cp CN= [.int .i64 0,.int .i64 0,.int .i64 0,.int .i64 0,.int .i64 0,.int .i64 0,.int .i64 0,.int .i64 0,.int .i64 0,.int .i64 0,.int .i64 0,.int .i64 0,.int .i64 0,.int .i64 0,.int .i64 0,.int .i64 0] from rfl];refine dN (fun D r=> ∃ (k:Int) (bm W:Bool),p.R≤k∧k≤p.ab∧D= [(2,.bH),(4,.bd 0 1 0 0),(9,.bd 1 1 0 0),(10,.bE 4),(11,.bE 5),(13,.bd 6 1 0 0),(14,.bd 7 1 0 0),(15,.int .i64 k),(27,.pure 4 (ai aa)),(28,.int .i64 aa.length),(29,.int .i64 i)]∧r=vl bm W iZ++ [.ag 221 4 [[.int .i64 20454,.int .i64 p.R,.int .i64 p.ab,.str p.ep]],.ag 227 16 [[.int .i64 0,.int .i64 0,.int .i64 0,.int .i64 0,.int .i64 0,.int .i64 0,.int .i64 0,.int .i64 0,.int .i64 0,.int .i64 0,.int .i64 0,.int .i64 0,.int .i64 0,.int .i64 0,.int .i64 0,.int .i64 0]]])
  (fun D _=>match bs D 15 with| .int _ j=>(p.ab-j).toNat|_=>0) ?_ ?_
 ·exact E.ac ⟨p.R,bm,W,by omega,by omega,rfl,rfl⟩
 clear bm W;rintro D r ⟨k,bm,W,Cm,kL,rfl,rfl⟩;unfold vl
 by_cases Aa:k < p.ab
 rotate_left
 ·have G:decide (k < p.ab)=false:=decide_eq_false Aa;simp only[go_sem,ip,iC,G];rw[fK,show (F.agg [.int .i64 0,.int .i64 0,.int .i64 0,.int .i64 0,.int .i64 0,.int .i64 0,.int .i64 0,.int .i64 0,.int .i64 0,.int .i64 0,.int .i64 0,.int .i64 0,.int .i64 0,.int .i64 0,.int .i64 0,.int .i64 0])=CN from rfl,ays]
  (refine E.bB [some 0,some 1,some 2,some 3,some 4,some 5] ?_;simp only[go_sem])
  refine E.ac ⟨⟨i+1,bm,W,by omega,rfl,?_⟩,?_⟩
  ·rw[decide_eq_true (show 0 < i+1 by omega)]
  ·simp only[go_sem];omega
 have G:decide (k < p.ab)=true:=decide_eq_true Aa;simp only[go_sem,ip,iC,G]
 (refine fy [1,2,3] (ayu bm k (by omega) (by omega)) ?_;rintro _ _ ⟨rfl,rfl⟩;simp only[go_sem])
 have nH:IntKind.i64.wrap (k+1)=k+1:=bl (by omega) (by omega);refine dN (fun D r=>D= [(2,.bH),(4,.bd 0 1 0 0),(9,.bd 1 1 0 0),(10,.bE 4),(11,.bE 5),(13,.bd 6 1 0 0),(14,.bd 7 1 0 0),(15,.int .i64 k),(16,.bd 8 1 0 0),(17,.int .i64 0),(27,.pure 4 (ai aa)),(28,.int .i64 aa.length),(29,.int .i64 i),(51,.bH),(52,.int .i64 0),(53,.int .i64 0)]∧r=vl true W iZ++ [.ag 221 4 [[.int .i64 20454,.int .i64 p.R,.int .i64 p.ab,.str p.ep]],.ag 227 16 [[.int .i64 0,.int .i64 0,.int .i64 0,.int .i64 0,.int .i64 0,.int .i64 0,.int .i64 0,.int .i64 0,.int .i64 0,.int .i64 0,.int .i64 0,.int .i64 0,.int .i64 0,.int .i64 0,.int .i64 0,.int .i64 0]],.ag 316 3 [[.int .i64 (k-29453760),.int .i64 3,.bool false]]])
  (fun D _=>0) ?_ ?_
 ·exact E.ac ⟨rfl,rfl⟩
 rintro D r ⟨rfl,rfl⟩;unfold vl;simp only[go_sem,ip,iC];cases W
 ·rw[show dm (.int .i64 0) (Fg false)=none from rfl];simp only[go_sem,ip,iC];refine bM ayi rfl rfl ?_;simp only[go_sem,ip,iC,ayt];refine dN (fun D r=>D= [(2,.bH),(4,.bd 0 1 0 0),(9,.bd 1 1 0 0),(10,.bE 4),(11,.bE 5),(13,.bd 6 1 0 0),(14,.bd 7 1 0 0),(15,.int .i64 k),(20,.int .i64 0),(27,.pure 4 (ai aa)),(28,.int .i64 aa.length),(29,.int .i64 i),(81,.int .i64 0),(82,.int .i64 0)]∧r=vl true true iZ++ [.ag 221 4 [[.int .i64 20454,.int .i64 p.R,.int .i64 p.ab,.str p.ep]],.ag 227 16 [[.int .i64 0,.int .i64 0,.int .i64 0,.int .i64 0,.int .i64 0,.int .i64 0,.int .i64 0,.int .i64 0,.int .i64 0,.int .i64 0,.int .i64 0,.int .i64 0,.int .i64 0,.int .i64 0,.int .i64 0,.int .i64 0]],.ag 316 3 [[.int .i64 (k-29453760),.int .i64 3,.bool false]]])
   (fun D _=>0) ?_ ?_
  ·exact E.ac ⟨rfl,rfl⟩
  rintro D r ⟨rfl,rfl⟩;unfold vl;simp only[go_sem,ip,iC,nH]
  (refine E.bB [some 0,some 1,some 2,some 3,some 4,some 5,some 6,some 7] ?_;simp only[go_sem])
  refine E.ac ⟨⟨k+1,true,true,by omega,by omega,rfl,rfl⟩,?_⟩;simp only[go_sem];omega
 ·rw[show dm (.int .i64 0) (Fg true)=some (.int .i64 0) from rfl];simp only[go_sem,ip,iC];refine dN (fun D r=>D= [(2,.bH),(4,.bd 0 1 0 0),(9,.bd 1 1 0 0),(10,.bE 4),(11,.bE 5),(13,.bd 6 1 0 0),(14,.bd 7 1 0 0),(15,.int .i64 k),(20,.int .i64 0),(27,.pure 4 (ai aa)),(28,.int .i64 aa.length),(29,.int .i64 i),(81,.int .i64 0),(82,.int .i64 0)]∧r=vl true true iZ++ [.ag 221 4 [[.int .i64 20454,.int .i64 p.R,.int .i64 p.ab,.str p.ep]],.ag 227 16 [[.int .i64 0,.int .i64 0,.int .i64 0,.int .i64 0,.int .i64 0,.int .i64 0,.int .i64 0,.int .i64 0,.int .i64 0,.int .i64 0,.int .i64 0,.int .i64 0,.int .i64 0,.int .i64 0,.int .i64 0,.int .i64 0]],.ag 316 3 [[.int .i64 (k-29453760),.int .i64 3,.bool false]]])
   (fun D _=>0) ?_ ?_
  ·exact E.ac ⟨rfl,rfl⟩
  rintro D r ⟨rfl,rfl⟩;unfold vl;simp only[go_sem,ip,iC,nH]
  (refine E.bB [some 0,some 1,some 2,some 3,some 4,some 5,some 6,some 7] ?_;simp only[go_sem])
  refine E.ac ⟨⟨k+1,true,true,by omega,by omega,rfl,rfl⟩,?_⟩;simp only[go_sem];omega
theorem aO.ayw {P:Program}{f:FuncId}{args:List F}{r:List Z}{K:F→List Z→Prop}(h:uH P f args r K):aO P f args r K:=by
 intro C dA N aA hG dv;subst N;exact GC aA hG dv h
theorem ayx (aW:TypeId)(aa:List wI)(hl:aa.length≤1000000)(ak: ∀ p∈aa,MI p):aO prog 115 [.agg [.int .i64 0,.bH],.bH,.bH,.own 0 aa.length 0 aa.length] [.ag aW 4 (ai aa)]
 (fun v rs=>v= .bE 1∧rs= [.ag aW 4 (ai aa),.be (.map false [.int .i64] (Av (decide (0 < aa.length))))]):=by
 refine aO.ayw ⟨[],[0],[],by simp,rfl,?_⟩;have af:dT [.ag aW 4 (ai aa)] (([]:List Nat).map some) [0] [.agg [.int .i64 0,.bH],.bH,.bH,.own 0 aa.length 0 aa.length]= [.agg [.int .i64 0,.bH],.bH,.bH,.pure 4 (ai aa)]:=by
  have:bW [.ag aW 4 (ai aa)] [] [0] (.own 0 aa.length 0 aa.length)= .pure 4 (ai aa):=qx rfl rfl rfl bT.symm ck;simp only[List.map_nil,dT,this];rfl
 rw[af];refine (ayv aa hl ak).mono ?_;rintro v rs ⟨rfl,rfl⟩;refine⟨.inr ⟨rfl,by cases decide (0 < aa.length)<;>rfl⟩,rfl,?_⟩;cases decide (0 < aa.length)<;>rfl
def ML:List (List F)→Option (List wI)
 | []=>some []
 | [.int .i64 B,.int .i64 f,.int .i64 t,.str b]::l=>match ML l with|some aa=>some (⟨B,f,t,b⟩::aa)|none=>none
 |_::_=>none
theorem abS: ∀ {l:List (List F)} {aa:List wI},ML l=some aa→l=ai aa
 | [],aa,h=>by cases h;rfl
 |x::l,aa,h=>by
  unfold ML at h;split at h
  ·cases ‹_::_= []›
  ·rename_i nx;cases nx;split at h
   ·rename_i aJ7 aV;cases h;rw[abS aV];rfl
   ·cases h
  ·cases h
instance (p:wI):Decidable (MI p):=inferInstanceAs (Decidable (p.ah=20454∧29453760≤p.R∧p.R≤p.ab∧p.ab≤29455200))
def SL (args:List F)(r:List Z):Option (F×List Z):=
 match args,r with
 | [.agg [.int .i64 0,.bH],.bH,.bH,.own 0 n 0 m],[.ag aW 4 am]=>
  match ML am with
  |some aa=>if n=aa.length∧m=aa.length∧aa.length≤1000∧aa.all (fun p=>decide (MI p))=true then some (.bE 1,[.ag aW 4 am,.be (.map false [.int .i64] (Av (decide (0 < aa.length))))]) else none
  |none=>none
 |_,_=>none
theorem ayy (args:List F)(r:List Z)(v:F)(rs:List Z)(h:SL args r=some (v,rs)):aO prog 115 args r fun gA hs=>gA=v∧hs=rs:=by
 unfold SL at h;split at h
 ·split at h
  ·rename_i aa kk;split at h
   ·rename_i ad;simp only[Option.some.injEq,Prod.mk.injEq] at h;obtain⟨rfl,rfl⟩:=h;obtain⟨rfl,rfl,au,bv⟩:=ad;rw[abS kk];exact ayx _ aa (by omega) (fun p ak=>of_decide_eq_true (List.all_eq_true.1 bv p ak))
   ·cases h
  ·cases h
 ·cases h
def ayz:List (uU prog):=⟨115,SL,ayy⟩::ayc
set_option maxRecDepth 1000000
theorem axS:aO prog 35 [] [] (fun v rs=>v= .bool true∧rs= []):=
 zN (aW:=As) (aY:=ayz) 60 [(.bool true,[])] (by kernel_rfl) (by intro V h;rw[List.mem_singleton] at h;subst h;exact⟨rfl,rfl⟩)
set_option maxHeartbeats 4000000 in
theorem axz (hN:aO prog 35 [] [] (fun v rs=>v= .bool true∧rs= []))(l:List Int)(hl:mW l)(n:Int):aO prog 8 [.pure 1 (cJ .i64 l),.int .i64 n] [] (fun v rs=>v= .bool true∧rs= []):=by
 refine hJ func8 aby (by simp[Au,Ip]) ?_;simp only[go_sem,Au,Ip]
 (repeat (first| (refine E.ac ?_;simp only[go_sem])|simp only[go_sem]))
 (refine rv (atG l) ?_;rintro _ _ ⟨rfl,rfl⟩;simp only[go_sem])
 (repeat (first| (refine E.ac ?_;simp only[go_sem])|simp only[go_sem]))
 (refine fy [0] (Ib.axA l hl 3 (by omega) (by omega) 0 (by omega) (by omega)) ?_;rintro _ _ ⟨abz,bh,rfl,rfl,h0,h1,MA,Sv⟩;simp only[go_sem])
 simp only[go_sem,gp,Ib.gp]
 (refine fy [0] (axB l hl abz h0 h1) ?_;rintro _ _ ⟨axC,z,ap,rfl,eK,rfl,G,au,aJW,aJX,pV⟩;simp only[go_sem])
 simp only[go_sem,gp,Ib.gp]
 (refine fy [0] (aud l hl 3 (by omega) (by omega) axC G au) ?_;rintro _ _ ⟨aJY,ae,rfl,rfl,bv,cx,gy,Cv,aJZ,EO⟩;simp only[go_sem])
 have ob:=Fc ap z.J eK z.fX;have axD: ∀ f,jm f ap=ap:=fun f=>Dw f ap ob;simp only[go_sem,gp,axD];obtain⟨gN,vk⟩:=abp ap z.J eK z.on;refine⟨gN,vk,?_⟩;have gN:ap.length=14:=gN;have zI: ∀ fj:List F,fj.length=14→ap++List.drop ap.length fj=ap:=fun fj aJ0=>by rw[List.drop_eq_nil_of_le (by omega),List.append_nil]
 simp only[go_sem,zI];have axE:bh.length≤15:=by omega
 refine E.jN [some 3] [1,2] rfl rfl (by simp only[go_sem,ob]<;>rfl) ?_;simp only[go_sem,ob];have ht:List.take 14 ap=ap:=List.take_of_length_le (by omega);have Iq:Ib.oz bh 15:=⟨fun e he=>Ib.axF (Sv e he),axE⟩;have Zg:=Sw bh;have aJ1:=abA Iq.v;have Hs:IntKind.i64.wrap ((bh.length:Int)-1)=bh.length-1:=bl (by omega) (by omega)
 (refine E.ac ?_;simp only[go_sem])
 (refine E.ac ?_;simp only[go_sem])
 (refine E.ac ?_;simp only[go_sem])
 refine hv (fun D r=> ∃ k:Nat,k≤bh.length∧D= [(1,.int .i64 n),(6,.pure 7 (ai bh)),(7,.bd 0 1 0 0),(8,.pure 3 (ai ae)),(9,.own 1 (24*k) 0 (24*k)),(10,.int .i64 ((bh.length:Int)-1-k))]∧r= [.ag 42 14 [ap],.ag 5 1 (ai (Rc.lC ((lc bh).take k)))])
  (fun D _=>match bs D 10 with| .int _ j=>(j+1).toNat|_=>0) ?_ ?_
 ·(refine E.iv 9 5 1 rfl (E.eW [1,6,7,8,9,10] ?_);simp only[go_sem])
  exact E.ac ⟨0,by omega,by simp[Hs],rfl⟩
 rintro D r ⟨k,O,rfl,rfl⟩
 by_cases aI:k < bh.length
 ·have q1:decide ((0:Int)≤(bh.length:Int)-1-k)=true:=decide_eq_true (by omega);obtain⟨j,aX⟩: ∃ j:Nat,j=bh.length-1-k:=⟨_,rfl⟩;have lL: (bh.length:Int)-1-k=j:=by omega
  have nC:j < bh.length:=by omega
  have z0: (0:Int)≤j:=by omega
  have mn: (j:Int) < bh.length:=by omega
  have Sx: (ai bh).getD j []=aJ.J (fw bh[j]):=cT nC;have QS: (Rc.lC ((lc bh).take k)).length=24*k:=by rw[Rc.Ir,List.length_take];omega
  have dV:Rc.lC ((lc bh).take k)++Rc.frame (fw bh[j])=Rc.lC ((lc bh).take (k+1)):=by
   rw[List.take_succ_eq_append_getElem (by omega),Rc.axG,axH aI];subst aX;rfl
  have nf:IntKind.i64.wrap ((j:Int)-1)=(bh.length:Int)-1-((k+1:Nat):Int):=by rw[bl (by omega) (by omega)];omega
  simp only[go_sem,Au,Ip,q1]
  (refine E.ac ?_;simp only[go_sem])
  simp only[go_sem,lL]
  (refine E.ac ?_;simp only[go_sem])
  refine⟨z0,mn,?_⟩;rw[Sx];refine⟨Nat.le_refl 7,?_⟩;rw[show List.take 7 (aJ.J (fw bh[j]))=aJ.J (fw bh[j]) from rfl]
  (refine rv (Rc.axI (fw bh[j]) (lA (Iq.v _ (List.getElem_mem nC)))) ?_;rintro _ _ ⟨rfl,rfl⟩;simp only[go_sem])
  repeat (refine E.ac ?_;simp only[go_sem])
  rw[if_pos (Rc.CL _).symm,List.take_of_length_le (l:=Rc.frame (fw bh[j])) (by rw[Rc.CL];omega)];simp only[go_sem];have lj:=Rc.CL (fw bh[j]);refine⟨QS.symm,by omega,?_⟩
  try rw[lj]
  rw[dV]
  (refine E.bB [some 0,some 1] ?_;simp only[go_sem])
  (refine E.ac ?_;simp only[go_sem])
  rw[nf]
  try simp only[go_sem,ob]
  refine E.ac ⟨⟨k+1,by omega,rfl,rfl⟩,?_⟩;simp only[go_sem];omega
 ·obtain rfl:k=bh.length:=by omega
  rw[List.take_of_length_le (by omega)];have q1:decide ((0:Int)≤(bh.length:Int)-1-(bh.length:Int))=false:=decide_eq_false (by omega);have yy:=Rc.Ir (lc bh);rw[Zg] at yy;simp only[go_sem,Au,Ip,q1]
  (refine E.ac ?_;simp only[go_sem])
  refine E.jN [some 0] [1] rfl rfl (by simp only[go_sem,ob]<;>rfl) ?_;simp only[go_sem,ob,bT,yy];rw[List.take_of_length_le (l:=Rc.lC (lc bh)) (by omega)];have axJ:=fun ei ad X ly=> @axK bh Iq.v ei ad X ly;generalize Rc.lC (lc bh)=b at *
  (refine E.ac ?_;simp only[go_sem])
  have Is:IntKind.i64.wrap ((b.length:Int)+1)=b.length+1:=bl (by omega) (by omega);rw[Is];refine bM (ED n (b.length+1) (by omega) (by omega)) rfl rfl ?_;obtain⟨qO,MB⟩:=atH (v:=n) (n:=(b.length:Int)+1) (by omega);generalize mod n (b.length+1)=J at *;obtain⟨ei,rfl⟩: ∃ q:Nat,J=q:=⟨J.toNat,by omega⟩;simp only[go_sem]
  repeat (refine E.ac ?_;simp only[go_sem])
  refine⟨by omega,by omega,?_⟩;rw[Nat.sub_zero];obtain⟨bc,_⟩:=Rc.abB b ei (by omega);have aJ2:=Rc.abC (b.take ei);have aJ3:=Rc.abC (b.drop (Rc.iQ (b.take ei)).2.2);have It:=axJ ei (by omega) _ _ rfl rfl
  (refine rv (Rc.abD (b.take ei) (by simp;omega)) ?_;rintro _ _ ⟨rfl,rfl⟩;simp only[go_sem])
  generalize Rc.iQ (b.take ei)=X at *
  repeat (refine E.ac ?_;simp only[go_sem])
  have HR:decide ((X.2.2:Int) < 0)=false:=decide_eq_false (by omega);have OE:decide ((ei:Int) < X.2.2)=false:=decide_eq_false (by omega);simp only[go_sem,HR,OE]
  repeat (refine E.ac ?_;simp only[go_sem])
  refine⟨by omega,by omega,by omega,?_⟩;rw[List.take_of_length_le (l:=b.drop X.2.2) (by simp)]
  (refine rv (Rc.abD (b.drop X.2.2) (by simp;omega)) ?_;rintro _ _ ⟨rfl,rfl⟩;simp only[go_sem])
  generalize Rc.iQ (b.drop X.2.2)=ly at *;refine E.jN [some 0] [1,3] rfl rfl (by simp only[go_sem,ob]<;>rfl) ?_;simp only[go_sem,ob]
  (refine E.ac ?_;simp only[go_sem])
  obtain⟨MC,abE⟩:=axL Iq It;have E5:=axM It;have Sy:=(abE.mh MC).fr;have GA:=Ib.abF abE MC (by omega);have tO:=(MC.mh Sy).fr;have axN:=Ib.abF MC Sy (by omega);have aJ4:=tO.len;have aJ5:=Sy.len;rw[←abG ly.1,←abG X.1];generalize X.1.map tZ=abH at *;generalize ly.1.map tZ=axO at *;generalize Ib.fr (axO++abH)=axP at *;generalize Ib.fr (abH++axP)=eO at *
  (refine rv (GA) ?_;rintro _ _ ⟨rfl,rfl⟩;simp only[go_sem])
  refine E.jN [some 0] [1] rfl rfl (by simp only[go_sem,ob]<;>rfl) ?_;simp only[go_sem,ob]
  (refine E.ac ?_;simp only[go_sem])
  (refine rv (axN) ?_;rintro _ _ ⟨rfl,rfl⟩;simp only[go_sem])
  refine E.jN [some 0] [1] rfl rfl (by simp only[go_sem,ob]<;>rfl) ?_;simp only[go_sem,ob]
  repeat (refine E.ac ?_;simp only[go_sem])
  have axQ:Ib.oz eO 69:=⟨tO.v,by omega⟩;have abI:Ib.kp eO 1=Ib.kp bh 1:=axl E5;have mb:Ib.cL eO=Ib.cL bh:=by rw[axQ.ij (by omega),Iq.ij (by omega)]
  have dp:E9 ([]:List eH) 20452 20460=0:=by
   unfold E9;rw[if_neg (by simp),if_neg (by omega),if_neg (by omega)]
  have Mx:le .bH (.pure 4 (ai ([]:List eH))):=by simp[le,ai]
  have c1:=abq eK ob (by omega) (by omega) ae (by omega) bh (by omega) ([]:List eH) Mx (by simp) 1 20452 20460 dp;have c2:=abq eK ob (by omega) (by omega) ae (by omega) eO (by omega) ([]:List eH) Mx (by simp) 1 20452 20460 dp;rw[(abm (z:=z) (ae:=ae) abI mb).1,axn abI mb] at c2;have axR:= @axo z ae bh [] 1 20452 20460;generalize jp z ae bh [] 1 20452 20460=aF at *;generalize rG z ae bh 1=el at *;simp only[go_sem,ht,gN];have oM: ∀ aY:List Ib.Ev,bU [.agg ap,.pure 3 (ai ae),.pure 7 (ai aY),.bH,.int .i64 1,.int .i64 20452,.int .i64 20460]=true:=fun aY=>by simp only[bU,bJ,ob,ck,Bool.and_self]
  by_cases ba:el=0
  ·simp only[if_pos ba] at c1 c2;obtain⟨Ai,jt⟩:=axR ba (by simp) (by omega) (by omega);refine bM c1 (oM bh) rfl ?_;simp only[go_sem,ck]
   (refine E.ac ?_;simp only[go_sem])
   simp only[go_sem,ht,gN];refine bM c2 (oM eO) rfl ?_;simp only[go_sem,ck]
   repeat (refine E.ac ?_;simp only[go_sem])
   refine bM (abJ aF (by omega) jt) (by simp only[bU,bJ,ck,Bool.and_self]) rfl ?_;simp only[go_sem];refine bM hN rfl rfl ?_;simp only[go_sem]
   repeat (refine E.ac ?_;simp only[go_sem])
   exact E.bg rfl ⟨rfl,rfl⟩
  ·simp only[if_neg ba] at c1 c2;refine bM c1 (oM bh) rfl ?_;simp only[go_sem]
   (refine E.ac ?_;simp only[go_sem])
   simp only[go_sem,ht,gN];refine bM c2 (oM eO) rfl ?_;simp only[go_sem]
   repeat (refine E.ac ?_;simp only[go_sem])
   try simp only[go_sem,beq_self_eq_true]
   refine bM (aO.le (abJ [] (by simp) (by simp)) (args':= [.bH,.bH]) (by simp[hK,le,ai])) rfl rfl ?_;simp only[go_sem];refine bM hN rfl rfl ?_;simp only[go_sem]
   repeat (refine E.ac ?_;simp only[go_sem])
   exact E.bg rfl ⟨rfl,rfl⟩
theorem topStream (l:List Int)(hl:mW l)(n:Int):aO prog 8 [.pure 1 (cJ .i64 l),.int .i64 n] [] (fun v rs=>v= .bool true∧rs= []):=axz axS l hl n
end Go.Proofs.YtpincjkjoeopkaaGreatDoor
