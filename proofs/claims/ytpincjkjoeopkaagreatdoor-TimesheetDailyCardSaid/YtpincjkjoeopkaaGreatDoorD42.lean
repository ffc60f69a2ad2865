/- Time evaluation. -/
import Derived.Test.YtpincjkjoeopkaaGreatDoorD29
import Derived.Test.YtpincjkjoeopkaaGreatDoorD19
import Derived.Test.YtpincjkjoeopkaaGreatDoorD18
import Derived.Shelf.SlIter.Sorted
import Derived.Shelf.SlIter.Keys
set_option linter.all false
namespace Go.Proofs.YtpincjkjoeopkaaGreatDoor
open Go Go.Abs Go.Proofs.Tryz
theorem ayg (t:Int)(h0:0≤t)(h1:t≤120968639):aO prog 259 [.agg [.int .i64 0,.bH],.int .i64 t] [] (fun v rs=>v= .bo [.int .i64 t,.int .i64 0]∧rs= []):=by
 refine ((Ym ⟨0,[]⟩ rfl t h0 h1).le (args':= [.agg [.int .i64 0,.bH],.int .i64 t]) (by simp[hK,le,cc.v,ai])).mono ?_;rintro v rs ⟨rfl,rfl⟩;exact⟨by simp[yf,zQ],rfl⟩
def wH (bm:Bool):List Z:= [.ag 359 3 [[.bH,.bE 1,.bE 2]],.be (.map false [.int .i64] (if bm then [(.int .i64 2025,.bH),(.int .i64 2026,.bH),(.int .i64 2027,.bH)] else [])),.be (.map false [.int .i64] (if bm then [(.int .i64 20454,.bool false)] else []))]
theorem ayh:aO prog 200 [.bH] [] (fun v rs=>v= .bd 0 1 0 0∧rs=wH false):=
 zN (aW:=As) (aY:= []) 60 [(.bd 0 1 0 0,wH false)] (by kernel_rfl) (by intro V h;rw[List.mem_singleton] at h;subst h;exact⟨rfl,rfl⟩)
theorem ayi:aO prog 203 [.bH,.int .i64 0] [] (fun v rs=>v= .int .i64 0∧rs= []):=
 zN (aW:=As) (aY:=MH) 60 [(.int .i64 0,[])] (by kernel_rfl) (by intro V h;rw[List.mem_singleton] at h;subst h;exact⟨rfl,rfl⟩)
theorem abQ (bm:Bool):aO prog 260 [.bd 0 1 0 0,.int .i64 20454] (wH bm) (fun v rs=>v= .bool false∧rs=wH true):=by
 cases bm
 ·exact zN (aW:=As) (aY:=MH) 60 [(.bool false,wH true)] (by kernel_rfl) (by intro V h;rw[List.mem_singleton] at h;subst h;exact⟨rfl,rfl⟩)
 ·exact zN (aW:=As) (aY:=MH) 60 [(.bool false,wH true)] (by kernel_rfl) (by intro V h;rw[List.mem_singleton] at h;subst h;exact⟨rfl,rfl⟩)
theorem ayj (bm:Bool)(t:Int)(h0:29453760≤t)(h1:t < 29455200):aO prog 201 [.agg [.int .i64 0,.bH],.bd 0 1 0 0,.int .i64 t] (wH bm)
 (fun v rs=>v= .agg [.int .i64 (t-29453760),.int .i64 3,.bool false]∧rs=wH true):=by
 refine cu func201 SJ (by simp[Ff,Iy]) ?_;have ay:t.tdiv 1440=20454:=by rw[Int.tdiv_eq_ediv_of_nonneg (by omega)];omega
 have hm:t.tmod 1440=t-29453760:=by rw[Int.tmod_eq_emod_of_nonneg (by omega)];omega
 have dn:IntKind.i64.wrap 20454=20454:=bl (by omega) (by omega);have gI:IntKind.i64.wrap 29453760=29453760:=bl (by omega) (by omega);have ik:IntKind.i64.wrap (t-29453760)=t-29453760:=bl (by omega) (by omega);have aI:decide (t-29453760 < 0)=false:=decide_eq_false (by omega);have bF:IntKind.i64.wrap (t-IntKind.i64.wrap (20454*1440))=t-29453760:=by
  rw[show IntKind.i64.wrap (20454*1440)=29453760 from by decide];exact ik
 have bK: (IntKind.i64.wrap (Int.tmod 20454 7+10)).tmod 7=3:=by decide
 cases bm
 all_goals
  have uQ:=abQ false;have abR:=abQ true;unfold wH at *;simp only[if_true,Bool.false_eq_true,if_false] at uQ abR ⊢;simp only[go_sem,Ff,Iy];refine bM (ayg t (by omega) (by omega)) rfl rfl ?_;simp only[go_sem,ay,hm,dn,aI];refine⟨by omega,by omega,by omega,by omega,?_⟩
 ·(refine fy [0,1,2] (uQ) ?_;rintro _ _ ⟨rfl,rfl⟩;simp only[go_sem])
  simp only[go_sem,bF,bK]
  (refine E.bB [some 0,some 1,some 2] ?_;simp only[go_sem])
  exact E.ac ⟨rfl,rfl⟩
 ·(refine fy [0,1,2] (abR) ?_;rintro _ _ ⟨rfl,rfl⟩;simp only[go_sem])
  simp only[go_sem,bF,bK]
  (refine E.bB [some 0,some 1,some 2] ?_;simp only[go_sem])
  exact E.ac ⟨rfl,rfl⟩
def CN:F:= .agg [.int .i64 0,.int .i64 0,.int .i64 0,.int .i64 0,.int .i64 0,.int .i64 0,.int .i64 0,.int .i64 0,.int .i64 0,.int .i64 0,.int .i64 0,.int .i64 0,.int .i64 0,.int .i64 0,.int .i64 0,.int .i64 0]
structure wI where
 ah:Int
 R:Int
 ab:Int
 ep:ByteArray
instance:aJ wI:=⟨fun a=> [.int .i64 a.ah,.int .i64 a.R,.int .i64 a.ab,.str a.ep],4,fun _=>rfl,fun _=>rfl,fun _=>rfl⟩
theorem ayk (e:wI):aJ.J e= [.int .i64 e.ah,.int .i64 e.R,.int .i64 e.ab,.str e.ep]:=rfl
theorem ayl:aJ.U wI=4:=rfl
theorem aym (e:wI):List.take 4 (aJ.J e)=aJ.J e:=rfl
attribute [go_sem] ayl aym
def MI (p:wI):Prop:=p.ah=20454∧29453760≤p.R∧p.R≤p.ab∧p.ab≤29455200
def MJ (bm:Bool):List (F×F):=if bm then [(.int .i64 2025,.bH),(.int .i64 2026,.bH),(.int .i64 2027,.bH)] else []
def MK (bm:Bool):List (F×F):=if bm then [(.int .i64 20454,.bool false)] else []
def Fg (bm:Bool):List (F×F):=if bm then [(.int .i64 0,.int .i64 0)] else []
def Av (bm:Bool):List (F×F):=if bm then [(.int .i64 20454,CN)] else []
theorem ayn (bm:Bool):kh (MJ bm)=true:=by cases bm<;>rfl
theorem ayo (bm:Bool):kh (MK bm)=true:=by cases bm<;>rfl
theorem ayp (bm:Bool):kh (Fg bm)=true:=by cases bm<;>rfl
theorem ayq (bm:Bool):kh (Av bm)=true:=by cases bm<;>rfl
attribute [go_sem] ayn ayo ayp ayq
theorem ayr (bm:Bool): (dm (.int .i64 20454) (Av bm)).getD CN=CN:=by cases bm<;>rfl
theorem ays (bm:Bool):dy (.int .i64 20454) CN (Av bm)=Av true:=by cases bm<;>rfl
theorem ayt (bm:Bool):dy (.int .i64 0) (.int .i64 0) (Fg bm)=Fg true:=by cases bm<;>rfl
def vl (bm W iZ:Bool):List Z:= [.ag 32 2 [[.int .i64 0,.bH]],.ag 359 3 [[.bH,.bE 2,.bE 3]],.be (.map false [.int .i64] (MJ bm)),.be (.map false [.int .i64] (MK bm)),
 .be (.map false [.int .i64] (Fg W)),.be (.map false [.int .i64] (Av iZ))]
theorem ayu (bm:Bool)(t:Int)(h0:29453760≤t)(h1:t < 29455200):aO prog 201 [.agg [.int .i64 0,.bH],.bd 0 1 0 0,.int .i64 t] [.ag 359 3 [[.bH,.bE 1,.bE 2]],.be (.map false [.int .i64] (MJ bm)),.be (.map false [.int .i64] (MK bm))]
 (fun v rs=>v= .agg [.int .i64 (t-29453760),.int .i64 3,.bool false]∧rs= [.ag 359 3 [[.bH,.bE 1,.bE 2]],.be (.map false [.int .i64] (MJ true)),.be (.map false [.int .i64] (MK true))]):=ayj bm t h0 h1
theorem ayv (aa:List wI)(hl:aa.length≤1000000)(ak: ∀ p∈aa,MI p):aO prog 115 [.agg [.int .i64 0,.bH],.bH,.bH,.pure 4 (ai aa)] []
 (fun v rs=>v= .bE 0∧rs= [.be (.map false [.int .i64] (Av (decide (0 < aa.length))))]):=by
 refine cu func115 SK (by simp[ip,iC]) ?_;have hA:=ayh;unfold wH at hA;simp only[if_true,Bool.false_eq_true,if_false] at hA;simp only[go_sem,ip,iC,bT]
 (refine rv (hA) ?_;rintro _ _ ⟨rfl,rfl⟩;simp only[go_sem])
 refine dN (fun D r=> ∃ (c:Nat) (bm W:Bool),c≤aa.length∧D= [(2,.bH),(4,.bd 0 1 0 0),(9,.bd 1 1 0 0),(10,.bE 4),(11,.bE 5),(27,.pure 4 (ai aa)),(28,.int .i64 aa.length),(29,.int .i64 c)]∧r=vl bm W (decide (0 < c)))
  (fun D _=>match bs D 29 with| .int _ j=>(aa.length-j).toNat|_=>0) ?_ ?_
 ·exact E.ac ⟨0,false,false,by omega,rfl,rfl⟩
 rintro D r ⟨c,bm,W,av,rfl,rfl⟩;have fK:=dB (c:=c) (by omega)
 by_cases aI:c < aa.length
 rotate_left
 ·have h1:decide ((c:Int) < aa.length)=false:=decide_eq_false (by omega);obtain rfl:c=aa.length:=by omega
  unfold vl;simp only[go_sem,ip,iC,h1]
  (refine E.bB [some 5] ?_;simp only[go_sem])
  exact E.ac ⟨rfl,rfl⟩
 have h1:decide ((c:Int) < aa.length)=true:=decide_eq_true (by omega);have z0: (0:Int)≤c:=by omega
 have mn: (c:Int) < aa.length:=by omega
 have aw: (ai aa).getD c []=aJ.J aa[c]:=cT aI;obtain⟨p1,iT,Ds,aJ6⟩:=ak _ (List.getElem_mem aI);generalize aa[c]=p at *;generalize hG:decide (0 < c)=iZ;unfold vl;simp only[go_sem,ip,iC,h1,z0,mn,aw,bT,ayk,p1];rw[show (F.agg [.int .i64 0,.int .i64 0,.int .i64 0,.int .i64 0,.int .i64 0,.int .i64 0,.int .i64 0,.int .i64 0,.int .i64 0,.int .i64 0,.int .i64 0,.int .i64 0,.int .i64 0,.int .i64 0,.int .i64 0,.int .i64 0])=CN from rfl,ayr];refine⟨rfl,rfl,?_⟩;rw[show cp CN= [.int .i64 0,.int .i64 0,.int .i64 0,.int .i64 0,.int .i64 0,.int .i64 0,.int .i64 0,.int .i64 0,.int .i64 0,.int .i64 0,.int .i64 0,.int .i64 0,.int .i64 0,.int .i64 0,.int .i64 0,.int .i64 0] from rfl];refine dN (fun D r=> ∃ (k:Int) (bm W:Bool),p.R≤k∧k≤p.ab∧D= [(2,.bH),(4,.bd 0 1 0 0),(9,.bd 1 1 0 0),(10,.bE 4),(11,.bE 5),(13,.bd 6 1 0 0),(14,.bd 7 1 0 0),(15,.int .i64 k),(27,.pure 4 (ai aa)),(28,.int .i64 aa.length),(29,.int .i64 c)]∧r=vl bm W iZ++ [.ag 221 4 [[.int .i64 20454,.int .i64 p.R,.int .i64 p.ab,.str p.ep]],.ag 227 16 [[.int .i64 0,.int .i64 0,.int .i64 0,.int .i64 0,.int .i64 0,.int .i64 0,.int .i64 0,.int .i64 0,.int .i64 0,.int .i64 0,.int .i64 0,.int .i64 0,.int .i64 0,.int .i64 0,.int .i64 0,.int .i64 0]]])
  (fun D _=>match bs D 15 with| .int _ j=>(p.ab-j).toNat|_=>0) ?_ ?_
 ·exact E.ac ⟨p.R,bm,W,by omega,by omega,rfl,rfl⟩
 clear bm W;rintro D r ⟨k,bm,W,Cm,kL,rfl,rfl⟩;unfold vl
 by_cases Aa:k < p.ab
 rotate_left
 ·have G:decide (k < p.ab)=false:=decide_eq_false Aa;simp only[go_sem,ip,iC,G];rw[fK,show (F.agg [.int .i64 0,.int .i64 0,.int .i64 0,.int .i64 0,.int .i64 0,.int .i64 0,.int .i64 0,.int .i64 0,.int .i64 0,.int .i64 0,.int .i64 0,.int .i64 0,.int .i64 0,.int .i64 0,.int .i64 0,.int .i64 0])=CN from rfl,ays]
  (refine E.bB [some 0,some 1,some 2,some 3,some 4,some 5] ?_;simp only[go_sem])
  refine E.ac ⟨⟨c+1,bm,W,by omega,rfl,?_⟩,?_⟩
  ·rw[decide_eq_true (show 0 < c+1 by omega)]
  ·simp only[go_sem];omega
 have G:decide (k < p.ab)=true:=decide_eq_true Aa;simp only[go_sem,ip,iC,G]
 (refine fy [1,2,3] (ayu bm k (by omega) (by omega)) ?_;rintro _ _ ⟨rfl,rfl⟩;simp only[go_sem])
 have nH:IntKind.i64.wrap (k+1)=k+1:=bl (by omega) (by omega);refine dN (fun D r=>D= [(2,.bH),(4,.bd 0 1 0 0),(9,.bd 1 1 0 0),(10,.bE 4),(11,.bE 5),(13,.bd 6 1 0 0),(14,.bd 7 1 0 0),(15,.int .i64 k),(16,.bd 8 1 0 0),(17,.int .i64 0),(27,.pure 4 (ai aa)),(28,.int .i64 aa.length),(29,.int .i64 c),(51,.bH),(52,.int .i64 0),(53,.int .i64 0)]∧r=vl true W iZ++ [.ag 221 4 [[.int .i64 20454,.int .i64 p.R,.int .i64 p.ab,.str p.ep]],.ag 227 16 [[.int .i64 0,.int .i64 0,.int .i64 0,.int .i64 0,.int .i64 0,.int .i64 0,.int .i64 0,.int .i64 0,.int .i64 0,.int .i64 0,.int .i64 0,.int .i64 0,.int .i64 0,.int .i64 0,.int .i64 0,.int .i64 0]],.ag 316 3 [[.int .i64 (k-29453760),.int .i64 3,.bool false]]])
  (fun D _=>0) ?_ ?_
 ·exact E.ac ⟨rfl,rfl⟩
 rintro D r ⟨rfl,rfl⟩;unfold vl;simp only[go_sem,ip,iC];cases W
 ·rw[show dm (.int .i64 0) (Fg false)=none from rfl];simp only[go_sem,ip,iC];refine bM ayi rfl rfl ?_;simp only[go_sem,ip,iC,ayt];refine dN (fun D r=>D= [(2,.bH),(4,.bd 0 1 0 0),(9,.bd 1 1 0 0),(10,.bE 4),(11,.bE 5),(13,.bd 6 1 0 0),(14,.bd 7 1 0 0),(15,.int .i64 k),(20,.int .i64 0),(27,.pure 4 (ai aa)),(28,.int .i64 aa.length),(29,.int .i64 c),(81,.int .i64 0),(82,.int .i64 0)]∧r=vl true true iZ++ [.ag 221 4 [[.int .i64 20454,.int .i64 p.R,.int .i64 p.ab,.str p.ep]],.ag 227 16 [[.int .i64 0,.int .i64 0,.int .i64 0,.int .i64 0,.int .i64 0,.int .i64 0,.int .i64 0,.int .i64 0,.int .i64 0,.int .i64 0,.int .i64 0,.int .i64 0,.int .i64 0,.int .i64 0,.int .i64 0,.int .i64 0]],.ag 316 3 [[.int .i64 (k-29453760),.int .i64 3,.bool false]]])
   (fun D _=>0) ?_ ?_
  ·exact E.ac ⟨rfl,rfl⟩
  rintro D r ⟨rfl,rfl⟩;unfold vl;simp only[go_sem,ip,iC,nH]
  (refine E.bB [some 0,some 1,some 2,some 3,some 4,some 5,some 6,some 7] ?_;simp only[go_sem])
  refine E.ac ⟨⟨k+1,true,true,by omega,by omega,rfl,rfl⟩,?_⟩;simp only[go_sem];omega
 ·rw[show dm (.int .i64 0) (Fg true)=some (.int .i64 0) from rfl];simp only[go_sem,ip,iC];refine dN (fun D r=>D= [(2,.bH),(4,.bd 0 1 0 0),(9,.bd 1 1 0 0),(10,.bE 4),(11,.bE 5),(13,.bd 6 1 0 0),(14,.bd 7 1 0 0),(15,.int .i64 k),(20,.int .i64 0),(27,.pure 4 (ai aa)),(28,.int .i64 aa.length),(29,.int .i64 c),(81,.int .i64 0),(82,.int .i64 0)]∧r=vl true true iZ++ [.ag 221 4 [[.int .i64 20454,.int .i64 p.R,.int .i64 p.ab,.str p.ep]],.ag 227 16 [[.int .i64 0,.int .i64 0,.int .i64 0,.int .i64 0,.int .i64 0,.int .i64 0,.int .i64 0,.int .i64 0,.int .i64 0,.int .i64 0,.int .i64 0,.int .i64 0,.int .i64 0,.int .i64 0,.int .i64 0,.int .i64 0]],.ag 316 3 [[.int .i64 (k-29453760),.int .i64 3,.bool false]]])
   (fun D _=>0) ?_ ?_
  ·exact E.ac ⟨rfl,rfl⟩
  rintro D r ⟨rfl,rfl⟩;unfold vl;simp only[go_sem,ip,iC,nH]
  (refine E.bB [some 0,some 1,some 2,some 3,some 4,some 5,some 6,some 7] ?_;simp only[go_sem])
  refine E.ac ⟨⟨k+1,true,true,by omega,by omega,rfl,rfl⟩,?_⟩;simp only[go_sem];omega
theorem aO.ayw {P:Program}{f:FuncId}{args:List F}{r:List Z}{K:F→List Z→Prop}(h:uH P f args r K):aO P f args r K:=by
 intro C dA N aA hG dv;subst N;exact GC aA hG dv h
theorem ayx (aW:TypeId)(aa:List wI)(hl:aa.length≤1000000)(ak: ∀ p∈aa,MI p):aO prog 115 [.agg [.int .i64 0,.bH],.bH,.bH,.own 0 aa.length 0 aa.length] [.ag aW 4 (ai aa)]
 (fun v rs=>v= .bE 1∧rs= [.ag aW 4 (ai aa),.be (.map false [.int .i64] (Av (decide (0 < aa.length))))]):=by
 refine aO.ayw ⟨[],[0],[],by simp,rfl,?_⟩;have hb:dT [.ag aW 4 (ai aa)] (([]:List Nat).map some) [0] [.agg [.int .i64 0,.bH],.bH,.bH,.own 0 aa.length 0 aa.length]= [.agg [.int .i64 0,.bH],.bH,.bH,.pure 4 (ai aa)]:=by
  have:bW [.ag aW 4 (ai aa)] [] [0] (.own 0 aa.length 0 aa.length)= .pure 4 (ai aa):=qx rfl rfl rfl bT.symm ck;simp only[List.map_nil,dT,this];rfl
 rw[hb];refine (ayv aa hl ak).mono ?_;rintro v rs ⟨rfl,rfl⟩;refine⟨.inr ⟨rfl,by cases decide (0 < aa.length)<;>rfl⟩,rfl,?_⟩;cases decide (0 < aa.length)<;>rfl
def ML:List (List F)→Option (List wI)
 | []=>some []
 | [.int .i64 B,.int .i64 f,.int .i64 t,.str b]::l=>match ML l with|some aa=>some (⟨B,f,t,b⟩::aa)|none=>none
 |_::_=>none
theorem abS: ∀ {l:List (List F)} {aa:List wI},ML l=some aa→l=ai aa
 | [],aa,h=>by cases h;rfl
 |x::l,aa,h=>by
  unfold ML at h;split at h
  ·cases ‹_::_= []›
  ·rename_i nx;cases nx;split at h
   ·rename_i aJ7 aV;cases h;rw[abS aV];rfl
   ·cases h
  ·cases h
instance (p:wI):Decidable (MI p):=inferInstanceAs (Decidable (p.ah=20454∧29453760≤p.R∧p.R≤p.ab∧p.ab≤29455200))
def SL (args:List F)(r:List Z):Option (F×List Z):=
 match args,r with
 | [.agg [.int .i64 0,.bH],.bH,.bH,.own 0 n 0 m],[.ag aW 4 am]=>
  match ML am with
  |some aa=>if n=aa.length∧m=aa.length∧aa.length≤1000∧aa.all (fun p=>decide (MI p))=true then some (.bE 1,[.ag aW 4 am,.be (.map false [.int .i64] (Av (decide (0 < aa.length))))]) else none
  |none=>none
 |_,_=>none
theorem ayy (args:List F)(r:List Z)(v:F)(rs:List Z)(h:SL args r=some (v,rs)):aO prog 115 args r fun gA hs=>gA=v∧hs=rs:=by
 unfold SL at h;split at h
 ·split at h
  ·rename_i aa kk;split at h
   ·rename_i ad;simp only[Option.some.injEq,Prod.mk.injEq] at h;obtain⟨rfl,rfl⟩:=h;obtain⟨rfl,rfl,au,bv⟩:=ad;rw[abS kk];exact ayx _ aa (by omega) (fun p ak=>of_decide_eq_true (List.all_eq_true.1 bv p ak))
   ·cases h
  ·cases h
 ·cases h
def aL3:List (uU prog):=⟨115,SL,ayy⟩::MH
open Go.Maps
open Go.RowKit (Below)
def aLJ:Go.Shelf.Ren:=
 {f:=fun x=>match x with|125=>158|128=>241|129=>242|190=>188|258=>251|302=>303|303=>304|304=>305|305=>306|306=>307|307=>308|308=>309|309=>310|310=>311|329=>290|330=>291|333=>346|334=>347|335=>348|336=>208|344=>364|n=>n,
  t:=fun x=>match x with|0=>0|3=>3|4=>4|5=>5|9=>9|31=>166|46=>284|51=>347|53=>349|131=>206|182=>340|183=>341|218=>376|222=>380|228=>412|229=>308|n=>n,
  g:=fun n=>n}
set_option maxRecDepth 100000 in
theorem aLc:Lays.n190 prog aLJ where
 mixed:=by kernel_rfl
 f125:=Eq.trans func158 (congrArg some (by kernel_rfl))
 f128:=Eq.trans func241 (congrArg some (by kernel_rfl))
 f129:=Eq.trans func242 (congrArg some (by kernel_rfl))
 f190:=Eq.trans func188 (congrArg some (by kernel_rfl))
 f258:=Eq.trans func251 (congrArg some (by kernel_rfl))
 f302:=Eq.trans func303 (congrArg some (by kernel_rfl))
 f303:=Eq.trans func304 (congrArg some (by kernel_rfl))
 f304:=Eq.trans func305 (congrArg some (by kernel_rfl))
 f305:=Eq.trans func306 (congrArg some (by kernel_rfl))
 f306:=Eq.trans func307 (congrArg some (by kernel_rfl))
 f307:=Eq.trans func308 (congrArg some (by kernel_rfl))
 f308:=Eq.trans func309 (congrArg some (by kernel_rfl))
 f309:=Eq.trans func310 (congrArg some (by kernel_rfl))
 f310:=Eq.trans func311 (congrArg some (by kernel_rfl))
 f329:=Eq.trans func290 (congrArg some (by kernel_rfl))
 f330:=Eq.trans func291 (congrArg some (by kernel_rfl))
 f333:=Eq.trans func346 (congrArg some (by kernel_rfl))
 f334:=Eq.trans func347 (congrArg some (by kernel_rfl))
 f335:=Eq.trans func348 (congrArg some (by kernel_rfl))
 f336:=Eq.trans func208 (congrArg some (by kernel_rfl))
 f344:=Eq.trans func364 (congrArg some (by kernel_rfl))
 t0:=underlying0
 a0:=isAgg0
 z0:=sizeOf0
 v0:=zeroValue0
 t3:=underlying3
 a3:=isAgg3
 z3:=sizeOf3
 v3:=zeroValue3
 t4:=underlying4
 a4:=isAgg4
 z4:=sizeOf4
 v4:=zeroValue4
 t5:=underlying5
 a5:=isAgg5
 z5:=sizeOf5
 v5:=zeroValue5
 t9:=underlying9
 a9:=isAgg9
 z9:=sizeOf9
 v9:=zeroValue9
 t31:=underlying166
 a31:=isAgg166
 z31:=sizeOf166
 v31:=zeroValue166
 t46:=underlying284
 a46:=isAgg284
 z46:=sizeOf284
 v46:=zeroValue284
 t51:=underlying347
 a51:=isAgg347
 z51:=sizeOf347
 v51:=zeroValue347
 t53:=underlying349
 a53:=isAgg349
 z53:=sizeOf349
 v53:=zeroValue349
 t131:=underlying206
 a131:=isAgg206
 z131:=sizeOf206
 v131:=zeroValue206
 t182:=underlying340
 a182:=isAgg340
 z182:=sizeOf340
 v182:=zeroValue340
 t183:=underlying341
 a183:=isAgg341
 z183:=sizeOf341
 v183:=zeroValue341
 t218:=underlying376
 a218:=isAgg376
 z218:=sizeOf376
 v218:=zeroValue376
 t222:=underlying380
 a222:=isAgg380
 z222:=sizeOf380
 v222:=zeroValue380
 t228:=underlying412
 a228:=isAgg412
 z228:=sizeOf412
 v228:=zeroValue412
 t229:=underlying308
 a229:=isAgg308
 z229:=sizeOf308
 v229:=zeroValue308
def aLd:Go.Shelf.Ren:=
 {f:=fun x=>match x with|6=>104|8=>187|9=>188|11=>250|n=>n,
  t:=fun x=>match x with|26=>9|28=>204|24=>166|0=>0|3=>3|4=>4|33=>208|n=>n,
  g:=fun n=>n}
set_option maxRecDepth 100000 in
theorem aLK:SlLaysZ.n6 prog aLd where
 mixed:=by kernel_rfl
 f6:=⟨"slices.Sorted[string]",by decide,Eq.trans func104 (congrArg some (by kernel_rfl))⟩
 f8:=⟨"slices.Collect[string]",by decide,Eq.trans func187 (congrArg some (by kernel_rfl))⟩
 f11:=⟨"slices.AppendSeq[[]string,string]",by decide,Eq.trans func250 (congrArg some (by kernel_rfl))⟩
 t0:=underlying0
 a0:=isAgg0
 z0:=sizeOf0
 v0:=zeroValue0
 t24:=underlying166
 a24:=isAgg166
 z24:=sizeOf166
 v24:=zeroValue166
 t26:=underlying9
 a26:=isAgg9
 z26:=sizeOf9
 v26:=zeroValue9
 t28:=underlying204
 a28:=isAgg204
 z28:=sizeOf204
 v28:=zeroValue204
 i26:=by kernel_rfl
def aLe:Go.Shelf.Ren:=
 {f:=fun x=>match x with|7=>105|10=>189|n=>n,
  t:=fun x=>match x with|23=>201|26=>9|3=>3|28=>204|0=>0|27=>203|33=>208|4=>4|n=>n,
  g:=fun n=>n}
set_option maxRecDepth 100000 in
theorem aLL:SlLaysZ.n7 prog aLe where
 mixed:=by kernel_rfl
 f7:=⟨"maps.Keys[map[string]int,string,int]",by decide,Eq.trans func105 (congrArg some (by kernel_rfl))⟩
 f10:=⟨"maps.Keys[map[string]int,string,int]$1",by decide,Eq.trans func189 (congrArg some (by kernel_rfl))⟩
 t0:=underlying0
 a0:=isAgg0
 z0:=sizeOf0
 v0:=zeroValue0
 t4:=underlying4
 a4:=isAgg4
 z4:=sizeOf4
 v4:=zeroValue4
 t23:=underlying201
 a23:=isAgg201
 z23:=sizeOf201
 v23:=zeroValue201
 t26:=underlying9
 a26:=isAgg9
 z26:=sizeOf9
 v26:=zeroValue9
 t27:=underlying203
 a27:=isAgg203
 z27:=sizeOf203
 v27:=zeroValue203
 t28:=underlying204
 a28:=isAgg204
 z28:=sizeOf204
 v28:=zeroValue204
 t33:=underlying208
 a33:=isAgg208
 z33:=sizeOf208
 v33:=zeroValue208
theorem aLM (m:Nat):AnyZ.SortsIn prog aLd Fence.wide m:=
 ⟨fun oq off cap bV W uQ vL dJ=>callsIn_wide.2 (Any.slices_Sort_string aLc oq off cap bV W uQ vL dJ),
  fun p cap W=>callsIn_wide.2 (calls_of_every_depth fun aD=>AnyS.slices_Sort_string_none_in aLc aD p cap W)⟩
def aKJ (x:List UInt8):ByteArray:=⟨x.toArray⟩
def Rc (l:List ByteArray):List (List F):=l.map fun I=> [.str I]
theorem aLN (l:List ByteArray): (Rc l).length=l.length:=by simp[Rc]
def aKQ (Y:List ByteArray):List ByteArray:=((Y.map fun I=>I.data.toList).mergeSort leB).map aKJ
theorem aLf {C:bD}{b:Nat}: ∀ (ce:List (List UInt8)) (V:Nat),(∀ c (h:c < ce.length),C.w.cell? ⟨b,V+c,none⟩=some (encStr ce[c]))→dh C b V 1 (Rc (ce.map aKJ))
 | [],V,_=>by simp[Rc,dh]
 |M::ce,V,h=>by
  rw[List.map_cons,Rc,List.map_cons,dh];refine⟨rfl,?_,aLf ce (V+1) fun c av=> ?_⟩
  ·rw[dC];refine⟨⟨encStr M,h 0 (Nat.zero_lt_succ _),rfl,by rw[Rep];rfl⟩,by rw[dC];trivial⟩
  ·have:=h (c+1) (by simpa using av);rw[show V+1+c=V+(c+1) by omega];simpa using this
theorem aLg {C:bD}: ∀ {ce:List ByteArray} {vs:List Value},aE C (ce.map (F.str ·)) vs→vs=ce.map (Value.string ·)
 | [],vs,h=>by simpa[aE] using h
 |M::ce,vs,h=>by
  rw[List.map_cons,aE] at h;obtain⟨v,bS,rfl,an,N⟩:=h;rw[Rep] at an;rw[List.map_cons,←aLg N,an]
def aLO:Value→List UInt8
 | .string I=>I.data.toList
 |_=> []
theorem aLP {r:List Z}{a b:Nat}{aW:TypeId}{ents:List (F×F)}{Y:List ByteArray}(aC:r[a]? =some (.be (.map false [.str] ents)))(hb:r[b]? =some (.ag aW 1 [[.bE a]]))(O:ents.map (·.1)=Y.map (F.str ·))(ss:Y.Nodup)(ki: ∀ x∈Y,x.size≤maxLen)(cK:Y.length≤1000000):
 aO prog 104 [.fn 189 [.bd b 1 0 0]] r
  (fun v rs=>v= .pure 1 (Rc (aKQ Y))∧rs=r):=by
 refine aO.P5 (fun h=>h) ?_;intro C dA N aA hG dv;have iV:C.r[a]? =some (.be (.map false [.str] ents)):=by rw[N];exact aC
 have jS:C.r[b]? =some (.ag aW 1 [[.bE a]]):=by rw[N];exact hb
 rw[aE] at dv;obtain⟨v0,bS,rfl,an,aH⟩:=dv;rw[aE] at aH;subst aH;rw[Rep] at an;obtain⟨vs,rfl,kU⟩:=an;rw[aE] at kU;obtain⟨RX,bS,Cz,ak,aH⟩:=kU;rw[aE] at aH;subst aH;rw[Rep] at ak;obtain⟨hC,_,_,hall⟩:=ak;obtain⟨_,G⟩:=hall _ _ _ jS;obtain⟨_,Bm,J,rl,rfl⟩:=G rfl;obtain rfl:vs= #[.pointer (some ⟨Bm,0,none⟩)]:=by
  apply Array.toList_inj.1;rw[Cz]
 rcases aA.ag jS with ⟨_,qo⟩|⟨b1,cap,ap,iK,zG,nE,eK,vK,eA,dp⟩
 ·cases qo
 rw[rl] at iK;simp only[Option.some.injEq,Prod.mk.injEq] at iK;obtain⟨rfl,rfl⟩:=iK;rw[dh,dC] at dp;obtain⟨⟨RY,nw,_,kD⟩,_⟩:=dp.2.1;rw[Rep] at kD;obtain⟨_,_,_,kD⟩:=kD;obtain⟨b0,c0,CA,rfl⟩:=kD _ iV;have mr:=aA.r _ _ iV;rw[dQ] at mr;obtain⟨RZ,R0,ar,qK,R1,lZ,sb,xq,Gh,Gi⟩:=mr;rw[CA] at qK;simp only[Option.some.injEq,Prod.mk.injEq] at qK;obtain⟨rfl,rfl⟩:=qK;have gO:ar.toList.map (·.key)=Y.map (Value.string ·):=aLg (by rw[←O];exact xq);have dJ:ar.size=Y.length:=by
  have:=congrArg List.length gO;simpa using this
 let aF:Value→Option (DataW Unit×List MemPlace):=fun _=>some (.nil,[])
 have Io:prog.underlying 9=some .string:=underlying9;have tP: ∀ x∈ar.toList,∃ M:ByteArray,x.key= .string M∧M∈Y∧Go.WideElems.rd prog 9 aF x=some (.string M.data.toList,.nil):=by
  intro x aj;have:x.key∈Y.map (Value.string ·):=by rw[←gO];exact List.mem_map_of_mem aj
  obtain⟨M,ba,sD⟩:=List.mem_map.1 this;refine⟨M,sD.symm,ba,?_⟩;unfold Go.WideElems.rd;have ao:=ki M ba;have Rr:keyOf prog 9 (.string M)=some (.string M.data.toList):=by
   have xC:M.data.size≤maxLen:=ao;simp[keyOf,Io,mapKey,ao,xC]
  rw[←sD,Rr];rfl
 have uA:Go.WideElems.Fit prog 9 aF ar ar.size:=by
  refine⟨by rw[dJ];unfold maxLen;omega,⟨fun x aj=> ?_,?_,?_⟩,fun x aj=> ?_⟩
  ·obtain⟨c,av,rfl⟩:=List.getElem_of_mem aj;have:=sb c _ (by rw[←Array.getElem?_toList,List.getElem?_eq_getElem av]);rw[this];simpa using av
  ·have:ar.toList.map (·.born)=List.range ar.size:=by
    refine List.ext_getElem? fun c=> ?_
    by_cases av:c < ar.size
    ·rw[List.getElem?_map,Array.getElem?_toList,Array.getElem?_eq_getElem av,List.getElem?_range av];simp[sb c _ (Array.getElem?_eq_getElem av)]
    ·rw[List.getElem?_eq_none (by simp;omega),List.getElem?_eq_none (by simp;omega)]
   rw[this];exact List.nodup_range
  ·rw[gO];exact List.pairwise_map.2 (ss.imp fun h e=>h (by simpa using e))
  ·obtain⟨M,_,_,h⟩:=tP x aj;exact⟨_,h⟩
 let el:=ar.toList.map (Go.WideElems.rg prog 9 aF)
 let aD:DataW Unit:= .map (el.foldr DataW.insert [])
 have pK:C.w.ownsMap prog 9 aF b0 ar.size aD:=⟨ar,ar.size,lZ,uA,Nat.le_refl _,rfl⟩;have wF:el.map (fun p=>strOf p.1)=Y.map fun I=>I.data.toList:=by
  have: ∀ x∈ar.toList,((fun p:Lit×DataW Unit=>strOf p.1)∘Go.WideElems.rg prog 9 aF) x=(aLO∘fun x:MapEntry=>x.key) x:=by
   intro x aj;obtain⟨M,h1,_,G⟩:=tP x aj;simp only[Function.comp_apply];rw[Go.WideElems.rg_of G,h1];rfl
  show List.map _ (List.map _ ar.toList)=_;rw[List.map_map,List.map_congr_left this,←List.map_map,gO,List.map_map];rfl
 have kV: (strKeys aD).Perm (Y.map fun I=>I.data.toList):=by
  rw[←wF];exact (Go.WideShapes.sorted_perm el).map _
 have fS:Maps.size aD=Y.length:=by
  show (el.foldr DataW.insert []).length=_;rw[length_sorted,List.length_map,Array.length_toList,dJ]
 have vf:SeqGives Fence.wide 2 prog 189 #[.pointer (some ⟨Bm,0,none⟩)] encStr (fun bV=>bV.Perm (strKeys aD)) (Maps.size aD) C.w:=
  AnyZ.keys_gives (ρ:=aLe) {aLL with} Fence.wide _ trivial rfl (by omega) Bm b0 ar.size aD C.w (Array.getElem?_eq_some_iff.1 nE).1 nw pK
 have CB:=AnyZ.sorted_in aLK Fence.wide 5 trivial trivial trivial trivial rfl (by omega) (aLM _) (enters_of func188 (by kernel_rfl) rfl) 189 #[.pointer (some ⟨Bm,0,none⟩)] trivial (enters_of func189 (by kernel_rfl) rfl) _ (Maps.size aD) (by rw[fS];unfold maxLen;omega) (by rw[fS];omega) C.w vf;refine (callsIn_wide.1 CB).mono ?_;rintro e w' ⟨v,bV,rfl,du,hrow,iW,hb⟩;obtain⟨aY,hL⟩: ∃ aY,aY=(Y.map fun I=>I.data.toList).mergeSort leB:=⟨_,rfl⟩;have CC: (bV.mergeSort leB)=aY:=by rw[hL];exact mergeSort_of_perm (du.trans kV)
 have fF:bV.length=aY.length:=by rw[←CC,List.length_mergeSort]
 refine⟨v,.pure 1 (Rc (aY.map aKJ)),rfl,hb,fun Dp=> ?_,by unfold aKQ;rw[hL],by rw[←N]⟩;have aKK: (Rc (aY.map aKJ)).length=bV.length:=by rw[aLN,List.length_map,fF]
 rw[Rep];rcases hrow.2 with ⟨rfl,ba⟩|⟨g,cap,oZ,rfl,Mz,ve,r1,cY,fY,fc⟩
 ·exact⟨none,0,by rw[aKK,ba],by rw[aKK,ba];exact Nat.le_refl _,.inl (by rw[aKK,ba])⟩
 ·refine⟨_,cap,by rw[aKK],by rw[aKK];exact r1,.inr ⟨g,0,rfl,⟨(Array.getElem?_eq_some_iff.1 ve).1,fun bp=> ?_,fun z J h=> ?_⟩,?_⟩⟩
  ·have:=aA.bY _ bp;omega
  ·have:=aA.lt h;omega
  ·refine aLf (C:=bD.p _) _ _ fun c av=> ?_;have h1: (oZ.toList.take (bV.length*1))[c]? =((bV.mergeSort leB).map encStr)[c]? :=by rw[fc]
   rw[List.getElem?_take_of_lt (by rw[Nat.mul_one,fF];exact av),List.getElem?_map,CC,List.getElem?_eq_getElem av,Array.getElem?_toList] at h1;show World.cell? w' _=_;simp only[World.cell?,ve,Nat.zero_add];simpa using h1
def aKT:List (F×F)→Option (List ByteArray)
 | []=>some []
 | (.str n,_)::l=>match aKT l with|some jJ=>some (n::jJ)|none=>none
 |_::_=>none
theorem aLj: ∀ {l:List (F×F)} {jJ:List ByteArray},aKT l=some jJ→l.map (·.1)=jJ.map (F.str ·)
 | [],jJ,h=>by cases h;rfl
 |p::l,jJ,h=>by
  unfold aKT at h;split at h
  ·cases ‹_::_= []›
  ·rename_i n v cb nx;cases nx;split at h
   ·rename_i lk zo;cases h;rw[List.map_cons,aLj zo];rfl
   ·cases h
  ·cases h
def aKF:List UInt8→List UInt8→Bool
 | [],_=>true
 |_::_,[]=>false
 |x::aq,y::ys=>if x.toNat < y.toNat then true else if y.toNat < x.toNat then false else aKF aq ys
theorem aKY: ∀ (x y:List UInt8),aKF x y=true→x≤y
 | [],y,_=>List.nil_le y
 |_::_,[],h=>by simp[aKF] at h
 |x::aq,y::ys,h=>by
  rw[aKF] at h;split at h
  ·rename_i hl;exact List.le_of_lt (List.cons_lt_cons_iff.2 (.inl hl))
  ·split at h
   ·cases h
   ·rename_i h1 G;obtain rfl:x=y:=UInt8.toNat_inj.1 (by omega);exact List.cons_le_cons_iff.2 (.inr ⟨rfl,aKY aq ys h⟩)
theorem aLk: ∀ (x y:List UInt8),aKF x y=false→aKF y x=true
 | [],y,h=>by simp[aKF] at h
 |_::_,[],_=>rfl
 |x::aq,y::ys,h=>by
  rw[aKF] at h ⊢;split at h
  ·cases h
  ·split at h
   ·rename_i h1 G;rw[if_pos G]
   ·rename_i h1 G;rw[if_neg G,if_neg h1];exact aLk aq ys h
def aKI (x:List UInt8):List (List UInt8)→List (List UInt8)
 | []=> [x]
 |y::ys=>if aKF x y then x::y::ys else y::aKI x ys
def aKN:List (List UInt8)→List (List UInt8)
 | []=> []
 |x::aq=>aKI x (aKN aq)
theorem aKZ (x:List UInt8): ∀ l:List (List UInt8),(aKI x l).Perm (x::l)
 | []=>List.Perm.refl _
 |y::ys=>by
  rw[aKI];split
  ·exact List.Perm.refl _
  ·exact ((aKZ x ys).cons y).trans (List.Perm.swap x y ys)
theorem aLl: ∀ l:List (List UInt8),(aKN l).Perm l
 | []=>List.Perm.refl _
 |x::aq=>(aKZ x _).trans ((aLl aq).cons x)
theorem aLm (x:List UInt8): ∀ {l:List (List UInt8)},l.Pairwise (·≤ ·)→(aKI x l).Pairwise (·≤ ·)
 | [],_=>by simp[aKI]
 |y::ys,h=>by
  rw[List.pairwise_cons] at h;rw[aKI];split
  ·rename_i ad;have h1:=aKY _ _ ad;exact List.pairwise_cons.2 ⟨fun M ba=>by
    rcases List.mem_cons.1 ba with rfl|ba
    ·exact h1
    ·exact List.le_trans h1 (h.1 M ba),List.pairwise_cons.2 h⟩
  ·rename_i ad;have h1:=aKY _ _ (aLk _ _ (by simpa using ad));exact List.pairwise_cons.2 ⟨fun M ba=>by
    rcases List.mem_cons.1 ((aKZ x ys).mem_iff.1 ba) with rfl|ba
    ·exact h1
    ·exact h.1 M ba,aLm x h.2⟩
theorem aLn: ∀ l:List (List UInt8),(aKN l).Pairwise (·≤ ·)
 | []=>List.Pairwise.nil
 |x::aq=>aLm x (aLn aq)
theorem aLZ (Y:List ByteArray):aKQ Y=(aKN (Y.map fun I=>I.data.toList)).map aKJ:=by
 unfold aKQ;congr 1;have ll: ∀ a b J:List UInt8,leB a b=true→leB b J=true→leB a J=true:=fun a b J h1 G=>by simp only[leB,decide_eq_true_eq] at *;exact List.le_trans h1 G
 have ab: ∀ a b:List UInt8,(leB a b||leB b a)=true:=fun a b=>by simp only[leB,Bool.or_eq_true,decide_eq_true_eq];exact List.le_total a b
 refine List.Perm.eq_of_pairwise (le:=fun a b=>leB a b=true) (fun a b _ _ h1 G=> ?_) (List.pairwise_mergeSort ll ab _) ((aLn _).imp fun h=>decide_eq_true h) ((List.mergeSort_perm _ leB).trans (aLl _).symm);simp only[leB,decide_eq_true_eq] at h1 G;exact List.le_antisymm h1 G
def aKU:List (List UInt8)→Bool
 | []=>true
 |x::aq=> !aq.contains x&&aKU aq
theorem aLo: ∀ {l:List ByteArray},aKU (l.map fun I=>I.data.toList)=true→l.Nodup
 | [],_=>List.nodup_nil
 |x::aq,h=>by
  simp only[List.map_cons,aKU,Bool.and_eq_true,Bool.not_eq_true',List.contains_eq_mem,decide_eq_false_iff_not] at h;exact List.nodup_cons.2 ⟨fun hm=>h.1 (List.mem_map_of_mem hm),aLo h.2⟩
def aK0 (args:List F)(r:List Z):Option (F×List Z):=
 match args with
 | [.fn 189 [.bd b 1 0 0]]=>
  match r[b]? with
  |some (.ag _ 1 [[.bE a]])=>
   match r[a]? with
   |some (.be (.map false [.str] ents))=>
    match aKT ents with
    |some Y=>if aKU (Y.map fun I=>I.data.toList)=true∧Y.all (fun I=>decide (I.size≤1000))=true∧Y.length≤1000000 then some (.pure 1 (Rc ((aKN (Y.map fun I=>I.data.toList)).map aKJ)),r) else none
    |none=>none
   |_=>none
  |_=>none
 |_=>none
theorem aL0 (args:List F)(r:List Z)(v:F)(rs:List Z)(h:aK0 args r=some (v,rs)):aO prog 104 args r fun gA hs=>gA=v∧hs=rs:=by
 unfold aK0 at h;split at h
 ·split at h
  ·rename_i hb;split at h
   ·rename_i aC;split at h
    ·rename_i Y mg;split at h
     ·rename_i ad;simp only[Option.some.injEq,Prod.mk.injEq] at h;obtain⟨rfl,rfl⟩:=h;rw[←aLZ];exact aLP aC hb (aLj mg) (aLo ad.1) (fun x aj=>Nat.le_trans (of_decide_eq_true (List.all_eq_true.1 ad.2.1 x aj)) (by decide)) ad.2.2
     ·cases h
    ·cases h
   ·cases h
  ·cases h
 ·cases h
theorem aL1 {r:List Z}{a:Nat}:aO prog 105 [.bE a] r
 (fun v rs=>v= .fn 189 [.bd r.length 1 0 0]∧rs=r++ [.ag 201 1 [[.bE a]]]):=by
 refine aO.rZ fun oy w=> ?_
 go_enter func105,ntmps105
 go_wp2
 go_ret
 exact⟨rfl,rfl⟩
def aL2:List (uU prog):=⟨104,aK0,aL0⟩::⟨105,Iv 189 201,SC fun _ _=>aL1⟩::aL3
set_option maxRecDepth 1000000
theorem aLY:aO prog 15 [] [] (fun v rs=>v= .bool true∧rs= []):=
 zN (aW:=As) (aY:=aL2) 60 [(.bool true,[]),(.bool true,[])] (by kernel_rfl) (by intro V h;simp only[List.mem_cons,List.not_mem_nil,or_false,or_self] at h;subst h;exact⟨rfl,rfl⟩)
end Go.Proofs.YtpincjkjoeopkaaGreatDoor
