/- The abstract machine. -/
import Derived.Test.YtpincjkjoeopkaaGreatDoorC3
import Derived.Below
import Derived.OpenShut
import Derived.Deep.Slices
import Derived.ChangeArms
import Derived.ChangeOld
import Derived.Sort.OwnSortedInts
set_option linter.all false
namespace Go.Abs
variable [dE]
open Go.RowKit (Below)
theorem bC: (∀(p:Prop) [Decidable p],(decide p=true)=p)/\(∀(p:Prop) [Decidable p],decide p=false↔ ¬p)/\
 (∀(bj:Type) [BEq bj] [LawfulBEq bj] (a b:bj),(a==b)=true↔a=b)/\(∀(bj:Type) [BEq bj] [LawfulBEq bj] (a b:bj),(a==b)=false↔a≠b)/\
 (∀(bj:Type) [BEq bj] [LawfulBEq bj] (a b:bj),(a != b)=true↔a≠b)/\(∀(bj:Type) [BEq bj] [LawfulBEq bj] (a b:bj),(a != b)=false↔a=b)/\
 (∀b:Bool,((!b)=true)=(b=false))/\(∀b:Bool,((!b)=false)=(b=true))/\(∀a b:Int,¬a<b↔b<=a)/\(∀a b:Int,¬a<=b↔b<a)/\
 (∀(bj:Type) (a b:bj),(a≠b)= ¬(a=b))/\(∀a b:Bool,((a&&b)=true)=(a=true/\b=true))/\(∀a b:Bool,((a||b)=true)=(a=true\/b=true))/\
 (∀a b:Bool,((a||b)=false)=(a=false/\b=false))/\(∀a b:Bool,((a&&b)=false)=(a=false\/b=false)):=by
 refine⟨?_,?_,?_,?_,?_,?_,?_,?_,?_,?_,?_,?_,?_,?_,?_⟩<;>intros<;>first|simp only[Bool.and_eq_false_iff]|simp
theorem bl {x:Int}(d: -9223372036854775808<=x:=by omega)(G:x<=9223372036854775807:=by omega):IntKind.i64.wrap x=x:=by
 simp only[IntKind.wrap,IntKind.bits,IntKind.signed];simp;omega
theorem PP {P:Program}{f:FuncId}{args:List F}{r:List Z}{dst:Option Nat}{D:aQ}{K:aQ->List Z->Prop}{bh:F->Prop}
 (hA:aO P f args [] λv rs=>bh v/\rs=[]) (ad:bU args=true) (O:∀v,bh v->bJ v=true/\K (put D dst v) r):rp P f args r dst D K:=by
 refine om [] [] (by simp) (srows:=[]) (aKF rfl) (qw args ad) hA ?_;rintro v rs ⟨aV,rfl⟩;obtain⟨d,G⟩:=O v aV;refine⟨.inl rfl,?_⟩;rw[uD _ _ d];simpa[fu] using G
theorem bM {P:Program}{f:FuncId}{args:List F}{r:List Z}{dst:Option Nat}{D:aQ}{K:aQ->List Z->Prop}{z:F}
 (hA:aO P f args [] λv rs=>v=z/\rs=[]) (ad:bU args=true) (N:bJ z=true) (O:K (put D dst z) r):rp P f args r dst D K:=
 PP hA ad λv an=>by subst an;exact⟨N,O⟩
theorem aqL {P:Program}{f:FuncId}{args:List F}{bL:List Nat}{tk:dr}{r:List Z}{dst:Option Nat}{D:aQ}{K:aQ->List Z->Prop}{bh:F->Prop}
 (hA:aO P f args [] λv rs=>bh v/\rs=[]) (ad:bU args=true) (O:∀v,bh v->bJ v=true/\K (put D dst v) r):wh P f args bL tk r dst D K:=by
 refine KM [] [] (by rw[PM];trivial) (by simp) (srows:=[]) (aKF rfl) (qw args ad) hA ?_;rintro v rs ⟨aV,rfl⟩;obtain⟨d,G⟩:=O v aV;refine⟨.inl rfl,?_⟩;rw[uD _ _ d];simpa[fu] using G
theorem gG {P:Program}{f:FuncId}{args:List F}{bL:List Nat}{tk:dr}{r:List Z}{dst:Option Nat}{D:aQ}{K:aQ->List Z->Prop}{z:F}
 (hA:aO P f args [] λv rs=>v=z/\rs=[]) (ad:bU args=true) (N:bJ z=true) (O:K (put D dst z) r):wh P f args bL tk r dst D K:=
 aqL hA ad λv an=>by subst an;exact⟨N,O⟩
def cJ (k:IntKind)(l:List Int):List (List F):=l.map λn=> [.int k n]
theorem mV {k:IntKind}{l:List Int}: (cJ k l).length=l.length:=by simp[cJ]
theorem DZ {k:IntKind}:∀{l:List Int},dY (cJ k l)=true
 | []=>aKF rfl
 |n::l=>by simpa[cJ,dY,bU,bJ] using (DZ (k:=k) (l:=l))
theorem aqM {k:IntKind}{a:List Int}{n:Int}:cJ k a++[[.int k n]]=cJ k (a++[n]):=by simp[cJ]
theorem tw {k:IntKind}{l:List Int}{c:Nat}(h:c<l.length): (cJ k l).getD c []=[.int k (l.getD c 0)]:=by
 simp[cJ,aLn,aKS h]
theorem WF {k:IntKind}{l:List Int}{n:Nat}: (cJ k l).take n=cJ k (l.take n):=by simp[cJ]
def ctx0 (w:World):bD:=⟨[],[],λ_=>False,w,false⟩
theorem WG (w:World):ci (ctx0 w):=⟨aKF rfl,aKF rfl,λz bG h=>by simp[ctx0] at h,λz cG b J dR h=>by simp[ctx0] at h,λb h=>h.elim⟩
theorem calls_of_afn {P:Program}{f:FuncId}{args:List F}{dA:List Value}{w:World}(h:aO P f args [] λv _=>v= .bool true)(N:aE (ctx0 w) args dA)(hG:GOk (ctx0 w)):
 Calls P f dA.toArray w λe w'=>e= .returned (.bool true)/\Below w.heap.size w w':=by
 refine (h (ctx0 w) dA (aKF rfl) (WG w) hG N).mono ?_;rintro e w' ⟨aZ,v,aB,rfl,rfl,d,G,au,rfl⟩;rw[Rep] at d;subst d;exact⟨aKF rfl,⟨au.os,au.tape,au.output,au.size,λb af=>au.block b af λz J N=>by simp[ctx0] at N⟩⟩
end Go.Abs
namespace Go.Abs
variable [dE]
theorem aqN {r:List Z}{ax:List (Option Nat)}{bn:List Nat}{e:TypeId}{U:Nat}{am:List (List F)}:hr r ax bn (.ag e U am)= .ag e U (lJ r ax bn am):=aKF rfl
theorem aqO {r:List Z}{ax:List (Option Nat)}{bn:List Nat}:hr r ax bn .fP= .fP:=aKF rfl
theorem aqP {f:Nat->Nat}{e:TypeId}{U:Nat}{am:List (List F)}:gD f (.ag e U am)= .ag e U (rk f am):=aKF rfl
theorem aqQ {f:Nat->Nat}:gD f .fP= .fP:=aKF rfl
def kh (ents:List (F×F)):Bool:=bU (ents.map (·.1))&&bU (ents.map (·.2))
theorem D1 {g:F->F}(aw:∀a,bJ a=true->g a=a):∀{ents:List (F×F)},kh ents=true->ents.map (λp=>(g p.1,g p.2))=ents
 | [],_=>aKF rfl
 |p::aa,h=>by
  simp only[kh,aKP,bU,aKJ] at h;have:=D1 aw (ents:=aa) (by simp only[kh,aKJ];exact⟨h.1.2,h.2.2⟩);rw[aKP,this,aw _ h.1.1,aw _ h.2.1]
theorem aqR {r:List Z}{ax:List (Option Nat)}{bn:List Nat}{aK:Bool}{Y:List cW}{ents:List (F×F)}:hr r ax bn (.be (.map aK Y ents))= .be (.map aK Y (if kh ents then ents else ents.map λp=>(bW r ax bn p.1,bW r ax bn p.2))):=by
 rw[hr];split
 ·rw[D1 (λa aC=>tv a aC) ‹_›]
 ·rfl
theorem aqS {f:Nat->Nat}{aK:Bool}{Y:List cW}{ents:List (F×F)}:gD f (.be (.map aK Y ents))= .be (.map aK Y (if kh ents then ents else ents.map λp=>(dS f p.1,dS f p.2))):=by
 rw[gD];split
 ·rw[D1 (λa aC=>uD f a aC) ‹_›]
 ·rfl
theorem aqT:kh []=true:=aKF rfl
attribute [go_sem] amu amv amw amx amy
attribute [go_sem] amz amA aSx aSy anO anP anQ anR
attribute [go_sem] anS anT anU anV anW anX anY anZ aoa aob
attribute [go_sem] aoc aod aoe aof aog aoE aoF
attribute [go_sem] apS aqz aqA
attribute [go_sem] alS anL
attribute [go_sem] alQ alR anK anM anN
attribute [go_sem] aqB aqC aqD aSA
attribute [go_sem] aqR aqS aqT
attribute [go_sem] alw alx aly alz alA alB alC alD alE alF alG alH
attribute [go_sem] alI alJ alK alL alM alN alO alT alU alV alW alX
attribute [go_sem] alY ama amb amc amd ame amf amg amh ami
attribute [go_sem] amk aml amm amn amo amq amr ams
attribute [go_sem] alP anF anG
attribute [go_sem] amt amB amC amD amE amF amG amH amI
attribute [go_sem] amK amL amM amN amO amP amQ amR amS amT amU
attribute [go_sem] amV amW amY amZ ana anb anc ane anf ang anh
attribute [go_sem] ani anj ank anl anm ano anp
attribute [go_sem] anq anr ans anv anw anx
attribute [go_sem] anz anA anB anC anD anE anH
attribute [go_sem] anI anJ aoh aoi aoj aok aol aom aon aoo aop aoq
attribute [go_sem] aor aos aot aou aov aow aox aoy aoz aoA aoB
attribute [go_sem] aoC aoD aoG aoH aoI aoJ aoK aoL aoM Pu
attribute [go_sem] aoN aoO aoP aoQ aoR aoS aoT aoU aoW aoX
attribute [go_sem] aoY aoZ apa apb apc apd ape apf apg
attribute [go_sem] aph api apj apL apM apN apO apP apQ apR apT
attribute [go_sem] apU PM apV apW apX apY apZ aqa aqb aqc aqd aqe
attribute [go_sem] aqf aqg aqh aqi aSz aqj aqk aql aqm aqn aqo
attribute [go_sem] aqp aqr aqs aqt
attribute [go_sem] aqu aqv aqw aqx aqy aqE aqF aqG
attribute [go_sem] aqH aqI
attribute [go_sem] List.map_cons List.map_nil List.contains_cons List.contains_nil beq_self_eq_true Bool.or_true Bool.true_or Bool.or_false Bool.false_or Bool.and_false Bool.false_and
attribute [go_sem] List.length_cons List.length_nil List.cons_append List.nil_append List.getElem?_cons_zero List.getElem?_cons_succ List.getElem?_nil List.getD_cons_zero List.getD_cons_succ List.set_cons_zero List.set_cons_succ List.take_succ_cons
attribute [go_sem] List.take_zero List.drop_succ_cons List.drop_zero List.all_cons List.all_nil List.replicate_succ List.replicate_zero List.take_nil List.drop_nil List.append_nil Nat.zero_add Nat.add_zero
attribute [go_sem] Nat.lt_irrefl Nat.le_refl Nat.succ_ne_zero if_true if_false ite_true ite_false true_and and_true and_self Bool.and_true Bool.true_and
attribute [go_sem] Bool.and_self decide_true decide_false Bool.not_true Bool.not_false Option.some.injEq not_false_eq_true ne_eq Bool.false_eq_true Int.toNat_zero Int.toNat_one Bool.bne_false
attribute [go_sem] Bool.bne_true Int.cast_ofNat_Int
attribute [go_sem] eC dT bW aqN aqO lJ hE dY bU bJ eU fu
attribute [go_sem] dS jm aqP aqQ rk DZ mV Dv ny oT
attribute [go_sem] aqM WF
end Go.Abs
namespace Go.Abs
variable [dE]
def dX (aW:TypeId)(l:List Int)(az:Int):Z:= .ag aW 2 [[.pure 1 (cJ .i64 l),.int .i64 az]]
structure mW (l:List Int):Prop where
 len:l.length<=9223372036854775807
 num:∀n∈l,-9223372036854775808<=n/\n<=9223372036854775807
def BU (P:Program)(aW:TypeId)(f:FuncId)(bS:List F)(l:List Int)(bh:F->Prop):Prop:=
 ∀az:Int,0<=az->az<=l.length->aO P f (.bd 0 1 0 0::bS) [dX aW l az] λv rs=> ∃a:Int,rs=[dX aW l a]/\0<=a/\a<=l.length/\bJ v=true/\bh v
theorem PQ {aW:TypeId}{l:List Int}{az:Int}{r:List Z}{z:Nat}(N:r[z]? =some (dX aW l az)):eC r [] [some z] [some z]=some [dX aW l az]:=by
 simp only[eC,N];simp[dX,hr,lJ,dY,bU,bJ]
theorem WH {r:List Z}{z:Nat}{bS:List F}(ad:bU bS=true):dT r [some z] [] (.bd z 1 0 0::bS)= .bd 0 1 0 0::bS:=by
 simp[dT,bW,hE,qw bS ad]
theorem KO {f:Nat->Nat}{aW:TypeId}{l:List Int}{az:Int}:gD f (dX aW l az)=dX aW l az:=by
 simp[dX,gD,rk,dY,bU,bJ]
theorem KP {P:Program}{aW:TypeId}{f:FuncId}{bS:List F}{l:List Int}{bh:F->Prop}{r:List Z}{dst:Option Nat}{D:aQ}{K:aQ->List Z->Prop}{z:Nat}{az:Int}
 (hA:BU P aW f bS l bh) (ad:bU bS=true) (N:r[z]? =some (dX aW l az)) (h0:0<=az) (d:az<=l.length)
 (O:∀(v:F) (a:Int),0<=a->a<=l.length->bh v->K (put D dst v) (r.set z (dX aW l a))):rp P f (.bd z 1 0 0::bS) r dst D K:=by
 refine om [z] [] (by simp) (PQ N) (WH ad) (hA az h0 d) ?_;rintro v rs ⟨a,rfl,G,au,bv,cx⟩;refine⟨.inl rfl,?_⟩;rw[uD _ _ bv,aKP,aLC,KO];simpa[fu] using O v a G au cx
theorem aqU {P:Program}{aW:TypeId}{f:FuncId}{bS:List F}{l:List Int}{bh:F->Prop}{bL:List Nat}{tk:dr}{r:List Z}{dst:Option Nat}{D:aQ}{K:aQ->List Z->Prop}{z:Nat}{az:Int}
 (hA:BU P aW f bS l bh) (ht:eL bL tk [z] []) (ad:bU bS=true) (N:r[z]? =some (dX aW l az)) (h0:0<=az) (d:az<=l.length)
 (O:∀(v:F) (a:Int),0<=a->a<=l.length->bh v->K (put D dst v) (r.set z (dX aW l a))):wh P f (.bd z 1 0 0::bS) bL tk r dst D K:=by
 refine KM [z] [] ht (by simp) (PQ N) (WH ad) (hA az h0 d) ?_;rintro v rs ⟨a,rfl,G,au,bv,cx⟩;refine⟨.inl rfl,?_⟩;rw[uD _ _ bv,aKP,aLC,KO];simpa[fu] using O v a G au cx
theorem E.tape {aW:TypeId}{l:List Int}{a:Int}{bh:F->Prop}{v:F}{r:List Z}(an:bJ v=true)(h0:0<=a)(d:a<=l.length)(h:bh v):
 E 1 (xP λv rs=> ∃a:Int,rs=[dX aW l a]/\0<=a/\a<=l.length/\bJ v=true/\bh v) [(0,v)] (dX aW l a::r):=by
 refine aMd (srows:=[dX aW l a]) [some 0] [] (by decide) (by decide) (PQ (by simp)) (i ?_);simp only[xP,aKP,aLC,Pu,aK5];refine⟨a,aKF rfl,h0,d,?_⟩;rw[tv v an];exact⟨an,h⟩
def BV (P:Program)(aW e:TypeId)(f:FuncId)(l aq:List Int)(bh:F->Prop):Prop:=
 ∀az:Int,0<=az->az<=l.length->aO P f [.bd 0 1 0 0,.own 1 aq.length 0 aq.length] [dX aW l az,.ag e 1 (cJ .i64 aq)]
  λv rs=> ∃a:Int,rs=[dX aW l a,.ag e 1 (cJ .i64 aq)]/\0<=a/\a<=l.length/\bJ v=true/\bh v
theorem WI {aW e:TypeId}{l aq:List Int}{az:Int}{r:List Z}{z q:Nat}{am:List (List F)}(N:r[z]? =some (dX aW l az))(aV:r[q]? =some (.ag e 1 am))(an:am=cJ .i64 aq):
 eC r [] [some z,some q] [some z,some q]=some [dX aW l az,.ag e 1 (cJ .i64 aq)]:=by
 subst an;simp only[eC,N,aV];simp[dX,hr,lJ,dY,bU,bJ,DZ]
theorem WJ {aW e:TypeId}{l aq:List Int}{a:Int}{r:List Z}{z q:Nat}{am:List (List F)}(aV:r[q]? =some (.ag e 1 am))(an:am=cJ .i64 aq)(hne:z≠q)(f:Nat->Nat):
 fu r [z,q] ([dX aW l a,.ag e 1 (cJ .i64 aq)].map (gD f))=r.set z (dX aW l a):=by
 subst an;have d: [dX aW l a,Z.ag e 1 (cJ .i64 aq)].map (gD f)=[dX aW l a,.ag e 1 (cJ .i64 aq)]:=by
  rw[aKP,aKP,aLC,KO];simp[gD,rk,DZ]
 rw[d];simp only[fu,aLY];rw[aPY _ _ hne];congr 1;apply aLT;intro c;rw[aKQ];split
 ·rename_i h;subst h;split
  ·exact aV.symm
  ·rename_i h;rw[aLB (by omega)]
 ·rfl
theorem aqV {P:Program}{aW e:TypeId}{f:FuncId}{l:List Int}{bh:F->Prop}{r:List Z}{dst:Option Nat}{D:aQ}{K:aQ->List Z->Prop}{z q n m:Nat}{az:Int}{am:List (List F)}(aq:List Int)
 (hA:BV P aW e f l aq bh) (N:r[z]? =some (dX aW l az)) (aV:r[q]? =some (.ag e 1 am)) (an:am=cJ .i64 aq) (aH:n=aq.length) (hm:m=aq.length) (hne:z≠q) (h0:0<=az) (d:az<=l.length)
 (O:∀(v:F) (a:Int),0<=a->a<=l.length->bh v->K (put D dst v) (r.set z (dX aW l a))):rp P f [.bd z 1 0 0,.own q n 0 m] r dst D K:=by
 subst aH;subst hm;refine om [z,q] [] (by simp[hne]) (WI N aV an) (by simp[dT,bW,hE,hne]) (hA az h0 d) ?_;rintro v rs ⟨a,rfl,G,au,bv,cx⟩;refine⟨.inl rfl,?_⟩;rw[uD _ _ bv,WJ aV an hne];exact O v a G au cx
theorem aqW {P:Program}{aW e:TypeId}{f:FuncId}{l:List Int}{bh:F->Prop}{bL:List Nat}{tk:dr}{r:List Z}{dst:Option Nat}{D:aQ}{K:aQ->List Z->Prop}{z q n m:Nat}{az:Int}{am:List (List F)}(aq:List Int)
 (hA:BV P aW e f l aq bh) (ht:eL bL tk [z,q] []) (N:r[z]? =some (dX aW l az)) (aV:r[q]? =some (.ag e 1 am)) (an:am=cJ .i64 aq) (aH:n=aq.length) (hm:m=aq.length) (hne:z≠q) (h0:0<=az) (d:az<=l.length)
 (O:∀(v:F) (a:Int),0<=a->a<=l.length->bh v->K (put D dst v) (r.set z (dX aW l a))):wh P f [.bd z 1 0 0,.own q n 0 m] bL tk r dst D K:=by
 subst aH;subst hm;refine KM [z,q] [] ht (by simp[hne]) (WI N aV an) (by simp[dT,bW,hE,hne]) (hA az h0 d) ?_;rintro v rs ⟨a,rfl,G,au,bv,cx⟩;refine⟨.inl rfl,?_⟩;rw[uD _ _ bv,WJ aV an hne];exact O v a G au cx
def PR (n:Int)(v:F):Prop:= ∃x:Int,v= .int .i64 x/\0<=x/\(x<n\/x=0)
def mod (v n:Int):Int:=if v.tmod n<0 then v.tmod n+n else v.tmod n
theorem PS {v n:Int}(aH:0<n):0<=mod v n/\mod v n<n:=by
 unfold mod;have d:=aO7 v aH;have G: -n<v.tmod n:=by
  have:=aO8 v aH;omega
 split<;>omega
end Go.Abs
namespace Go.Abs
variable [dE]
class aJ (bj:Type) where
 J:bj->List F
 U:Nat
 len:∀x,(J x).length=U
 fX:∀x,bU (J x)=true
 on:∀x,(J x).all cV=true
def ai {bj:Type}[aJ bj](l:List bj):List (List F):=l.map aJ.J
section
variable {bj:Type} [aJ bj]
theorem bT {l:List bj}: (ai l).length=l.length:=by simp[ai]
theorem ck:∀{l:List bj},dY (ai l)=true
 | []=>aKF rfl
 |x::l=>by
  show (bU (aJ.J x)&&dY (ai l))=true;rw[aJ.fX,ck];exact aKF rfl
theorem aqZ {a b:List bj}:ai a++ai b=ai (a++b):=by simp[ai]
theorem kT {a:List bj}{x:bj}:ai a++[aJ.J x]=ai (a++[x]):=by simp[ai]
theorem WL {l:List bj}{n:Nat}: (ai l).take n=ai (l.take n):=by simp[ai]
theorem ara {l:List bj}{n:Nat}: (ai l).drop n=ai (l.drop n):=by simp[ai]
theorem xS {l:List bj}{c:Nat}{x:bj}: (ai l).set c (aJ.J x)=ai (l.set c x):=by simp[ai,aO2]
theorem cT {l:List bj}{c:Nat}(h:c<l.length): (ai l).getD c []=aJ.J (l[c]'h):=by
 simp[ai,aLn,aKS h]
end
theorem arb {r:List Z}{ax:List (Option Nat)}{bn:List Nat}{aW:TypeId}{l:List Int}{a:Int}:hr r ax bn (dX aW l a)=dX aW l a:=by
 simp[dX,hr,lJ,dY,bU,bJ]
attribute [go_sem] arb KO Option.map_some Option.map_none
attribute [go_sem] kT aqZ WL ara bT ck aJ.len aJ.fX aJ.on
end Go.Abs
namespace Go.Abs
variable [dE]
theorem wi {w n:Nat}:BitVec.ofInt w (n:Int)=BitVec.ofNat w n:=by simp
theorem aJy {a b:Nat}(aC:a<9223372036854775808)(af:b<9223372036854775808):Kw .i64 (a:Int) (b:Int)=((a ^^^ b:Nat):Int):=by
 show IntKind.i64.wrap ((BitVec.ofInt 64 _ ^^^ BitVec.ofInt 64 _).toNat:Int)=_;have h:=Nat.xor_lt_two_pow (n:=63) (x:=a) (y:=b) (by simpa using aC) (by simpa using af);rw[wi,wi,BitVec.toNat_xor,aN3,aN3,aNI (by omega),aNI (by omega),bl]
theorem arf {a b:Nat}(aC:a<9223372036854775808)(af:b<9223372036854775808):ep .i64 (a:Int) (b:Int)=((a&&& b:Nat):Int):=by
 show IntKind.i64.wrap ((BitVec.ofInt 64 _&&& BitVec.ofInt 64 _).toNat:Int)=_;have h:=Nat.and_lt_two_pow (n:=63) a (y:=b) (by simpa using af);rw[wi,wi,BitVec.toNat_and,aN3,aN3,aNI (by omega),aNI (by omega),bl]
theorem WM {a b:Nat}(aC:a<9223372036854775808)(af:b<9223372036854775808):Kv .i64 (a:Int) (b:Int)=((a|||b:Nat):Int):=by
 show IntKind.i64.wrap ((BitVec.ofInt 64 _|||BitVec.ofInt 64 _).toNat:Int)=_;have h:=aP1 (n:=63) (x:=a) (y:=b) (by simpa using aC) (by simpa using af);rw[wi,wi,BitVec.toNat_or,aN3,aN3,aNI (by omega),aNI (by omega),bl]
theorem WO {a:Int}{n:Nat}(aH:n<=64):BP .i64 a n=IntKind.i64.wrap (a*2^n):=by
 show IntKind.i64.wrap (a*2^(min n 64))=_;rw[aP2 aH]
theorem WQ {a n:Nat}(aH:n<=64):Kx .i64 (a:Int) n=((a / 2^n:Nat):Int):=by
 show Int.fdiv (a:Int) (2^(min n 64))=_;rw[aP2 aH,Int.fdiv_eq_ediv_of_nonneg _ (by exact Int.pow_nonneg (by omega))];simp
theorem ark {l:List Int}{n:Nat}(d:l.length=n)(G:n<=maxLen)(h:∀x∈l,IntKind.i64.min<=x/\x<=IntKind.i64.max):mW l:=by
 refine⟨by rw[d];exact G,λx aj=> ?_⟩;have:=h x aj;rw[show IntKind.i64.min= -9223372036854775808 from aKF rfl,show IntKind.i64.max=9223372036854775807 from aKF rfl] at this;exact this
theorem repL_nil {C:bD}:aE C [] []:=by rw[aE]
theorem repL_cons {C:bD}{a:F}{as:List F}{v:Value}{vs:List Value}(h:Rep C a v)(k:aE C as vs):aE C (a::as) (v::vs):=by rw[aE];exact⟨v,vs,aKF rfl,h,k⟩
end Go.Abs
namespace Go.Abs
variable [dE]
theorem WR {op:gc}{args:List F}{r:List Z}{K aL:F->List Z->Prop}(cA:∀v rs,K v rs->aL v rs)(h:aM op args r K):aM op args r aL:=(DG op args).mono h cA
theorem WS {P:Program}{f:FuncId}{args:List F}{r:List Z}{K aL:F->List Z->Prop}(cA:∀v rs,K v rs->aL v rs)(h:uH P f args r K):uH P f args r aL:=by
 obtain⟨ax,bn,srows,d,G,au⟩:=h;exact⟨ax,bn,srows,d,G,au.mono λv rs aV=>⟨aV.1,cA _ _ aV.2⟩⟩
theorem arl {r:List Z}{x:F}{K aL:F->List Z->Prop}(cA:∀v rs,K v rs->aL v rs)(h:sa r x K):sa r x aL:=by
 unfold sa at h;split at h
 ·split at h
  ·rename_i N hm;simp only[sa,N,hm];exact⟨h.1,h.2.1,λaC=>cA _ _ (h.2.2.1 aC),λc av ao=>cA _ _ (h.2.2.2 c av ao)⟩
  ·exact h.elim
 ·exact h.elim
theorem arm {P:Program}{vs:List F}{r:List Z}{K aL:F->List Z->Prop}(cA:∀v rs,K v rs->aL v rs)(h:BE P vs r K):BE P vs r aL:=by
 unfold BE at h ⊢;split
 ·exact⟨h.1,WS cA h.2⟩
 ·rename_i kx;split at h
  ·rename_i f ap aq;exact (kx f ap aq rfl).elim
  ·exact h
theorem WT {P:Program}{V:dU}{D:aQ}{r:List Z}{K aL:aQ->List Z->Prop}(cA:∀e z,K e z->aL e z)(h:eV P V D r K):eV P V D r aL:=by
 unfold eV at h ⊢;split
 ·rename_i f hf;rw[hf] at h;exact WS (λv rs=>cA _ _) h
 ·rename_i hf;rw[hf] at h;simp only at h;split
  ·rename_i x aj;rw[aj] at h;exact arl (λv rs=>cA _ _) h
  ·rename_i kx;split at h
   ·rename_i x aj;exact (kx x aj).elim
   ·exact h
 ·rename_i hf;rw[hf] at h;simp only at h;exact arm (λv rs=>cA _ _) h
 ·rename_i hne G1 PT;split at h
  ·rename_i f hf;exact (hne f hf).elim
  ·rename_i hf;exact (G1 hf).elim
  ·rename_i hf;exact (PT hf).elim
  ·exact WR (λv rs=>cA _ _) h
theorem WU {b w:Bool}{A fx di WV:Prop}(d:A->fx)(G:di->WV)(h:tn b w A di):tn b w fx WV:=by
 unfold tn at h ⊢
 by_cases af:b=w
 ·rw[Rc af] at h ⊢;exact d h
 ·rw[S af] at h ⊢;exact G h
theorem WW {P:Program}{V:dU}{D:aQ}{r:List Z}{K aL:aQ->List Z->Prop}(cA:∀e z,K e z->aL e z)(h:xF P V D r K):xF P V D r aL:=by
 unfold xF at h ⊢;split
 ·rename_i aw;rw[aw] at h;exact WT cA h
 ·rename_i I ej aw;rw[aw] at h;simp only at h;split
  ·rename_i b af;rw[af] at h;exact WU (WT cA) (cA _ _) h
  ·rename_i af;rw[af] at h;exact cA _ _ h
  ·rename_i d G;split at h
   ·rename_i b af;exact (d b af).elim
   ·rename_i af;exact (G af).elim
   ·exact h
theorem PU {P:Program}:∀{os:List dU} {D:aQ} {r:List Z} {K aL:aQ->List Z->Prop},(∀e z,K e z->aL e z)->zv P os K D r->zv P os aL D r
 | [],_,_,_,_,cA,h=>cA _ _ h
 |_::_,_,_,_,_,cA,h=>WW (λ_ _=>PU cA) h
theorem WX {P:Program}{f:FuncId}{args:List F}{bL:List Nat}{tk:dr}{r:List Z}{K aL:F->List Z->Prop}(cA:∀v rs,K v rs->aL v rs)(h:xH P f args bL tk r K):xH P f args bL tk r aL:=by
 obtain⟨ax,bn,srows,h0,d,G,au⟩:=h;exact⟨ax,bn,srows,h0,d,G,au.mono λv rs aV=>⟨aV.1,cA _ _ aV.2⟩⟩
theorem arn {P:Program}{vs:List F}{bL:List Nat}{tk:dr}{r:List Z}{K aL:F->List Z->Prop}(cA:∀v rs,K v rs->aL v rs)(h:uJ P vs bL tk r K):uJ P vs bL tk r aL:=by
 unfold uJ at h ⊢;split
 ·exact⟨h.1,WX cA h.2⟩
 ·rename_i kx;split at h
  ·rename_i f ap aq;exact (kx f ap aq rfl).elim
  ·exact h
theorem KS {P:Program}{base c:Nat}{B:fd}{tk:dr}{D:aQ}{r:List Z}{K aL:dr->aQ->List Z->Prop}(cA:∀t e z,K t e z->aL t e z)(h:gZ P base c B tk D r K):gZ P base c B tk D r aL:=by
 unfold gZ at h ⊢;split
 ·rename_i q aV;rw[aV] at h;exact⟨h.1,(Kp _ _ _).mono h.2 λv rs=>cA _ _ _⟩
 ·rename_i aV;rw[aV] at h;simp only at h;split
  ·rename_i f hf;rw[hf] at h;exact WX (λv rs=>cA _ _ _) h
  ·rename_i hf;rw[hf] at h;exact arn (λv rs=>cA _ _ _) h
  ·rename_i hne PT;split at h
   ·rename_i f hf;exact (hne f hf).elim
   ·rename_i hf;exact (PT hf).elim
   ·exact⟨h.1,WR (λv rs=>cA _ _ _) h.2⟩
theorem aro {P:Program}{base c:Nat}{v:F}{ej:Bool}{B:fd}{tk:dr}{D:aQ}{r:List Z}{K aL:dr->aQ->List Z->Prop}(cA:∀t e z,K t e z->aL t e z)(h:ru P base v ej c B tk D r K):ru P base v ej c B tk D r aL:=by
 unfold ru at h ⊢;split
 ·exact WU (KS cA) (cA _ _ _) h
 ·exact cA _ _ _ h
 ·rename_i d G;split at h
  ·rename_i b;exact (d b rfl).elim
  ·exact (G rfl).elim
  ·exact h
theorem KT {P:Program}{base:Nat}{ag:List Nat}:∀{ds:List (Nat×fd)} {tk:dr} {D:aQ} {r:List Z} {K aL:aQ->List Z->Prop},(∀e z,K e z->aL e z)->oi P base ds ag K tk D r->oi P base ds ag aL tk D r
 | [],_,_,_,_,_,cA,h=>cA _ _ h
 | (c,B)::ds,tk,D,r,K,aL,cA,h=>by
  rw[oi] at h ⊢;split
  ·rename_i aw;rw[aw] at h;exact KS (λ_ _ _=>KT cA) h
  ·rename_i I ej aw;rw[aw] at h;exact aro (λ_ _ _=>KT cA) h
theorem E.mono {bb:Nat}{K aL:aQ->List Z->Prop}{D:aQ}{r:List Z}(cA:∀e z,K e z->aL e z)(h:E bb K D r):E bb aL D r:=by
 obtain⟨e,z,d,G⟩:=h;exact⟨e,z,d,cA _ _ G⟩
theorem uP {P:Program}{bb:Nat}:∀(J:gd) {K aL:oh} {D:aQ} {r:List Z},(∀e z,K.n e z->aL.n e z)->(∀j e z,K.x j e z->aL.x j e z)->(∀e z,K.z e z->aL.z e z)->fh P bb J K D r->fh P bb J aL D r
 | .skip,_,_,_,_,d,_,_,h=>d _ _ h
 | .region _ _,_,_,_,_,d,_,_,h=>PU (λ_ _=>d _ _) h
 | .tq _ _ _,_,_,_,_,d,_,_,h=>KT d h
 | .seq a b,K,aL,_,_,d,G,au,h=>uP a (K:=⟨fh P bb b K,K.x,K.z⟩) (aL:=⟨fh P bb b aL,aL.x,aL.z⟩) (λ_ _=>uP b d G au) G au h
 | .cond J a b,K,aL,D,r,d,G,au,h=>by
  rw[fh] at h ⊢;unfold rm at h ⊢;split
  ·rename_i eE af;rw[af] at h;exact⟨λe=>uP a d G au (h.1 e),λe=>uP b d G au (h.2 e)⟩
  ·rename_i hne;split at h
   ·rename_i eE af;exact (hne eE af).elim
   ·exact h
 | .block id J,K,aL,D,r,d,G,au,h=>by
  rw[fh] at h ⊢;refine uP J (K:=⟨K.n,λj=>if j=id then K.n else K.x j,K.z⟩) (aL:=⟨aL.n,λj=>if j=id then aL.n else aL.x j,aL.z⟩) d (λj e z aj=> ?_) au h
  by_cases hj:j=id
  ·simp only[hj,aK5] at aj ⊢;exact d _ _ aj
  ·simp only[hj,aLi] at aj ⊢;exact G _ _ _ aj
 | .loop J,K,aL,D,r,d,G,au,h=>by
  rw[fh] at h ⊢;obtain⟨hI,iX,aKH,bR⟩:=h;exact⟨hI,iX,aKH,λe z av=>uP J (K:=⟨E bb λfl ca=>hI fl ca/\iX fl ca<iX e z,K.x,K.z⟩) (λ_ _ aj=>aj) G au (bR e z av)⟩
 | .exit id,_,_,_,_,_,G,_,h=>G _ _ _ h
 | .ret,_,_,_,_,_,_,au,h=>au _ _ h
theorem WY {P:Program}{bb:Nat}{J:gd}{K:oh}{D:aQ}{r:List Z}(aF:aQ->List Z->Prop)(h:fh P bb J ⟨aF,K.x,K.z⟩ D r)(dc:∀e z,aF e z->K.n e z):fh P bb J K D r:=
 uP J (K:=⟨aF,K.x,K.z⟩) dc (λ_ _ _ aj=>aj) (λ_ _ aj=>aj) h
theorem arp {P:Program}{bb:Nat}{b:Bool}{x y:gd}{K:oh}{D:aQ}{r:List Z}(aF:aQ->List Z->Prop)(d:b=true->fh P bb x ⟨aF,K.x,K.z⟩ D r)(G:b=false->fh P bb y ⟨aF,K.x,K.z⟩ D r)
 (dc:∀e z,aF e z->K.n e z):BO P bb (.bool b) x y K D r:=
 ⟨λaf=>WY aF (d af) dc,λaf=>WY aF (G af) dc⟩
attribute [go_sem] Int.toNat_natCast List.take_length List.length_set xS
end Go.Abs
namespace Go.Abs
variable [dE]
open Go.Deep
def zE (P:Program)(zF:Nat):List Field->Nat->Bool
 | [],off=>off==zF
 |f::fg,off=>f.offset==off&&zE P zF fg (off+P.cellsOf f.type)
def BW (P:Program):Nat->TypeId->Bool
 |0,_=>false
 |m+1,t=>
  match P.underlying t with
  |some .bool=>true
  |some (.int _)=>true
  |some .string=>true
  |some (.slice e)=>decide (0<P.cellsOf e)&&BW P m e
  |some (.struct fg)=>zE P (P.cellsOf t) fg.toList 0&&fg.toList.all λf=>BW P m f.type
  |_=>false
def lM (P:Program):Nat->TypeId->List F->Prop
 |0,_,_=>False
 |m+1,t,as=>
  match P.underlying t with
  |some .bool=> ∃b,as=[.bool b]
  |some (.int k)=> ∃n,as=[.int k n]/\k.min<=n/\n<=k.max
  |some .string=> ∃I,as=[.str I]/\I.size<=maxLen
  |some (.slice e)=> ∃am,as=[.pure (P.cellsOf e) am]/\am.length<=maxLen/\ ∀v∈am,v.length=P.cellsOf e/\lM P m e v
  |some (.struct fg)=>as.length=P.cellsOf t/\ ∀f∈fg.toList,lM P m f.type ((as.drop f.offset).take (P.cellsOf f.type))
  |_=>False
theorem PV {P:Program}{zF:Nat}:∀{fg:List Field} {off:Nat},zE P zF fg off=true->off<=zF/\ ∀f∈fg,off<=f.offset
 | [],off,h=>by simp[zE] at h;exact⟨by omega,by simp⟩
 |f::fg,off,h=>by
  simp only[zE,aKJ,aLu] at h;obtain⟨d,G⟩:=PV h.2;refine⟨by omega,λg aw=> ?_⟩;rcases aKV.1 aw with rfl|aw
  ·omega
  ·have:=G g aw;omega
theorem WZ {P:Program}{C:bD}{zF:Nat}{ap:List Value}{iZ:Field->List F->Prop}(hl:ap.length=zF):∀(fg:List Field) (off:Nat),zE P zF fg off=true->
 (∀f∈fg,∃as,aE C as ((ap.drop f.offset).take (P.cellsOf f.type))/\iZ f as/\iU ((ap.drop f.offset).take (P.cellsOf f.type)))->
 ∃as,aE C as (ap.drop off)/\iU (ap.drop off)/\ ∀f∈fg,iZ f ((as.drop (f.offset-off)).take (P.cellsOf f.type))
 | [],off,h,_=>by
  simp[zE] at h;rw[aNq (by omega)];exact⟨[],by rw[aE],by intro v an;simp at an,by simp⟩
 |f::fg,off,h,hf=>by
  have eA:=PV h;simp only[zE,aKJ,aLu] at h;obtain⟨bp,ht⟩:=h;have arq:=PV ht;obtain⟨W0,cH,ff,a3⟩:=hf f (by simp);obtain⟨arr,aKU,eJ,lX⟩:=WZ hl fg _ ht λg aw=>hf g (by simp[aw]);have jK:W0.length=P.cellsOf f.type:=by
   have:=cH.length;simp only[aLd,aLt] at this;omega
  have eK:ap.drop off=(ap.drop f.offset).take (P.cellsOf f.type)++ap.drop (off+P.cellsOf f.type):=by
   rw[bp,<-aMM,aMt]
  refine⟨W0++arr,by rw[eK];exact cH.append aKU,?_,λg aw=> ?_⟩
  ·rw[eK];intro v an;rcases aK3.1 an with an|an
   ·exact a3 v an
   ·exact eJ v an
  ·by_cases PW:g∈fg
   ·have d:=arq.2 g PW;have:=lX g PW;rw[List.drop_append,aNq (by omega),aLV,jK,show g.offset-off-P.cellsOf f.type=g.offset-(off+P.cellsOf f.type) from by omega];exact this
   ·rcases aKV.1 aw with rfl|aw
    ·rw[bp,aNe,aNr,aO9 (by omega),aLZ (by omega)];exact ff
    ·exact (PW aw).elim
section
variable {H:Type} {enc:TypeId×Value->H} {P:Program} {w:World} {base:Nat} {PX:Nat->Bool} {PY:Bool}
theorem W1 {C:bD}{b U:Nat}:∀(am:List (List F)) (V:Nat),(∀(c:Nat) (v:List F),am[c]? =some v->v.length=U/\dC C b (V+c*U) v)->dh C b V U am
 | [],V,_=>by simp[dh]
 |v::am,V,h=>by
  rw[dh];obtain⟨d,G⟩:=h 0 v (by simp);refine⟨d,by simpa using G,W1 am (V+U) λc u bc=> ?_⟩;have:=h (c+1) u (by simpa using bc);rw[show V+U+c*U=V+(c+1)*U from by rw[aLM];omega];exact this
theorem PZ:∀(m:Nat) (t:TypeId) (hH:Nat) (ap:List Value) (x:DataW H×List MemPlace),BW P m t=true->DataW.trod enc P w base PX PY hH t ap=some x->
 ∃as,aE (ctx0 w).p as ap/\lM P m t as/\iU ap
 |0,t,hH,ap,x,ao,_=>by simp[BW] at ao
 |m+1,t,0,ap,x,_,h=>by simp[DataW.trod] at h
 |m+1,t,hH+1,ap,x,ao,h=>by
  unfold BW at ao;have G2:∀v:Value,v.oneCell'=true->iU [v]:=by intro v an u bc;simp at bc;subst bc;exact an
  split at ao
  ·rename_i bc;unfold DataW.trod at h;rw[bc] at h;split at h<;>simp_all;rename_i b;refine⟨[.bool b],?_,?_,G2 _ (aKF rfl)⟩
   ·rw[aE];exact⟨_,[],aKF rfl,by rw[Rep],by rw[aE]⟩
   ·rw[lM,bc];exact⟨b,aKF rfl⟩
  ·rename_i k bc;unfold DataW.trod at h;rw[bc] at h;split at h<;>simp_all;rename_i br n O;obtain⟨⟨rfl,ki⟩,_⟩:=h;refine⟨[.int br n],?_,?_,G2 _ (aKF rfl)⟩
   ·rw[aE];exact⟨_,[],aKF rfl,by rw[Rep],by rw[aE]⟩
   ·rw[lM,bc];exact⟨n,aKF rfl,by simpa[Lit.wf] using ki⟩
  ·rename_i bc;unfold DataW.trod at h;rw[bc] at h;split at h<;>simp_all;rename_i I;refine⟨[.str I],?_,?_,G2 _ (aKF rfl)⟩
   ·rw[aE];exact⟨_,[],aKF rfl,by rw[Rep],by rw[aE]⟩
   ·rw[lM,bc];exact⟨I,aKF rfl,by exact h.1⟩
  ·rename_i e bc;simp only[aKJ,aKN] at ao;rcases open_slice bc h with ⟨rfl,_⟩|⟨a,len,cap,ars,n,aD,aJz,rfl,af,hl,hm,KU,rfl,aj⟩
   ·refine⟨[.pure (P.cellsOf e) []],?_,?_,G2 _ (aKF rfl)⟩
    ·rw[aE];exact⟨_,[],aKF rfl,by rw[Rep];exact⟨none,0,by simp,by simp,.inl (by simp)⟩,by rw[aE]⟩
    ·rw[lM,bc];exact⟨[],aKF rfl,by simp,by simp⟩
   ·have KJ:len<=ars:=by rw[KU];split<;>omega
    have key:∀c,c<len-> ∃ge as,w.cells? base (a.add (c*P.cellsOf e)) (P.cellsOf e)=some ge/\aE (ctx0 w).p as ge/\lM P m e as/\iU ge:=by
     intro c av;obtain⟨ge,d,G⟩:=aj c (by omega);obtain⟨as,aKH,bR,dq⟩:=PZ m e n ge _ ao.2 G;exact⟨ge,as,d,aKH,bR,dq⟩
    have build:∀k,k<=len-> ∃am:List (List F),am.length=k/\ ∀(c:Nat) (v:List F),am[c]? =some v-> ∃ge,w.cells? base (a.add (c*P.cellsOf e)) (P.cellsOf e)=some ge/\aE (ctx0 w).p v ge/\lM P m e v/\iU ge:=by
     intro k
     induction k with
     |zero=>intro _;exact⟨[],aKF rfl,λc v an=>by simp at an⟩
     |succ k ih=>
      intro O;obtain⟨am,d,G⟩:=ih (by omega);obtain⟨ge,as,aKH,bR,dq,gP⟩:=key k (by omega);refine⟨am++[as],by simp[d],λc v an=> ?_⟩;rw[aK9] at an;split at an
      ·exact G c v an
      ·rename_i aI;have:c=k:=by
        rcases Nat.eq_or_lt_of_le (Nat.le_of_not_lt aI) with h|h
        ·omega
        ·rw[aLB (by simp;omega)] at an;cases an
       subst this;rw[d,aNe] at an;simp at an;subst an;exact⟨ge,aKH,bR,dq,gP⟩
    obtain⟨am,aMp,rU⟩:=build len (aKM _);have P0:∀{c:Nat} {ge:List Value},w.cells? base (a.add (c*P.cellsOf e)) (P.cellsOf e)=some ge->ge.length=P.cellsOf e/\ ∀j,j<P.cellsOf e->w.cell? ((a.add (c*P.cellsOf e)).add j)=ge[j]? :=by
     intro c ge h;have:=World.cells?_some h;exact⟨this.2.1,this.2.2⟩
    refine⟨[.pure (P.cellsOf e) am],?_,?_,G2 _ (aKF rfl)⟩
    ·rw[aE];refine⟨_,[],aKF rfl,?_,by rw[aE]⟩;rw[Rep];refine⟨some a,cap,by rw[aMp],by omega,?_⟩
     by_cases h0:len=0
     ·exact .inl (by omega)
     ·right
      obtain⟨b,V,spot⟩:=a;obtain⟨art,aru⟩:∃v,am[0]? =some v:=⟨_,aKS (by omega)⟩;obtain⟨aJA,c1,c2,c3,c4⟩:=rU 0 art aru;obtain⟨aLA,ky⟩:=P0 c1;have Bg:=ky 0 ao.1;rw[aKS (by omega)] at Bg;have JY:spot=none:=by simpa[Addr.add] using World.cell?_spot Bg
      subst JY;have kI:∀c j,((⟨b,V,none⟩:Addr).add c).add j=⟨b,V+c+j,none⟩:=by
       intro c j;have jY:=Go.WideShapes.add_plain;rw[jY,jY]
      rw[kI] at Bg;refine⟨b,V,aKF rfl,⟨World.block_lt_of_cell? w _ Bg,λh=>h,λz J N=>by simp[ctx0,bD.p] at N⟩,W1 am V λc v an=> ?_⟩;obtain⟨ge,bF,bK,gX,rt⟩:=rU c v an;obtain⟨es,ig⟩:=P0 bF;refine⟨by rw[<-bK.length,es],qv.2 ⟨ge,bK,λj u hj=> ?_,rt⟩⟩;have nC:j<P.cellsOf e:=by
       rw[<-es];exact (aLy.1 hj).1
      have:=ig j nC;rw[kI,hj] at this;exact this
    ·rw[lM,bc];refine⟨am,aKF rfl,by omega,λv an=> ?_⟩;obtain⟨c,av⟩:=List.getElem?_of_mem an;obtain⟨ge,bF,bK,gX,rt⟩:=rU c v av;exact⟨by rw[<-bK.length,(P0 bF).1],gX⟩
  ·rename_i fg bc;simp only[aKJ,aLW] at ao;obtain⟨aq,n,aJB,_,hl,zk,arv⟩:=DataW.trod_struct bc h;obtain⟨as,Gb,JH,t3⟩:=WZ (P:=P) (C:=(ctx0 w).p) (ap:=ap) (iZ:=λf as=>lM P m f.type as) hl fg.toList 0 ao.1 λf hf=>by
    obtain⟨c,av⟩:=List.getElem?_of_mem hf;have Dq:=arv c f (by simpa using av);have arw:c<aq.length:=by
     rw[zk];have:=(aLy.1 av).1;simpa using this
    rw[aKS arw] at Dq;obtain⟨as,aKH,bR,dq⟩:=PZ m f.type n _ _ (ao.2 f hf) Dq;exact⟨as,aKH,bR,dq⟩
   rw[aNr] at Gb JH;refine⟨as,Gb,?_,JH⟩;rw[lM,bc];refine⟨by rw[<-Gb.length,hl],λf hf=> ?_⟩;simpa using t3 f hf
  ·cases ao
end
end Go.Abs
namespace Go.Abs
variable [dE]
open Go.WideShapes
def GotV (P:Program)(m:Nat)(t:TypeId)(a:F):Prop:= ∃as,lM P m t as/\match P.underlying t with
 |some (.struct _)=>a= .agg as
 |_=>as=[a]
theorem gotV_of {H:Type}{enc:TypeId×Value->H}{P:Program}{w:World}{base:Nat}{PX:Nat->Bool}{PY:Bool}{z:Reach}{b0:Nat}{t:TypeId}{v:Value}{B:DataW H}{p:List MemPlace}(m:Nat)
 (ao:BW P m t=true) (an:Value.okWide P w z b0 t v) (h:DataW.Trod enc P w base PX PY t v B p):∃a,Rep (ctx0 w) a v/\GotV P m t a:=by
 obtain⟨hH,hf⟩:=h;obtain⟨as,d,G,_⟩:=PZ m t hH _ _ ao hf;have ii:=aE.oJ as _ d;cases m with
 |zero=>simp[BW] at ao
 |succ m=>
  by_cases cn:∃fg,P.underlying t=some (.struct fg)
  ·obtain⟨fg,bc⟩:=cn;obtain⟨ap,rfl,_⟩:=okWide_struct bc an;refine⟨.agg as,by rw[Rep];exact⟨ap,aKF rfl,ii⟩,as,G,?_⟩;rw[bc]
  ·have key:∃a,as=[a]:=by
    have aw:=G;unfold lM at aw;split at aw
    ·obtain⟨b,rfl⟩:=aw;exact⟨_,aKF rfl⟩
    ·obtain⟨n,rfl,_⟩:=aw;exact⟨_,aKF rfl⟩
    ·obtain⟨I,rfl,_⟩:=aw;exact⟨_,aKF rfl⟩
    ·obtain⟨am,rfl,_⟩:=aw;exact⟨_,aKF rfl⟩
    ·rename_i fg bc;exact (cn ⟨fg,bc⟩).elim
    ·exact aw.elim
   obtain⟨a,rfl⟩:=key;have nD:v.cells.toList=[v]:=by
    have aw:=G;unfold lM at aw;split at aw
    ·rename_i bc;simp only[Value.okWide,bc,Cell.okWide] at an;cases v<;>simp_all [Cell.ok]<;>rfl
    ·rename_i k bc;obtain⟨n,rfl⟩:=okWide_int bc an;rfl
    ·rename_i bc;obtain⟨I,rfl⟩:=okWide_string bc an;rfl
    ·rename_i e bc;obtain⟨a,len,cap,rfl⟩:=okWide_slice bc an;rfl
    ·rename_i fg bc;exact (cn ⟨fg,bc⟩).elim
    ·exact aw.elim
   rw[nD] at ii;rw[aE] at ii;obtain⟨u,bS,he,au,_⟩:=ii;simp at he;obtain⟨rfl,_⟩:=he;refine⟨a,au,[a],G,?_⟩;split
   ·rename_i fg bc;exact (cn ⟨fg,bc⟩).elim
   ·rfl
theorem arx {P:Program}{m:Nat}{t:TypeId}{as:List F}{k:IntKind}(bc:P.underlying t=some (.int k))(h:lM P (m+1) t as):∃n,as=[.int k n]/\k.min<=n/\n<=k.max:=by
 rw[lM,bc] at h;exact h
theorem ary {P:Program}{m:Nat}{t e:TypeId}{as:List F}(bc:P.underlying t=some (.slice e))(h:lM P (m+1) t as):
 ∃am,as=[.pure (P.cellsOf e) am]/\am.length<=maxLen/\ ∀v∈am,v.length=P.cellsOf e/\lM P m e v:=by
 rw[lM,bc] at h;exact h
theorem arz {P:Program}{m:Nat}{t e:TypeId}{a:F}(bc:P.underlying t=some (.slice e))(h:GotV P (m+1) t a):
 ∃am,a= .pure (P.cellsOf e) am/\am.length<=maxLen/\ ∀v∈am,v.length=P.cellsOf e/\lM P m e v:=by
 obtain⟨as,d,G⟩:=h;obtain⟨am,rfl,au⟩:=ary bc d;rw[bc] at G;simp at G;exact⟨am,G.symm,au⟩
theorem P1 {bj iS:Type}{f:iS->bj}{bh:iS->Prop}:∀(l:List bj),(∀x∈l,∃y,x=f y/\bh y)-> ∃ys:List iS,l=ys.map f/\ ∀y∈ys,bh y
 | [],_=>⟨[],aKF rfl,by simp⟩
 |x::l,h=>by
  obtain⟨y,bt,aV⟩:=h x (by simp);obtain⟨ys,d,G⟩:=P1 l λM ba=>h M (by simp[ba]);refine⟨y::ys,by rw[bt,d];rfl,λM ba=> ?_⟩;rcases aKV.1 ba with rfl|ba
  ·exact aV
  ·exact G M ba
theorem arA {P:Program}{m:Nat}{t e:TypeId}{a:F}{k:IntKind}(bc:P.underlying t=some (.slice e))(he:P.underlying e=some (.int k))(ad:P.cellsOf e=1)(h:GotV P (m+2) t a):
 ∃l,a= .pure 1 (cJ k l)/\l.length<=maxLen/\ ∀n∈l,k.min<=n/\n<=k.max:=by
 obtain⟨am,rfl,d,G⟩:=arz bc h;obtain⟨l,rfl,au⟩:=P1 (f:=λn:Int=> [F.int k n]) am λv an=>arx he (G v an).2;exact⟨l,by rw[ad];rfl,by simpa using d,au⟩
theorem gotV_tape {P:Program}{m:Nat}{t e:TypeId}{a:F}(bc:P.underlying t=some (.slice e))(he:P.underlying e=some (.int .i64))(ad:P.cellsOf e=1)(h:GotV P (m+2) t a):
 ∃l,a= .pure 1 (cJ .i64 l)/\mW l:=by
 obtain⟨l,rfl,d,G⟩:=arA bc he ad h;exact⟨l,aKF rfl,ark (aKF rfl) d G⟩
end Go.Abs
namespace Go.Abs
variable [dE]
def eG (P:Program)(bb:Nat):gd->oh->aQ->List Z->Prop
 | .seq a b,K,D,r=>eG P bb a ⟨E bb (eG P bb b K),K.x,K.z⟩ D r
 | .cond J a b,K,D,r=>rm (J.aM D) (eG P bb a K D r) (eG P bb b K D r)
 | .block id J,K,D,r=>eG P bb J ⟨K.n,λj=>if j=id then K.n else K.x j,K.z⟩ D r
 | .loop J,K,D,r=> ∃(hI:aQ->List Z->Prop) (iX:aQ->List Z->Nat),E bb hI D r/\
  ∀D r,hI D r->eG P bb J ⟨E bb λfl ca=>hI fl ca/\iX fl ca<iX D r,K.x,K.z⟩ D r
 | .skip,K,D,r=>K.n D r
 | .region bq ag,K,D,r=>fh P bb (.region bq ag) K D r
 | .tq bq fo ag,K,D,r=>fh P bb (.tq bq fo ag) K D r
 | .exit id,K,D,r=>K.x id D r
 | .ret,K,D,r=>K.z D r
theorem xU {P:Program}{bb:Nat}:∀(J:gd) {K aL:oh} {D:aQ} {r:List Z},(∀e z,K.n e z->aL.n e z)->(∀j e z,K.x j e z->aL.x j e z)->(∀e z,K.z e z->aL.z e z)->eG P bb J K D r->eG P bb J aL D r
 | .skip,_,_,_,_,d,_,_,h=>d _ _ h
 | .region _ _,_,_,_,_,d,_,_,h=>PU (λ_ _=>d _ _) h
 | .tq _ _ _,_,_,_,_,d,_,_,h=>KT d h
 | .seq a b,K,aL,_,_,d,G,au,h=>by
  rw[eG] at h ⊢;exact xU a (K:=⟨E bb (eG P bb b K),K.x,K.z⟩) (aL:=⟨E bb (eG P bb b aL),aL.x,aL.z⟩) (λ_ _=>E.mono λ_ _=>xU b d G au) G au h
 | .cond J a b,K,aL,D,r,d,G,au,h=>by
  rw[eG] at h ⊢;unfold rm at h ⊢;split
  ·rename_i eE af;rw[af] at h;exact⟨λe=>xU a d G au (h.1 e),λe=>xU b d G au (h.2 e)⟩
  ·rename_i hne;split at h
   ·rename_i eE af;exact (hne eE af).elim
   ·exact h
 | .block id J,K,aL,D,r,d,G,au,h=>by
  rw[eG] at h ⊢;refine xU J (K:=⟨K.n,λj=>if j=id then K.n else K.x j,K.z⟩) (aL:=⟨aL.n,λj=>if j=id then aL.n else aL.x j,aL.z⟩) d (λj e z aj=> ?_) au h
  by_cases hj:j=id
  ·simp only[hj,aK5] at aj ⊢;exact d _ _ aj
  ·simp only[hj,aLi] at aj ⊢;exact G _ _ _ aj
 | .loop J,K,aL,D,r,d,G,au,h=>by
  rw[eG] at h ⊢;obtain⟨hI,iX,aKH,bR⟩:=h;exact⟨hI,iX,aKH,λe z av=>xU J (K:=⟨E bb λfl ca=>hI fl ca/\iX fl ca<iX e z,K.x,K.z⟩) (λ_ _ aj=>aj) G au (bR e z av)⟩
 | .exit id,_,_,_,_,_,G,_,h=>by rw[eG] at h ⊢;exact G _ _ _ h
 | .ret,_,_,_,_,_,_,au,h=>by rw[eG] at h ⊢;exact au _ _ h
section
variable {P:Program} {n bb:Nat} {fG:bD} [vN fG] {ag:Nat->pH}
theorem BX:∀(J:Code) (dz:gd),gF P n ag J=some dz-> ∀(K:oh) (a:Act) (w:World),Holds n bb fG (eG P bb dz K) a w->J.wp P (Ks n bb fG K) a w
 | .skip,dz,ad,K,a,w,h=>vV .skip dz ad K a w (by simp[gF] at ad;subst ad;exact h)
 | .region id bq false,dz,ad,K,a,w,h=>by
  have kS:=ad;simp only[gF] at kS;split at kS
  ·simp at kS;subst kS;exact vV _ _ ad K a w h
  ·cases kS
 | .region id bq true,dz,ad,K,a,w,h=>by
  have kS:=ad;simp only[gF] at kS;split at kS
  ·obtain⟨dM,kS⟩:=V6 kS;unfold GK at kS;split at kS
   ·simp at kS;subst kS;exact vV _ _ ad K a w h
   ·cases kS
  ·cases kS
 | .seq x y,dz,ad,K,a,w,h=>by
  simp only[gF] at ad;split at ad
  ·rename_i jk xL aj bt;simp at ad;subst ad;refine wp_seq (wp_mono (BX x jk aj ⟨E bb (eG P bb xL K),K.x,K.z⟩ a w h) ?_);intro e lm w' aV;cases e with
   |normal=>exact BX y xL bt K lm w' (GL aV)
   |exit id=>exact aV
   |ret=>exact aV
   |goto l=>exact aV
   |panic cS=>exact aV
   |outgrown=>exact aV
  ·cases ad
 | .cond J x y,dz,ad,K,a,w,h=>by
  simp only[gF] at ad;split at ad
  ·rename_i V jk xL bp aj bt;simp at ad;subst ad;obtain⟨D,C,rfl,ao,hl,O⟩:=h;have N:=O0 ao bp;simp only[eG,rm] at O;split at O
   ·rename_i b af;rw[af,Rep] at N;refine wp_cond N ?_;cases b with
    |true=>exact BX x jk aj K a C.w ⟨D,C,rfl,ao,hl,O.1 rfl⟩
    |false=>exact BX y xL bt K a C.w ⟨D,C,rfl,ao,hl,O.2 rfl⟩
   ·exact O.elim
  ·cases ad
 | .block id x,dz,ad,K,a,w,h=>by
  simp only[gF] at ad;split at ad
  ·rename_i jk aj;simp at ad;subst ad;refine wp_block (wp_mono (BX x jk aj _ a w h) ?_);intro e lm w' aV;cases e with
   |normal=>exact aV
   |exit j=>
    simp only[Exit.inBlock];simp only[Ks] at aV;split
    ·rename_i hj;rw[Rc hj] at aV;exact aV
    ·rename_i hj;rw[S hj] at aV;exact aV
   |ret=>exact aV
   |goto l=>exact aV
   |panic cS=>exact aV
   |outgrown=>exact aV
  ·cases ad
 | .loop x,dz,ad,K,a,w,h=>by
  simp only[gF] at ad;split at ad
  ·rename_i jk aj;simp at ad;subst ad;obtain⟨D,C,rfl,ao,hl,hI,iX,h0,O9⟩:=h;obtain⟨GM,BC,dn,lo,jK,vW⟩:=GL ⟨D,C,rfl,ao,hl,h0⟩;rw[<-dn];refine wp_loop_ghost (λm a w=>Holds n bb fG (λD r=>hI D r/\iX D r=m) a w) (iX GM BC.r) ⟨GM,BC,rfl,lo,jK,vW,rfl⟩ ?_;rintro m lm w' ⟨GN,xD,rfl,vX,lp,BJ,rfl⟩;refine wp_mono (BX x jk aj _ lm xD.w ⟨GN,xD,rfl,vX,lp,O9 GN xD.r BJ⟩) ?_;intro e a3 pI aV;cases e with
   |normal=>
    obtain⟨GO,GP,rfl,vY,sm,Pa,aI⟩:=GL aV;exact⟨iX GO GP.r,aI,GO,GP,rfl,vY,sm,Pa,rfl⟩
   |exit j=>exact aV
   |ret=>exact aV
   |goto l=>exact aV
   |panic cS=>exact aV
   |outgrown=>exact aV
  ·cases ad
 | .exit id,dz,ad,K,a,w,h=>by
  simp[gF] at ad;subst ad;exact wp_exit h
 | .ret,dz,ad,K,a,w,h=>by
  simp[gF] at ad;subst ad;exact wp_ret h
 | .rangeFunc ..,dz,ad,K,a,w,h=>by simp[gF] at ad
 | .scope ..,dz,ad,K,a,w,h=>by simp[gF] at ad
 | .label ..,dz,ad,K,a,w,h=>by simp[gF] at ad
 | .goto ..,dz,ad,K,a,w,h=>by simp[gF] at ad
 | .refuse ..,dz,ad,K,a,w,h=>by simp[gF] at ad
end
theorem arB {P:Program}{f:FuncId}{fn:Func}{ag:Nat->pH}{aG:aN}(hf:P.funcs[f]? =some fn)(ad:xM P ag fn=some aG){args:List F}{r:List Z}{bh:F->List Z->Prop}
 (aH:args.length<=aG.ntmps) (h:eG P r.length aG.body ⟨λD rs=>mU rs D aG.results λvs=>E r.length (λfl hs=>bh (bs fl 0) hs) [(0,mi vs)] rs,λ_ _ _=>False,λD rs=>mU rs D aG.results λvs=>E r.length (λfl hs=>bh (bs fl 0) hs) [(0,mi vs)] rs⟩ (ro args 0) r):aO P f args r bh:=by
 intro C dA N aA hG dv
 haveI:vN C:=⟨hG⟩
 subst N;unfold xM at ad;split at ad
 ·rename_i J af;split at ad
  ·rename_i dz rs tt xN;simp at ad;subst ad;have cK:=dv.length;have dJ: (dA.toArray++Array.replicate (fn.ntmps-dA.toArray.size) undef).size=fn.ntmps:=by
    have GS:args.length<=fn.ntmps:=aH;simp;omega
   refine calls_of_wp hf af (wp_mono (BX (fG:=C) J dz tt _ _ C.w ⟨_,C,rfl,⟨aA,dJ,rfl,λt=> ?_⟩,cm.refl C,h⟩) ?_)
   ·have:=Pb args dA 0 t dv (aOp _);rw[aPV] at this;have e: (dA.toArray++Array.replicate (fn.ntmps-dA.toArray.size) undef).getD t undef=dA.getD t undef:=by
     simp only[Array.getD_eq_getD_getElem?,Array.getElem?_append,aMG,List.getElem?_toArray,aLn];split
     ·rfl
     ·rename_i aI;rw[aLB (by omega)];simp only[Array.getElem?_replicate];split<;>rfl
    rw[e];exact this
   ·intro e lm w' aV;have bg:Holds fn.ntmps C.r.length C (λD hs=>mU hs D rs λvs=>E C.r.length (λfl hs=>bh (bs fl 0) hs) [(0,mi vs)] hs) lm w'->
     lm.defers=[]/\ ∃v,(results fn lm.tmps).run P w'= .ok v w'/\ ∃aZ gA aB,Ending.returned v= .returned aZ/\aB.w=w'/\Rep aB gA aZ/\ci aB/\cm C.r.length C aB/\bh gA aB.r:=by
     rintro⟨D,aD,rfl,ao,hl,O⟩;refine⟨ao.defers,?_⟩;obtain⟨vs,as,d,G,au⟩:=GR ao fn.results.toList rs _ xN O;have hval:∃aZ,(results fn lm.tmps).run P aD.w= .ok aZ aD.w/\Rep aD (mi as) aZ:=by
      have hm: (fn.results.mapM (m:=Sem) (BK lm.tmps)).run P aD.w= .ok vs.toArray aD.w:=by
       rw[aPW];simp only[Sem.run_map,d,Result.andThen_ok]
      rw[Wd];simp only[Sem.run_bind,hm,Result.andThen_ok,Sem.run_pure];refine⟨_,rfl,?_⟩;cases as with
      |nil=>
       have jZ:vs=[]:=by rw[aE] at G;exact G
       subst jZ;simp only[mi];rw[Rep];exact⟨#[],by simp,by simp[aE]⟩
      |cons x aq=>
       cases aq with
       |nil=>
        rw[aE] at G;obtain⟨v,bS,rfl,bv,cx⟩:=G;rw[aE] at cx;subst cx;simpa[mi] using bv
       |cons y ys=>
        have lp:=G.length;simp only[mi];rw[Rep];refine⟨vs.toArray,?_,by simpa using G⟩;rw[dif_neg (by simp at lp ⊢;omega)]
     obtain⟨aZ,aKO,cY⟩:=hval;refine⟨aZ,aKO,?_⟩;obtain⟨fl,ca,aP,BL⟩:=au;have GT:tl 1 [(0,mi as)] aD ⟨#[aZ],[]⟩:=by
      refine⟨ao.ok,rfl,rfl,λt=> ?_⟩;simp only[bs];split
      ·rename_i ht;subst ht;simpa using cY
      ·simp[Rep]
     obtain⟨BM,aLA,ky,vZ,zC⟩:=Kc aP aD rfl GT hl;refine⟨aZ,bs fl 0,BM,rfl,aLA,?_,vZ.ok,zC,by rw[ky];exact BL⟩;simpa using vZ.jo 0
    cases e with
    |normal=>exact bg aV
    |ret=>exact bg aV
    |exit id=>obtain⟨_,_,_,_,_,O⟩:=aV;exact O.elim
    |goto l=>exact aV.elim
    |panic cS=>exact aV.elim
    |outgrown=>exact aV.elim
  ·cases ad
 ·cases ad
theorem hJ {P:Program}{f:FuncId}{fn:Func}{ag:Nat->pH}{aG:aN}(hf:P.funcs[f]? =some fn)(ad:xM P ag fn=some aG){args:List F}{r:List Z}{bh:F->List Z->Prop}
 (aH:args.length<=aG.ntmps) (h:eG P r.length aG.body ⟨ol r.length bh [] aG.results,Pv,ol r.length bh [] aG.results⟩ (ro args 0) r):aO P f args r bh:=
 arB hf ad aH h
def BY (P:Program)(bb:Nat)(v:F)(a b:gd)(K:oh)(D:aQ)(r:List Z):Prop:=rm v (eG P bb a K D r) (eG P bb b K D r)
section
variable {P:Program} {bb:Nat} {K:oh} {D:aQ} {r:List Z}
theorem arC:eG P bb .skip K D r=K.n D r:=aKF rfl
theorem arD {bq:List dU}{ag:List Nat}:eG P bb (.region bq ag) K D r=BN P bq ag K.n D r:=aKF rfl
theorem arE {bq:List (Nat×fd)}{fo:List (TypeId×Nat)}{ag:List Nat}:eG P bb (.tq bq fo ag) K D r=PN P bq fo ag K.n r.length D r:=aKF rfl
theorem W2 {a b:gd}:eG P bb (.seq a b) K D r=eG P bb a ⟨E bb (eG P bb b K),K.x,K.z⟩ D r:=aKF rfl
theorem arF {J:bi}{a b:gd}:eG P bb (.cond J a b) K D r=BY P bb (J.aM D) a b K D r:=aKF rfl
theorem arG {id:Nat}{J:gd}:eG P bb (.block id J) K D r=eG P bb J ⟨K.n,GU id K,K.z⟩ D r:=by
 rw[eG];congr 1;congr 1;funext j D r;unfold GU;split<;>rfl
theorem arH {id:Nat}:eG P bb (.exit id) K D r=K.x id D r:=aKF rfl
theorem arI:eG P bb .ret K D r=K.z D r:=aKF rfl
theorem arJ {a b:gd}:BY P bb (.bool true) a b K D r=eG P bb a K D r:=by simp[BY,rm]
theorem arK {a b:gd}:BY P bb (.bool false) a b K D r=eG P bb b K D r:=by simp[BY,rm]
theorem dj {b:Bool}{x y:gd}(d:b=true->eG P bb x K D r)(G:b=false->eG P bb y K D r):BY P bb (.bool b) x y K D r:=⟨d,G⟩
theorem hv {J:gd}(hI:aQ->List Z->Prop)(iX:aQ->List Z->Nat)(h0:E bb hI D r)
 (h:∀D r,hI D r->eG P bb J ⟨E bb λfl ca=>hI fl ca/\iX fl ca<iX D r,K.x,K.z⟩ D r):eG P bb (.loop J) K D r:=⟨hI,iX,h0,h⟩
theorem arL {b:Bool}{x y:gd}(aF:aQ->List Z->Prop)(d:b=true->eG P bb x ⟨aF,K.x,K.z⟩ D r)(G:b=false->eG P bb y ⟨aF,K.x,K.z⟩ D r)
 (dc:∀e z,aF e z->K.n e z):BY P bb (.bool b) x y K D r:=
 ⟨λaf=>xU x (K:=⟨aF,K.x,K.z⟩) dc (λ_ _ _ aj=>aj) (λ_ _ aj=>aj) (d af),λaf=>xU y (K:=⟨aF,K.x,K.z⟩) dc (λ_ _ _ aj=>aj) (λ_ _ aj=>aj) (G af)⟩
end
attribute [go_sem] arC arD arE W2 arF arG arH arI arJ arK
theorem E.jN {bb:Nat}{K:aQ->List Z->Prop}{D:aQ}{r srows:List Z}(ax:List (Option Nat))(bn:List Nat)(d:xQ ax=true)(G:wd bb 0 ax=true)(aw:eC r bn ax ax=some srows)
 (h:E bb K (D.map λp=>(p.1,bW r ax bn p.2)) srows):E bb K D r:=aMd ax bn d G aw h
end Go.Abs
namespace Go.Abs
variable [dE]
theorem P2:∀{a b:List (List F)},dY (a++b)=(dY a&&dY b)
 | [],b=>by simp[dY]
 |e::a,b=>by simp only[aLx,dY,P2,Bool.and_assoc]
theorem P3 {r:List Z}{ax:List (Option Nat)}{bn:List Nat}:∀{ar:List (List F)},dY ar=true->ar.map (dT r ax bn)=ar
 | [],_=>aKF rfl
 |e::ar,h=>by
  simp only[dY,aKJ] at h;rw[aKP,qw e h.1,P3 h.2]
theorem KV {r:List Z}{ax:List (Option Nat)}{bn:List Nat}{ar:List (List F)}:lJ r ax bn ar=ar.map (dT r ax bn):=by
 unfold lJ;split
 ·rename_i h;rw[P3 h]
 ·rfl
theorem arM {bj:Type}[aJ bj]{r:List Z}{ax:List (Option Nat)}{bn:List Nat}{l:List bj}{x:List F}:lJ r ax bn (ai l++[x])=ai l++[dT r ax bn x]:=by
 rw[KV,aLU,P3 ck];rfl
theorem arN {bj:Type}[aJ bj]{r:List Z}{ax:List (Option Nat)}{bn:List Nat}{l:List bj}{x:List F}:
 (if dY (ai l++[x])=true then ai l++[x] else (ai l++[x]).map (dT r ax bn))=ai l++[dT r ax bn x]:=arM
attribute [go_sem] arN
theorem qx {r:List Z}{ax:List (Option Nat)}{bn:List Nat}{z n:Nat}{e:TypeId}{U:Nat}{am:List (List F)}(ao:hE ax z=none)(an:bn.contains z=true)(N:r[z]? =some (.ag e U am))(aH:n=am.length)(ad:dY am=true):
 bW r ax bn (.own z n 0 n)= .pure U am:=by
 rw[bW];simp only[ao,an,aK5,N];rw[Rc ⟨aH,by omega,ad⟩,aNr,aH,aLb]
end Go.Abs
namespace Go.Abs
variable [dE]
end Go.Abs
namespace Go.Abs
variable [dE]
theorem aO.args {P:Program}{f:FuncId}{args aNR:List F}{r:List Z}{bh:F->List Z->Prop}(N:∀(C:bD) (vs:List Value),aE C aNR vs->aE C args vs)(h:aO P f args r bh):aO P f aNR r bh:=
 λC dA d G hG au=>h C dA d G hG (N C dA au)
theorem arO {C:bD}{U:Nat}{v:Value}(h:Rep C .bH v):Rep C (.pure U []) v:=by
 have cR:∃cy,v= .slice cy 0 0:=by simpa[Rep] using h
 obtain⟨cy,rfl⟩:=cR;rw[Rep];exact⟨cy,0,aKF rfl,by simp,.inl (aKF rfl)⟩
mutual
def le:F->F->Prop
 | .bH,.pure _ am=>am=[]
 | .agg as,.agg dl=>hK as dl
 | .bo as,.bo dl=>hK as dl
 |a,b=>a=b
def hK:List F->List F->Prop
 |a::as,b::dl=>le a b/\hK as dl
 | [],[]=>True
 |_,_=>False
end
theorem le_refl (a:F): (∀as,a≠ .agg as)->(∀as,a≠ .bo as)->le a a:=by
 intro d G;cases a with
 |agg as=>exact absurd (aKF rfl) (d as)
 |bo as=>exact absurd (aKF rfl) (G as)
 |_=>simp[le]
mutual
theorem W3 {C:bD}:∀(a b:F) (v:Value),le a b->Rep C a v->Rep C b v
 | .agg as,.agg dl,v,h,z=>by
  rw[le] at h;rw[Rep] at z ⊢;obtain⟨vs,rfl,N⟩:=z;exact⟨vs,aKF rfl,KW as dl _ h N⟩
 | .bo as,.bo dl,v,h,z=>by
  rw[le] at h;rw[Rep] at z ⊢;obtain⟨vs,rfl,N⟩:=z;exact⟨vs,aKF rfl,KW as dl _ h N⟩
 | .bH,.pure U am,v,h,z=>by
  rw[le] at h;subst h;exact arO z
 | .int ..,b,v,h,z=>by simp[le] at h;subst h;exact z
 | .bool ..,b,v,h,z=>by simp[le] at h;subst h;exact z
 | .str ..,b,v,h,z=>by simp[le] at h;subst h;exact z
 | .pure ..,b,v,h,z=>by simp[le] at h;subst h;exact z
 | .own ..,b,v,h,z=>by simp[le] at h;subst h;exact z
 | .bd ..,b,v,h,z=>by simp[le] at h;subst h;exact z
 | .en ..,b,v,h,z=>by simp[le] at h;subst h;exact z
 | .kt,b,v,h,z=>by simp[le] at h;subst h;exact z
 | .cj,b,v,h,z=>by simp[le] at h;subst h;exact z
 | .bH,.bH,v,h,z=>z
 | .bH,.int ..,v,h,z=>by simp[le] at h
 | .bH,.bool ..,v,h,z=>by simp[le] at h
 | .bH,.str ..,v,h,z=>by simp[le] at h
 | .bH,.agg ..,v,h,z=>by simp[le] at h
 | .bH,.bo ..,v,h,z=>by simp[le] at h
 | .bH,.own ..,v,h,z=>by simp[le] at h
 | .bH,.bd ..,v,h,z=>by simp[le] at h
 | .bH,.en ..,v,h,z=>by simp[le] at h
 | .bH,.kt,v,h,z=>by simp[le] at h
 | .bH,.cj,v,h,z=>by simp[le] at h
 | .agg as,.int ..,v,h,z=>by simp[le] at h
 | .agg as,.bool ..,v,h,z=>by simp[le] at h
 | .agg as,.str ..,v,h,z=>by simp[le] at h
 | .agg as,.bo ..,v,h,z=>by simp[le] at h
 | .agg as,.own ..,v,h,z=>by simp[le] at h
 | .agg as,.bd ..,v,h,z=>by simp[le] at h
 | .agg as,.en ..,v,h,z=>by simp[le] at h
 | .agg as,.kt,v,h,z=>by simp[le] at h
 | .agg as,.cj,v,h,z=>by simp[le] at h
 | .agg as,.bH,v,h,z=>by simp[le] at h
 | .agg as,.pure ..,v,h,z=>by simp[le] at h
 | .bo as,.int ..,v,h,z=>by simp[le] at h
 | .bo as,.bool ..,v,h,z=>by simp[le] at h
 | .bo as,.str ..,v,h,z=>by simp[le] at h
 | .bo as,.agg ..,v,h,z=>by simp[le] at h
 | .bo as,.own ..,v,h,z=>by simp[le] at h
 | .bo as,.bd ..,v,h,z=>by simp[le] at h
 | .bo as,.en ..,v,h,z=>by simp[le] at h
 | .bo as,.kt,v,h,z=>by simp[le] at h
 | .bo as,.cj,v,h,z=>by simp[le] at h
 | .bo as,.bH,v,h,z=>by simp[le] at h
 | .bo as,.pure ..,v,h,z=>by simp[le] at h
 | .fn ..,b,v,h,z=>by simp[le] at h;subst h;exact z
 | .bE ..,b,v,h,z=>by simp[le] at h;subst h;exact z
 | .kH,b,v,h,z=>by simp[le] at h;subst h;exact z
 | .fO ..,b,v,h,z=>by simp[le] at h;subst h;exact z
 | .bH,.fn ..,v,h,z=>by simp[le] at h
 | .bH,.bE ..,v,h,z=>by simp[le] at h
 | .bH,.kH,v,h,z=>by simp[le] at h
 | .bH,.fO ..,v,h,z=>by simp[le] at h
 | .agg as,.fn ..,v,h,z=>by simp[le] at h
 | .agg as,.bE ..,v,h,z=>by simp[le] at h
 | .agg as,.kH,v,h,z=>by simp[le] at h
 | .agg as,.fO ..,v,h,z=>by simp[le] at h
 | .bo as,.fn ..,v,h,z=>by simp[le] at h
 | .bo as,.bE ..,v,h,z=>by simp[le] at h
 | .bo as,.kH,v,h,z=>by simp[le] at h
 | .bo as,.fO ..,v,h,z=>by simp[le] at h
theorem KW {C:bD}:∀(as dl:List F) (vs:List Value),hK as dl->aE C as vs->aE C dl vs
 | [],[],vs,_,z=>z
 |a::as,b::dl,vs,h,z=>by
  rw[hK] at h;rw[aE] at z ⊢;obtain⟨v,bS,rfl,d,G⟩:=z;exact⟨v,bS,aKF rfl,W3 a b v h.1 d,KW as dl bS h.2 G⟩
 | [],_::_,vs,h,_=>by simp[hK] at h
 |_::_,[],vs,h,_=>by simp[hK] at h
end
theorem aO.le {P:Program}{f:FuncId}{args aNR:List F}{r:List Z}{bh:F->List Z->Prop}(h:aO P f args r bh)(N:hK aNR args):aO P f aNR r bh:=
 h.args λ_ vs=>KW aNR args vs N
end Go.Abs
namespace Go.Abs
open Go.RowKit (Below)
variable [dE]
theorem P4 {C:bD}{w':World}(h:ci C)(af:Below C.w.heap.size C.w w')(ay:Dr.B->C.w.drawn<=w'.drawn):ci {C with w:=w'}/\cm C.r.length C {C with w:=w'}:=by
 have later:cm C.r.length C {C with w:=w'}:=
  ⟨af.os,af.tape,af.output,af.size,λb hl _=>af.block b hl,λz _ J h=> .inl ⟨z,J,h⟩,aKF rfl,aKF rfl,aKM _,λ_ _ _ am _ h=>⟨am,h,aKM _,λ_=>aKF rfl⟩,λ_ V _ h=>⟨V,h,aKF rfl⟩,ay⟩
 refine⟨⟨h.bZ,h.dw,λz bG N=> ?_,h.inj,λb hl=>aLI (h.bY b hl) af.size⟩,later⟩;exact dQ.move later.ext (aKF rfl) (aKF rfl) (λb J hl=>af.block b (h.lt hl)) (h.r z bG N)
theorem aO.D2 {P:Program}{f:FuncId}{args:List F}{r:List Z}{bh:F->List Z->Prop}
 (h:∀(C:bD) (dA:List Value),C.r=r->ci C->GOk C->aE C args dA->Calls P f dA.toArray C.w λe w'=> ∃aZ v,e= .returned aZ/\(Below C.w.heap.size C.w w'/\C.w.drawn<=w'.drawn)/\(∀aB:bD,jB C aB->Rep aB v aZ)/\bh v r):aO P f args r bh:=by
 intro C dA N aA hG dv;refine (h C dA N aA hG dv).mono ?_;rintro e w' ⟨aZ,v,rfl,⟨af,ay⟩,an,aV⟩;obtain⟨d,G⟩:=P4 aA af (λ_=>ay);subst N;exact⟨aZ,v,_,aKF rfl,aKF rfl,an _ G.ext,d,G,aV⟩
theorem aO.P5 {P:Program}{f:FuncId}{args:List F}{r:List Z}{bh:F->List Z->Prop}(h0:¬Dr.B)
 (h:∀(C:bD) (dA:List Value),C.r=r->ci C->GOk C->aE C args dA->Calls P f dA.toArray C.w λe w'=> ∃aZ v,e= .returned aZ/\Below C.w.heap.size C.w w'/\(ci {C with w:=w'}->Rep {C with w:=w'} v aZ)/\bh v r):aO P f args r bh:=by
 intro C dA N aA hG dv;refine (h C dA N aA hG dv).mono ?_;rintro e w' ⟨aZ,v,rfl,af,an,aV⟩;obtain⟨d,G⟩:=P4 aA af (λB=>absurd B h0);subst N;exact⟨aZ,v,_,aKF rfl,aKF rfl,an d,d,G,aV⟩
end Go.Abs
namespace Go.Abs
open Go.Sort
variable [dE]
theorem BZ {C:bD}:∀{ce:List Int} {vs:List Value},aE C (cJ .i64 ce).flatten vs->vs=ce.map (Value.int .i64)
 | [],vs,h=>by simpa[cJ,aE] using h
 |M::ce,vs,h=>by
  have cR:aE C (.int .i64 M::(cJ .i64 ce).flatten) vs:=h;rw[aE] at cR;obtain⟨v,bS,rfl,d,G⟩:=cR;rw[Rep] at d;rw[d,BZ G];rfl
theorem W4 {C:bD}:∀(ce:List Int),aE C (cJ .i64 ce).flatten (ce.map (Value.int .i64))
 | []=>by simp[cJ,aE]
 |M::ce=>by
  show aE C (.int .i64 M::(cJ .i64 ce).flatten) (Value.int .i64 M::ce.map (Value.int .i64));rw[aE];exact⟨_,_,aKF rfl,by rw[Rep],W4 ce⟩
theorem arP {C:bD}(ce:List Int):fs C 1 (cJ .i64 ce) (ce.map (Value.int .i64)):=by
 refine⟨?_,W4 ce,?_⟩
 ·intro e he;simp only[cJ,aKZ] at he;obtain⟨M,_,rfl⟩:=he;rfl
 ·intro v an;simp only[aKZ] at an;obtain⟨M,_,rfl⟩:=an;rfl
theorem aO.W5 {P:Program}{f:FuncId}{aW:TypeId}{ce kj:List Int}(aZ:Nat->Nat->Value)(v:F)(cK:kj.length=ce.length)(iG:0<ce.length)
 (hV:∀(C:bD) (b J:Nat),C.bZ=false->C.r=[.ag aW 1 (cJ .i64 kj)]->C.bu[0]? =some (some (b,J))->kj.length<=J->Rep C v (aZ b J))
 (h:∀(w:World) (oq cap:Nat),Go.Sort.Holds (Value.int .i64) w oq 0 ce.toArray->oq<w.heap.size->ce.length<=cap->Calls P f #[.slice (some ⟨oq,0,none⟩) ce.length cap] w λe w'=>
  e= .returned (aZ oq cap)/\ ∃n os,w'=grow (putRow (Value.int .i64) (Sort.ahead w n) oq 0 kj.toArray) os):
 aO P f [.own 0 ce.length 0 ce.length] [.ag aW 1 (cJ .i64 ce)] (λgA rs=>gA=v/\rs=[.ag aW 1 (cJ .i64 kj)]):=by
 intro C dA N aA hG dv;rw[aE] at dv;obtain⟨v0,bS,rfl,an,aH⟩:=dv;rw[aE] at aH;subst aH;have iV:C.r[0]? =some (.ag aW 1 (cJ .i64 ce)):=by rw[N];rfl
 rcases aA.ag iV with ⟨_,h0⟩|⟨b,cap,ap,ak,zG,nE,eK,vK,eA,dp⟩
 ·have:=mV (k:= .i64) (l:=ce);rw[h0] at this;simp at this;omega
 rw[Rep] at an;obtain⟨hC,_,_,an⟩:=an;obtain⟨_,an⟩:=an _ _ _ iV;obtain⟨_,p,hT,an⟩:=an (by simp[cJ]);obtain rfl:=aMY (ak.symm.trans hT);obtain⟨a,J,rfl,_,BT,D3,Qb,_⟩:=an;obtain⟨arQ,rfl⟩:=Qb rfl;have Qc:a=⟨b,0,none⟩:=by cases a;simp_all
 subst Qc;obtain⟨vs,jI,oM⟩:=dp.tg;have kU:=BZ jI.kO;subst kU;have vL:b<C.w.heap.size:=(aLp.1 nE).1;have pt:=Gn nE oM;have uQ:Go.Sort.Holds (Value.int .i64) C.w b 0 ce.toArray:=by
  intro j hj;have oo:j<ce.length:=by simpa using hj
  have ad:ap[j]? =some (Value.int .i64 ce[j]):=by
   have:=aKI (λl:List Value=>l[j]?) pt;simpa[aMO,oo] using this
  refine⟨?_,?_⟩
  ·unfold World.cell?;simp[nE,ad,oo]
  ·unfold World.frozen?;simp[nE]
 refine (h C.w b J uQ vL (by simpa[cJ] using eA)).mono ?_;rintro e w' ⟨rfl,n,os,rfl⟩;have KX: (grow (putRow (Value.int .i64) (Sort.ahead C.w n) b 0 kj.toArray) os).heap[b]? =some (.cells (putCells (Value.int .i64) 0 kj.toArray ap) aW (0,0)):=by
  unfold grow putRow mapBlock;show (((C.w.heap.modify b (onCells (putCells (Value.int .i64) 0 kj.toArray))))++os)[b]? =_;rw[aOr (by simpa using vL),aMw];simp[nE,onCells]
 have dJ: (putCells (Value.int .i64) 0 kj.toArray ap).size=J*1:=by unfold putCells;simpa using eK
 have gN:ce.length<=ap.size:=by rw[eK];simpa[cJ] using eA
 have ht: (putCells (Value.int .i64) 0 kj.toArray ap).toList.take (kj.map (Value.int .i64)).length=kj.map (Value.int .i64):=by
  apply aLT;intro c
  by_cases av:c<kj.length
  ·have Qd:c<ap.size:=by omega
   simp only[aLe,aMO,Rc av,aLJ,putCells,Array.getElem?_mapIdx,aLN Qd,aML,aLG,aKS av];simp[av]
  ·rw[aLB (by simp;omega),aLB (by simpa using av)]
 obtain⟨d,G⟩:=zl aA iV ak b J (putCells (Value.int .i64) 0 kj.toArray ap) (cJ .i64 kj) (kj.map (Value.int .i64)) _ (grownBy_sortedI (n:=n) (os:=os) kj.toArray) (.inl rfl) KX dJ vK
  (by simpa[cJ,cK] using eA) (arP kj) ht (by simp[cJ,cK]) (λ_=>rfl) (aNs _ _)
 refine⟨_,v,_,rfl,rfl,?_,d,?_,rfl,?_⟩
 ·refine hV _ b J hC (by rw[N];rfl) ?_ (by simpa[cJ,cK] using eA);have hl:0<C.bu.length:=(aLy.1 ak).1;simp[hl]
 ·rw[N] at G ⊢;exact G
 ·rw[N];rfl
theorem aO.inPlace {P:Program}{f:FuncId}{aW:TypeId}{ce kj:List Int}(cK:kj.length=ce.length)(iG:0<ce.length)
 (h:∀(w:World) (oq cap:Nat),Go.Sort.Holds (Value.int .i64) w oq 0 ce.toArray->oq<w.heap.size->Calls P f #[.slice (some ⟨oq,0,none⟩) ce.length cap] w λe w'=>
  e= .returned (.tuple #[])/\ ∃n os,w'=grow (putRow (Value.int .i64) (Sort.ahead w n) oq 0 kj.toArray) os):
 aO P f [.own 0 ce.length 0 ce.length] [.ag aW 1 (cJ .i64 ce)] (λv rs=>v= .bo []/\rs=[.ag aW 1 (cJ .i64 kj)]):=
 aO.W5 (λ_ _=> .tuple #[]) (.bo []) cK iG (λ_ _ _ _ _ _ _=>by rw[Rep];exact⟨#[],rfl,by simp[aE]⟩) (λw b J d G _=>h w b J d G)
theorem aO.arR {P:Program}{f:FuncId}{aW:TypeId}{ce kj:List Int}{m:Nat}(cK:kj.length=ce.length)(iG:0<ce.length)(hm:m<=ce.length)
 (h:∀(w:World) (oq cap:Nat),Go.Sort.Holds (Value.int .i64) w oq 0 ce.toArray->oq<w.heap.size->ce.length<=cap->Calls P f #[.slice (some ⟨oq,0,none⟩) ce.length cap] w λe w'=>
  e= .returned (.slice (some ⟨oq,0,none⟩) m cap)/\ ∃n os,w'=grow (putRow (Value.int .i64) (Sort.ahead w n) oq 0 kj.toArray) os):
 aO P f [.own 0 ce.length 0 ce.length] [.ag aW 1 (cJ .i64 ce)] (λv rs=>v= .own 0 ce.length 0 m/\rs=[.ag aW 1 (cJ .i64 kj)]):=by
 refine aO.W5 (λb J=> .slice (some ⟨b,0,none⟩) m J) (.own 0 ce.length 0 m) cK iG (λC b J hC N ak ad=> ?_) h;rw[Rep];refine⟨hC,⟨_,_,rfl⟩,by rw[N];simp,λe U am an=> ?_⟩;rw[N] at an;simp only[List.getElem?_cons_zero,aLj,Z.ag.injEq] at an;obtain⟨rfl,rfl,rfl⟩:=an;refine⟨by simp[cJ,cK],λ_=>⟨by omega,_,ak,?_⟩⟩;exact⟨_,_,rfl,by omega,rfl,rfl,λ_=>⟨rfl,rfl⟩,λ_=>by simp⟩
theorem arS {r:List Z}{ax:List (Option Nat)}{bn:List Nat}{z n off len:Nat}{e:TypeId}{U:Nat}{am:List (List F)}(ao:hE ax z=none)(an:bn.contains z=true)(N:r[z]? =some (.ag e U am))(aH:n=am.length)(hl:off+len<=n)(ad:dY am=true):
 bW r ax bn (.own z n off len)= .pure U ((am.drop off).take len):=by
 rw[bW];simp only[ao,an,aK5,N];rw[Rc ⟨aH,hl,ad⟩]
theorem E.bB {bb:Nat}{K:aQ->List Z->Prop}{D:aQ}{r srows:List Z}(ax:List (Option Nat))(h:E bb K (D.map λp=>(p.1,bW r ax [] p.2)) srows)
 (d:xQ ax=true:=by rfl) (G:wd bb 0 ax=true:=by rfl) (aw:eC r [] ax ax=some srows:=by simp only[go_sem,Nat.reduceAdd,Nat.reduceSub,Nat.reduceMul,Nat.reduceEqDiff,Nat.reduceLT,Nat.reduceLeDiff,Nat.reduceBEq,reduceIte,reduceCtorEq,Int.reduceToNat,Int.reduceLE,Int.reduceLT,Int.reduceBEq,Int.reduceBNe]<;>rfl):E bb K D r:=aMd ax [] d G aw h
theorem E.kK {bb:Nat}{K:aQ->List Z->Prop}{D:aQ}{r srows:List Z}(ax:List (Option Nat))(bn:List Nat)(h:E bb K (D.map λp=>(p.1,bW r ax bn p.2)) srows)
 (d:xQ ax=true:=by rfl) (G:wd bb 0 ax=true:=by rfl) (aw:eC r bn ax ax=some srows:=by simp only[go_sem,Nat.reduceAdd,Nat.reduceSub,Nat.reduceMul,Nat.reduceEqDiff,Nat.reduceLT,Nat.reduceLeDiff,Nat.reduceBEq,reduceIte,reduceCtorEq,Int.reduceToNat,Int.reduceLE,Int.reduceLT,Int.reduceBEq,Int.reduceBNe]<;>rfl):E bb K D r:=aMd ax bn d G aw h
set_option linter.defProp false in
def aL1:= @E.kK
theorem fy {P:Program}{f:FuncId}{args:List F}{r:List Z}{dst:Option Nat}{D:aQ}{K:aQ->List Z->Prop}(ax:List Nat){srows:List Z}{rq:List F}{bh:F->List Z->Prop}
 (hA:aO P f rq srows bh) (O:∀v rs,bh v rs->K (put D dst (dS (eU r.length ax) v)) (fu r ax (rs.map (gD (eU r.length ax)))))
 (aH:ax.Nodup:=by decide) (aw:eC r [] (ax.map some) (ax.map some)=some srows:=by simp only[go_sem,Nat.reduceAdd,Nat.reduceSub,Nat.reduceMul,Nat.reduceEqDiff,Nat.reduceLT,Nat.reduceLeDiff,Nat.reduceBEq,reduceIte,reduceCtorEq,Int.reduceToNat,Int.reduceLE,Int.reduceLT,Int.reduceBEq,Int.reduceBNe]<;>rfl) (af:dT r (ax.map some) [] args=rq:=by simp only[go_sem,Nat.reduceAdd,Nat.reduceSub,Nat.reduceMul,Nat.reduceEqDiff,Nat.reduceLT,Nat.reduceLeDiff,Nat.reduceBEq,reduceIte,reduceCtorEq,Int.reduceToNat,Int.reduceLE,Int.reduceLT,Int.reduceBEq,Int.reduceBNe]<;>rfl):rp P f args r dst D K:=
 om ax [] aH aw af hA λv rs h=>⟨.inl (aKF rfl),O v rs h⟩
theorem D4 {P:Program}{f:FuncId}{args:List F}{bL:List Nat}{tk:dr}{r:List Z}{dst:Option Nat}{D:aQ}{K:aQ->List Z->Prop}(ax:List Nat){srows:List Z}{rq:List F}{bh:F->List Z->Prop}
 (hA:aO P f rq srows bh) (O:∀v rs,bh v rs->K (put D dst (dS (eU r.length ax) v)) (fu r ax (rs.map (gD (eU r.length ax)))))
 (ht:eL bL tk ax []:=by simp only[go_sem,Nat.reduceAdd,Nat.reduceSub,Nat.reduceMul,Nat.reduceEqDiff,Nat.reduceLT,Nat.reduceLeDiff,Nat.reduceBEq,reduceIte,reduceCtorEq,Int.reduceToNat,Int.reduceLE,Int.reduceLT,Int.reduceBEq,Int.reduceBNe]) (aH:ax.Nodup:=by decide) (aw:eC r [] (ax.map some) (ax.map some)=some srows:=by simp only[go_sem,Nat.reduceAdd,Nat.reduceSub,Nat.reduceMul,Nat.reduceEqDiff,Nat.reduceLT,Nat.reduceLeDiff,Nat.reduceBEq,reduceIte,reduceCtorEq,Int.reduceToNat,Int.reduceLE,Int.reduceLT,Int.reduceBEq,Int.reduceBNe]<;>rfl) (af:dT r (ax.map some) [] args=rq:=by simp only[go_sem,Nat.reduceAdd,Nat.reduceSub,Nat.reduceMul,Nat.reduceEqDiff,Nat.reduceLT,Nat.reduceLeDiff,Nat.reduceBEq,reduceIte,reduceCtorEq,Int.reduceToNat,Int.reduceLE,Int.reduceLT,Int.reduceBEq,Int.reduceBNe]<;>rfl):wh P f args bL tk r dst D K:=
 KM ax [] ht aH aw af hA λv rs h=>⟨.inl (aKF rfl),O v rs h⟩
theorem rv {P:Program}{f:FuncId}{args:List F}{r:List Z}{dst:Option Nat}{D:aQ}{K:aQ->List Z->Prop}{bh:F->List Z->Prop}
 (hA:aO P f args [] bh) (O:∀v rs,bh v rs->K (put D dst (dS (eU r.length []) v)) (fu r [] (rs.map (gD (eU r.length [])))))
 (ad:bU args=true:=by first|rfl|simp only[go_sem,Nat.reduceAdd,Nat.reduceSub,Nat.reduceMul,Nat.reduceEqDiff,Nat.reduceLT,Nat.reduceLeDiff,Nat.reduceBEq,reduceIte,reduceCtorEq,Int.reduceToNat,Int.reduceLE,Int.reduceLT,Int.reduceBEq,Int.reduceBNe]):rp P f args r dst D K:=
 om [] [] (by simp) (aKF rfl) (qw _ ad) hA λv rs h=>⟨.inl (aKF rfl),O v rs h⟩
theorem lN {P:Program}{aW:TypeId}{f:FuncId}{bS:List F}{l:List Int}{bh:F->Prop}{r:List Z}{dst:Option Nat}{D:aQ}{K:aQ->List Z->Prop}{z:Nat}{az:Int}
 (hA:BU P aW f bS l bh) (O:∀(v:F) (a:Int),0<=a->a<=l.length->bh v->K (put D dst v) (r.set z (dX aW l a)))
 (ad:bU bS=true:=by rfl) (N:r[z]? =some (dX aW l az):=by rfl) (h0:0<=az:=by omega) (d:az<=l.length:=by omega):rp P f (.bd z 1 0 0::bS) r dst D K:=KP hA ad N h0 d O
theorem xW {P:Program}{aW:TypeId}{f:FuncId}{bS:List F}{l:List Int}{bh:F->Prop}{bL:List Nat}{tk:dr}{r:List Z}{dst:Option Nat}{D:aQ}{K:aQ->List Z->Prop}{z:Nat}{az:Int}
 (hA:BU P aW f bS l bh) (O:∀(v:F) (a:Int),0<=a->a<=l.length->bh v->K (put D dst v) (r.set z (dX aW l a)))
 (ht:eL bL tk [z] []:=by simp only[go_sem,Nat.reduceAdd,Nat.reduceSub,Nat.reduceMul,Nat.reduceEqDiff,Nat.reduceLT,Nat.reduceLeDiff,Nat.reduceBEq,reduceIte,reduceCtorEq,Int.reduceToNat,Int.reduceLE,Int.reduceLT,Int.reduceBEq,Int.reduceBNe]) (ad:bU bS=true:=by rfl) (N:r[z]? =some (dX aW l az):=by rfl) (h0:0<=az:=by omega) (d:az<=l.length:=by omega):wh P f (.bd z 1 0 0::bS) bL tk r dst D K:=aqU hA ht ad N h0 d O
theorem ja {P:Program}{aW e:TypeId}{f:FuncId}{l:List Int}{bh:F->Prop}{r:List Z}{dst:Option Nat}{D:aQ}{K:aQ->List Z->Prop}{z q n m:Nat}{az:Int}{am:List (List F)}(aq:List Int)
 (hA:BV P aW e f l aq bh) (O:∀(v:F) (a:Int),0<=a->a<=l.length->bh v->K (put D dst v) (r.set z (dX aW l a)))
 (N:r[z]? =some (dX aW l az):=by rfl) (aV:r[q]? =some (.ag e 1 am):=by rfl) (an:am=cJ .i64 aq:=by rfl) (aH:n=aq.length:=by rfl) (hm:m=aq.length:=by rfl) (hne:z≠q:=by decide) (h0:0<=az:=by omega) (d:az<=l.length:=by omega):
 rp P f [.bd z 1 0 0,.own q n 0 m] r dst D K:=aqV aq hA N aV an aH hm hne h0 d O
theorem G4 {P:Program}{aW e:TypeId}{f:FuncId}{l:List Int}{bh:F->Prop}{bL:List Nat}{tk:dr}{r:List Z}{dst:Option Nat}{D:aQ}{K:aQ->List Z->Prop}{z q n m:Nat}{az:Int}{am:List (List F)}(aq:List Int)
 (hA:BV P aW e f l aq bh) (O:∀(v:F) (a:Int),0<=a->a<=l.length->bh v->K (put D dst v) (r.set z (dX aW l a)))
 (ht:eL bL tk [z,q] []:=by simp only[go_sem,Nat.reduceAdd,Nat.reduceSub,Nat.reduceMul,Nat.reduceEqDiff,Nat.reduceLT,Nat.reduceLeDiff,Nat.reduceBEq,reduceIte,reduceCtorEq,Int.reduceToNat,Int.reduceLE,Int.reduceLT,Int.reduceBEq,Int.reduceBNe]) (N:r[z]? =some (dX aW l az):=by rfl) (aV:r[q]? =some (.ag e 1 am):=by rfl) (an:am=cJ .i64 aq:=by rfl) (aH:n=aq.length:=by rfl) (hm:m=aq.length:=by rfl) (hne:z≠q:=by decide) (h0:0<=az:=by omega) (d:az<=l.length:=by omega):
 wh P f [.bd z 1 0 0,.own q n 0 m] bL tk r dst D K:=aqW aq hA ht N aV an aH hm hne h0 d O
theorem fR: (∀(bj:Type) (a b:bj) (l:List bj),a∈b::l↔a=b\/a∈l)/\(∀(bj:Type) (a:bj),¬a∈([]:List bj))/\ ∀p:Prop,(p\/False)=p:=⟨λ_ _ _ _=>aKV,λ_ _=>aNf,λ_=>aNt _⟩
theorem dB {c:Nat}(h: (c:Int)+1<=9223372036854775807):IntKind.i64.wrap ((c:Int)+1)=((c+1:Nat):Int):=by rw[bl (by omega) h];omega
attribute [go_sem] Nat.reduceAdd Nat.reduceSub Nat.reduceMul Nat.reduceEqDiff Nat.reduceLT Nat.reduceLeDiff Nat.reduceBEq reduceIte reduceCtorEq Int.reduceToNat Int.reduceLE Int.reduceLT Int.reduceBEq Int.reduceBNe
end Go.Abs
