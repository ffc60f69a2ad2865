/- The abstract machine. -/
import Derived.Test.YtpincjkjoeopkaaGreatDoorK3
import Derived.Below
import Derived.OpenShut
import Derived.Deep.Slices
import Derived.ChangeArms
import Derived.ChangeOld
import Derived.Sort.OwnSortedInts
set_option linter.unusedSimpArgs false
set_option linter.unusedVariables false
set_option linter.unusedSectionVars false
namespace Go.Abs
variable [dw]
open Go.RowKit (Below)
theorem bA: (∀ (p:Prop) [Decidable p],(decide p=true)=p)∧(∀ (p:Prop) [Decidable p],decide p=false↔ ¬p)∧
 (∀ (bd:Type) [BEq bd] [LawfulBEq bd] (a b:bd),(a==b)=true↔a=b)∧(∀ (bd:Type) [BEq bd] [LawfulBEq bd] (a b:bd),(a==b)=false↔a≠b)∧
 (∀ (bd:Type) [BEq bd] [LawfulBEq bd] (a b:bd),(a != b)=true↔a≠b)∧(∀ (bd:Type) [BEq bd] [LawfulBEq bd] (a b:bd),(a != b)=false↔a=b)∧
 (∀ b:Bool,((!b)=true)=(b=false))∧(∀ b:Bool,((!b)=false)=(b=true))∧(∀ a b:Int,¬a < b↔b≤a)∧(∀ a b:Int,¬a≤b↔b < a)∧
 (∀ (bd:Type) (a b:bd),(a≠b)= ¬(a=b))∧(∀ a b:Bool,((a&&b)=true)=(a=true∧b=true))∧(∀ a b:Bool,((a||b)=true)=(a=true∨b=true))∧
 (∀ a b:Bool,((a||b)=false)=(a=false∧b=false))∧(∀ a b:Bool,((a&&b)=false)=(a=false∨b=false)):=by
 refine⟨?_,?_,?_,?_,?_,?_,?_,?_,?_,?_,?_,?_,?_,?_,?_⟩<;>intros<;>first|simp only[Bool.and_eq_false_iff]|simp
theorem bf {x:Int}(h1: -9223372036854775808≤x)(B:x≤9223372036854775807):IntKind.i64.wrap x=x:=by
 simp only[IntKind.wrap,IntKind.bits,IntKind.signed];simp;omega
theorem Vp {x:Int}:IntKind.u8.wrap x=x%256:=by
 simp only[IntKind.wrap,IntKind.bits,IntKind.signed];simp
theorem Vq {x:Int}:IntKind.u16.wrap x=x%65536:=by
 simp only[IntKind.wrap,IntKind.bits,IntKind.signed];simp
theorem Vr {P:Program}{f:FuncId}{args:List z}{d:List R}{dst:Option Nat}{r:aJ}{K:aJ→List R→Prop}{br:z→Prop}
 (hA:aK P f args [] fun v rs=>br v∧rs= []) (V:bP args=true) (I: ∀ v,br v→bE v=true∧K (put r dst v) d):tL P f args d dst r K:=by
 refine oW [] [] (by simp) (srows:= []) (_root_.id rfl) (pN args V) hA ?_;rintro v rs ⟨aQ,rfl⟩;obtain⟨h1,B⟩:=I v aQ;refine⟨.inl rfl,?_⟩;rw[uL _ _ h1];simpa[fq] using B
theorem bH {P:Program}{f:FuncId}{args:List z}{d:List R}{dst:Option Nat}{r:aJ}{K:aJ→List R→Prop}{i:z}
 (hA:aK P f args [] fun v rs=>v=i∧rs= []) (V:bP args=true) (G:bE i=true) (I:K (put r dst i) d):tL P f args d dst r K:=
 Vr hA V fun v ag=>by subst ag;exact⟨G,I⟩
theorem apa {P:Program}{f:FuncId}{args:List z}{bC:List Nat}{tk:df}{d:List R}{dst:Option Nat}{r:aJ}{K:aJ→List R→Prop}{br:z→Prop}
 (hA:aK P f args [] fun v rs=>br v∧rs= []) (V:bP args=true) (I: ∀ v,br v→bE v=true∧K (put r dst v) d):tO P f args bC tk d dst r K:=by
 refine FQ [] [] (by rw[OJ];trivial) (by simp) (srows:= []) (_root_.id rfl) (pN args V) hA ?_;rintro v rs ⟨aQ,rfl⟩;obtain⟨h1,B⟩:=I v aQ;refine⟨.inl rfl,?_⟩;rw[uL _ _ h1];simpa[fq] using B
theorem jd {P:Program}{f:FuncId}{args:List z}{bC:List Nat}{tk:df}{d:List R}{dst:Option Nat}{r:aJ}{K:aJ→List R→Prop}{i:z}
 (hA:aK P f args [] fun v rs=>v=i∧rs= []) (V:bP args=true) (G:bE i=true) (I:K (put r dst i) d):tO P f args bC tk d dst r K:=
 apa hA V fun v ag=>by subst ag;exact⟨G,I⟩
def cC (k:IntKind)(l:List Int):List (List z):=l.map fun n=> [.int k n]
theorem mm {k:IntKind}{l:List Int}: (cC k l).length=l.length:=by simp[cC]
theorem CL {k:IntKind}: ∀ {l:List Int},eg (cC k l)=true
 | []=>_root_.id rfl
 |n::l=>by simpa[cC,eg,bP,bE] using (CL (k:=k) (l:=l))
theorem apb {k:IntKind}{a:List Int}{n:Int}:cC k a++ [[.int k n]]=cC k (a++ [n]):=by simp[cC]
theorem sA {k:IntKind}{l:List Int}{c:Nat}(h:c < l.length): (cC k l).getD c []= [.int k (l.getD c 0)]:=by
 simp[cC,List.getD_eq_getElem?_getD,List.getElem?_eq_getElem h]
theorem Vs {k:IntKind}{l:List Int}{n:Nat}: (cC k l).take n=cC k (l.take n):=by simp[cC]
def ctx0 (w:World):bv:=⟨[],[],fun _=>False,w,false⟩
theorem Vt (w:World):cb (ctx0 w):=⟨_root_.id rfl,_root_.id rfl,fun i bz h=>by simp[ctx0] at h,fun i cy b F dH h=>by simp[ctx0] at h,fun b h=>h.elim⟩
theorem calls_of_afn {P:Program}{f:FuncId}{args:List z}{du:List Value}{w:World}(h:aK P f args [] fun v _=>v= .bool true)(G:ay (ctx0 w) args du)(hG:GOk (ctx0 w)):
 Calls P f du.toArray w fun e w'=>e= .returned (.bool true)∧Below w.heap.size w w':=by
 refine (h (ctx0 w) du (_root_.id rfl) (Vt w) hG G).mono ?_;rintro e w' ⟨aV,v,av,rfl,rfl,h1,B,am,rfl⟩;rw[Rep] at h1;subst h1;exact⟨_root_.id rfl,⟨am.os,am.tape,am.output,am.size,fun b Z=>am.block b Z fun i F G=>by simp[ctx0] at G⟩⟩
end Go.Abs
namespace Go.Abs
variable [dw]
theorem apc {d:List R}{ap:List (Option Nat)}{bk:List Nat}{e:TypeId}{N:Nat}{ah:List (List z)}:ho d ap bk (.aa e N ah)= .aa e N (lD d ap bk ah):=_root_.id rfl
theorem apd {d:List R}{ap:List (Option Nat)}{bk:List Nat}:ho d ap bk .fH= .fH:=_root_.id rfl
theorem ape {f:Nat→Nat}{e:TypeId}{N:Nat}{ah:List (List z)}:gu f (.aa e N ah)= .aa e N (ro f ah):=_root_.id rfl
theorem apf {f:Nat→Nat}:gu f .fH= .fH:=_root_.id rfl
def jL (ents:List (z×z)):Bool:=bP (ents.map (·.1))&&bP (ents.map (·.2))
theorem CM {g:z→z}(ao: ∀ a,bE a=true→g a=a): ∀ {ents:List (z×z)},jL ents=true→ents.map (fun p=>(g p.1,g p.2))=ents
 | [],_=>_root_.id rfl
 |p::O,h=>by
  simp only[jL,List.map_cons,bP,Bool.and_eq_true] at h;have:=CM ao (ents:=O) (by simp only[jL,Bool.and_eq_true];exact⟨h.1.2,h.2.2⟩);rw[List.map_cons,this,ao _ h.1.1,ao _ h.2.1]
theorem apg {d:List R}{ap:List (Option Nat)}{bk:List Nat}{aE:Bool}{M:List cN}{ents:List (z×z)}:ho d ap bk (.aY (.map aE M ents))= .aY (.map aE M (if jL ents then ents else ents.map fun p=>(bU d ap bk p.1,bU d ap bk p.2))):=by
 rw[ho];split
 ·rw[CM (fun a aw=>sz a aw) ‹_›]
 ·rfl
theorem aph {f:Nat→Nat}{aE:Bool}{M:List cN}{ents:List (z×z)}:gu f (.aY (.map aE M ents))= .aY (.map aE M (if jL ents then ents else ents.map fun p=>(dI f p.1,dI f p.2))):=by
 rw[gu];split
 ·rw[CM (fun a aw=>uL f a aw) ‹_›]
 ·rfl
theorem api:jL []=true:=_root_.id rfl
attribute [go_sem] akO akP akQ akR akS
attribute [go_sem] akT akU ame amf amg amh
attribute [go_sem] ami amj amk aml amm amn amo amp amq amr
attribute [go_sem] ams amt amu amv amw amU amV
attribute [go_sem] aok aoQ aoR
attribute [go_sem] akp amb
attribute [go_sem] akn ako ama amc amd
attribute [go_sem] aoS aoT aoU
attribute [go_sem] apg aph api
attribute [go_sem] ajT ajU ajV ajW ajX ajY ajZ aka akb akc akd ake
attribute [go_sem] akf akg akh aki akj akk akl akq akr aks akt aku
attribute [go_sem] akv akw akx aky akz akA akB akC akD akE
attribute [go_sem] akF akG akH akI akJ akK akL akM
attribute [go_sem] akm alV alW
attribute [go_sem] akN akW akX akY akZ ala alb alc ald
attribute [go_sem] ale alf alg alh ali alj alk alm aln alo alp
attribute [go_sem] alq alr als alt alu alv alw alx aly alz alA
attribute [go_sem] alB alC alD alE alF alG alH
attribute [go_sem] alI alJ alK alL alM alN alO
attribute [go_sem] alP alQ alR alS alT alU alX
attribute [go_sem] alY alZ amx amy amz amA amB amC amD amE amF amG
attribute [go_sem] amH amI amJ amK amL amM amN amO amP amQ amR
attribute [go_sem] amS amT amW amX amY amZ ana anb anc Ov
attribute [go_sem] ane anf ang anh ani anj ank anl anm ann ano
attribute [go_sem] anp anq anr ans ant anu anv anw anx
attribute [go_sem] anz anA anB aod aoe aof aog aoh aoi aoj aol
attribute [go_sem] aom OJ aon aoo aop aoq aor aos aot aou aov aow
attribute [go_sem] aox aoy aoz aoA aoB aoC aoD aoE aoF aoG
attribute [go_sem] aoH aoI aoJ aoK
attribute [go_sem] aoL aoM aoN aoO aoP aoV aoW aoX
attribute [go_sem] aoY aoZ
attribute [go_sem] List.map_cons List.map_nil List.contains_cons List.contains_nil beq_self_eq_true Bool.or_true Bool.true_or Bool.or_false Bool.false_or Bool.and_false Bool.false_and
attribute [go_sem] List.length_cons List.length_nil List.cons_append List.nil_append List.getElem?_cons_zero List.getElem?_cons_succ List.getElem?_nil List.getD_cons_zero List.getD_cons_succ List.set_cons_zero List.set_cons_succ List.take_succ_cons
attribute [go_sem] List.take_zero List.drop_succ_cons List.drop_zero List.all_cons List.all_nil List.replicate_succ List.replicate_zero List.take_nil List.drop_nil List.append_nil Nat.zero_add Nat.add_zero
attribute [go_sem] Nat.lt_irrefl Nat.le_refl Nat.succ_ne_zero if_true if_false ite_true ite_false true_and and_true and_self Bool.and_true Bool.true_and
attribute [go_sem] Bool.and_self decide_true decide_false Bool.not_true Bool.not_false Option.some.injEq not_false_eq_true ne_eq Bool.false_eq_true Int.toNat_zero Int.toNat_one Bool.bne_false
attribute [go_sem] Bool.bne_true Int.cast_ofNat_Int
attribute [go_sem] ew dV bU apc apd lD hR eg bP bE eH fq
attribute [go_sem] dI iX ape apf ro CL mm Cl mN pI
attribute [go_sem] apb Vs
end Go.Abs
namespace Go.Abs
variable [dw]
def dK (aP:TypeId)(l:List Int)(aD:Int):R:= .aa aP 2 [[.pure 1 (cC .i64 l),.int .i64 aD]]
structure kx (l:List Int):Prop where
 len:l.length≤9223372036854775807
 num: ∀ n∈l,-9223372036854775808≤n∧n≤9223372036854775807
def vd (P:Program)(aP:TypeId)(f:FuncId)(bW:List z)(l:List Int)(br:z→Prop):Prop:=
 ∀ aD:Int,0≤aD→aD≤l.length→aK P f (.aW 0 1 0 0::bW) [dK aP l aD] fun v rs=> ∃ a:Int,rs= [dK aP l a]∧0≤a∧a≤l.length∧bE v=true∧br v
theorem OM {aP:TypeId}{l:List Int}{aD:Int}{d:List R}{i:Nat}(G:d[i]? =some (dK aP l aD)):ew d [] [some i] [some i]=some [dK aP l aD]:=by
 simp only[ew,G];simp[dK,ho,lD,eg,bP,bE]
theorem Vu {d:List R}{i:Nat}{bW:List z}(V:bP bW=true):dV d [some i] [] (.aW i 1 0 0::bW)= .aW 0 1 0 0::bW:=by
 simp[dV,bU,hR,pN bW V]
theorem Jx {f:Nat→Nat}{aP:TypeId}{l:List Int}{aD:Int}:gu f (dK aP l aD)=dK aP l aD:=by
 simp[dK,gu,ro,eg,bP,bE]
theorem wL {P:Program}{aP:TypeId}{f:FuncId}{bW:List z}{l:List Int}{br:z→Prop}{d:List R}{dst:Option Nat}{r:aJ}{K:aJ→List R→Prop}{i:Nat}{aD:Int}
 (hA:vd P aP f bW l br) (V:bP bW=true) (G:d[i]? =some (dK aP l aD)) (h0:0≤aD) (h1:aD≤l.length)
 (I: ∀ (v:z) (a:Int),0≤a→a≤l.length→br v→K (put r dst v) (d.set i (dK aP l a))):tL P f (.aW i 1 0 0::bW) d dst r K:=by
 refine oW [i] [] (by simp) (OM G) (Vu V) (hA aD h0 h1) ?_;rintro v rs ⟨a,rfl,B,am,bp,cn⟩;refine⟨.inl rfl,?_⟩;rw[uL _ _ bp,List.map_cons,List.map_nil,Jx];simpa[fq] using I v a B am cn
theorem apj {P:Program}{aP:TypeId}{f:FuncId}{bW:List z}{l:List Int}{br:z→Prop}{bC:List Nat}{tk:df}{d:List R}{dst:Option Nat}{r:aJ}{K:aJ→List R→Prop}{i:Nat}{aD:Int}
 (hA:vd P aP f bW l br) (ht:ex bC tk [i] []) (V:bP bW=true) (G:d[i]? =some (dK aP l aD)) (h0:0≤aD) (h1:aD≤l.length)
 (I: ∀ (v:z) (a:Int),0≤a→a≤l.length→br v→K (put r dst v) (d.set i (dK aP l a))):tO P f (.aW i 1 0 0::bW) bC tk d dst r K:=by
 refine FQ [i] [] ht (by simp) (OM G) (Vu V) (hA aD h0 h1) ?_;rintro v rs ⟨a,rfl,B,am,bp,cn⟩;refine⟨.inl rfl,?_⟩;rw[uL _ _ bp,List.map_cons,List.map_nil,Jx];simpa[fq] using I v a B am cn
theorem s.tape {aP:TypeId}{l:List Int}{a:Int}{br:z→Prop}{v:z}{d:List R}(ag:bE v=true)(h0:0≤a)(h1:a≤l.length)(h:br v):
 s 1 (wI fun v rs=> ∃ a:Int,rs= [dK aP l a]∧0≤a∧a≤l.length∧bE v=true∧br v) [(0,v)] (dK aP l a::d):=by
 refine s.kb (srows:= [dK aP l a]) [some 0] [] (by decide) (by decide) (OM (by simp)) (s.U ?_);simp only[wI,List.map_cons,List.map_nil,Ov,if_true];refine⟨a,_root_.id rfl,h0,h1,?_⟩;rw[sz v ag];exact⟨ag,h⟩
def AO (P:Program)(aP e:TypeId)(f:FuncId)(l ai:List Int)(br:z→Prop):Prop:=
 ∀ aD:Int,0≤aD→aD≤l.length→aK P f [.aW 0 1 0 0,.own 1 ai.length 0 ai.length] [dK aP l aD,.aa e 1 (cC .i64 ai)]
  fun v rs=> ∃ a:Int,rs= [dK aP l a,.aa e 1 (cC .i64 ai)]∧0≤a∧a≤l.length∧bE v=true∧br v
theorem Vv {aP e:TypeId}{l ai:List Int}{aD:Int}{d:List R}{i q:Nat}{ah:List (List z)}(G:d[i]? =some (dK aP l aD))(aQ:d[q]? =some (.aa e 1 ah))(ag:ah=cC .i64 ai):
 ew d [] [some i,some q] [some i,some q]=some [dK aP l aD,.aa e 1 (cC .i64 ai)]:=by
 subst ag;simp only[ew,G,aQ];simp[dK,ho,lD,eg,bP,bE,CL]
theorem Vw {aP e:TypeId}{l ai:List Int}{a:Int}{d:List R}{i q:Nat}{ah:List (List z)}(aQ:d[q]? =some (.aa e 1 ah))(ag:ah=cC .i64 ai)(hne:i≠q)(f:Nat→Nat):
 fq d [i,q] ([dK aP l a,.aa e 1 (cC .i64 ai)].map (gu f))=d.set i (dK aP l a):=by
 subst ag;have h1: [dK aP l a,R.aa e 1 (cC .i64 ai)].map (gu f)= [dK aP l a,.aa e 1 (cC .i64 ai)]:=by
  rw[List.map_cons,List.map_cons,List.map_nil,Jx];simp[gu,ro,CL]
 rw[h1];simp only[fq,List.append_nil];rw[List.set_comm _ _ hne];congr 1;apply List.ext_getElem?;intro c;rw[List.getElem?_set];split
 ·rename_i h;subst h;split
  ·exact aQ.symm
  ·rename_i h;rw[List.getElem?_eq_none (by omega)]
 ·rfl
theorem apk {P:Program}{aP e:TypeId}{f:FuncId}{l:List Int}{br:z→Prop}{d:List R}{dst:Option Nat}{r:aJ}{K:aJ→List R→Prop}{i q n m:Nat}{aD:Int}{ah:List (List z)}(ai:List Int)
 (hA:AO P aP e f l ai br) (G:d[i]? =some (dK aP l aD)) (aQ:d[q]? =some (.aa e 1 ah)) (ag:ah=cC .i64 ai) (aB:n=ai.length) (hm:m=ai.length) (hne:i≠q) (h0:0≤aD) (h1:aD≤l.length)
 (I: ∀ (v:z) (a:Int),0≤a→a≤l.length→br v→K (put r dst v) (d.set i (dK aP l a))):tL P f [.aW i 1 0 0,.own q n 0 m] d dst r K:=by
 subst aB;subst hm;refine oW [i,q] [] (by simp[hne]) (Vv G aQ ag) (by simp[dV,bU,hR,hne]) (hA aD h0 h1) ?_;rintro v rs ⟨a,rfl,B,am,bp,cn⟩;refine⟨.inl rfl,?_⟩;rw[uL _ _ bp,Vw aQ ag hne];exact I v a B am cn
theorem apl {P:Program}{aP e:TypeId}{f:FuncId}{l:List Int}{br:z→Prop}{bC:List Nat}{tk:df}{d:List R}{dst:Option Nat}{r:aJ}{K:aJ→List R→Prop}{i q n m:Nat}{aD:Int}{ah:List (List z)}(ai:List Int)
 (hA:AO P aP e f l ai br) (ht:ex bC tk [i,q] []) (G:d[i]? =some (dK aP l aD)) (aQ:d[q]? =some (.aa e 1 ah)) (ag:ah=cC .i64 ai) (aB:n=ai.length) (hm:m=ai.length) (hne:i≠q) (h0:0≤aD) (h1:aD≤l.length)
 (I: ∀ (v:z) (a:Int),0≤a→a≤l.length→br v→K (put r dst v) (d.set i (dK aP l a))):tO P f [.aW i 1 0 0,.own q n 0 m] bC tk d dst r K:=by
 subst aB;subst hm;refine FQ [i,q] [] ht (by simp[hne]) (Vv G aQ ag) (by simp[dV,bU,hR,hne]) (hA aD h0 h1) ?_;rintro v rs ⟨a,rfl,B,am,bp,cn⟩;refine⟨.inl rfl,?_⟩;rw[uL _ _ bp,Vw aQ ag hne];exact I v a B am cn
def ON (n:Int)(v:z):Prop:= ∃ x:Int,v= .int .i64 x∧0≤x∧(x < n∨x=0)
def mod (v n:Int):Int:=if v.tmod n < 0 then v.tmod n+n else v.tmod n
theorem OO {v n:Int}(aB:0 < n):0≤mod v n∧mod v n < n:=by
 unfold mod;have h1:=Int.tmod_lt_of_pos v aB;have B: -n < v.tmod n:=by
  have:=Int.lt_tmod_of_pos v aB;omega
 split<;>omega
end Go.Abs
namespace Go.Abs
variable [dw]
class aG (bd:Type) where
 F:bd→List z
 N:Nat
 len: ∀ x,(F x).length=N
 fU: ∀ x,bP (F x)=true
 on: ∀ x,(F x).all cM=true
def ac {bd:Type}[aG bd](l:List bd):List (List z):=l.map aG.F
section
variable {bd:Type} [aG bd]
theorem bO {l:List bd}: (ac l).length=l.length:=by simp[ac]
theorem cw: ∀ {l:List bd},eg (ac l)=true
 | []=>_root_.id rfl
 |x::l=>by
  show (bP (aG.F x)&&eg (ac l))=true;rw[aG.fU,cw];exact _root_.id rfl
theorem apo {a b:List bd}:ac a++ac b=ac (a++b):=by simp[ac]
theorem kz {a:List bd}{x:bd}:ac a++ [aG.F x]=ac (a++ [x]):=by simp[ac]
theorem Vy {l:List bd}{n:Nat}: (ac l).take n=ac (l.take n):=by simp[ac]
theorem apq {l:List bd}{n:Nat}: (ac l).drop n=ac (l.drop n):=by simp[ac]
theorem ve {l:List bd}{c:Nat}{x:bd}: (ac l).set c (aG.F x)=ac (l.set c x):=by simp[ac,List.map_set]
theorem cQ {l:List bd}{c:Nat}(h:c < l.length): (ac l).getD c []=aG.F (l[c]'h):=by
 simp[ac,List.getD_eq_getElem?_getD,List.getElem?_eq_getElem h]
end
theorem apr {d:List R}{ap:List (Option Nat)}{bk:List Nat}{aP:TypeId}{l:List Int}{a:Int}:ho d ap bk (dK aP l a)=dK aP l a:=by
 simp[dK,ho,lD,eg,bP,bE]
attribute [go_sem] apr Jx Option.map_some Option.map_none
attribute [go_sem] kz apo Vy apq bO cw aG.len aG.fU aG.on
end Go.Abs
namespace Go.Abs
variable [dw]
theorem CN {w n:Nat}:BitVec.ofInt w (n:Int)=BitVec.ofNat w n:=by simp
theorem aH3 {a b:Nat}(aw:a < 9223372036854775808)(Z:b < 9223372036854775808):akV .i64 (a:Int) (b:Int)=((a ^^^ b:Nat):Int):=by
 show IntKind.i64.wrap ((BitVec.ofInt 64 _ ^^^ BitVec.ofInt 64 _).toNat:Int)=_;have h:=Nat.xor_lt_two_pow (n:=63) (x:=a) (y:=b) (by simpa using aw) (by simpa using Z);rw[CN,CN,BitVec.toNat_xor,BitVec.toNat_ofNat,BitVec.toNat_ofNat,Nat.mod_eq_of_lt (by omega),Nat.mod_eq_of_lt (by omega),bf (by omega) (by omega)]
theorem aps {a b:Nat}(aw:a < 9223372036854775808)(Z:b < 9223372036854775808):ep .i64 (a:Int) (b:Int)=((a&&& b:Nat):Int):=by
 show IntKind.i64.wrap ((BitVec.ofInt 64 _&&& BitVec.ofInt 64 _).toNat:Int)=_;have h:=Nat.and_lt_two_pow (n:=63) a (y:=b) (by simpa using Z);rw[CN,CN,BitVec.toNat_and,BitVec.toNat_ofNat,BitVec.toNat_ofNat,Nat.mod_eq_of_lt (by omega),Nat.mod_eq_of_lt (by omega),bf (by omega) (by omega)]
theorem apt {a b:Nat}(aw:a < 9223372036854775808)(Z:b < 9223372036854775808):Jj .i64 (a:Int) (b:Int)=((a|||b:Nat):Int):=by
 show IntKind.i64.wrap ((BitVec.ofInt 64 _|||BitVec.ofInt 64 _).toNat:Int)=_;have h:=Nat.or_lt_two_pow (n:=63) (x:=a) (y:=b) (by simpa using aw) (by simpa using Z);rw[CN,CN,BitVec.toNat_or,BitVec.toNat_ofNat,BitVec.toNat_ofNat,Nat.mod_eq_of_lt (by omega),Nat.mod_eq_of_lt (by omega),bf (by omega) (by omega)]
theorem apu {a:Int}{n:Nat}(aB:n≤64):Oh .i64 a n=IntKind.i64.wrap (a*2^n):=by
 show IntKind.i64.wrap (a*2^(min n 64))=_;rw[Nat.min_eq_left aB]
theorem apv {a n:Nat}(aB:n≤64):Jk .i64 (a:Int) n=((a / 2^n:Nat):Int):=by
 show Int.fdiv (a:Int) (2^(min n 64))=_;rw[Nat.min_eq_left aB,Int.fdiv_eq_ediv_of_nonneg _ (by exact Int.pow_nonneg (by omega))];simp
theorem apw {l:List Int}{n:Nat}(h1:l.length=n)(B:n≤maxLen)(h: ∀ x∈l,IntKind.i64.min≤x∧x≤IntKind.i64.max):kx l:=by
 refine⟨by rw[h1];exact B,fun x ad=> ?_⟩;have:=h x ad;rw[show IntKind.i64.min= -9223372036854775808 from _root_.id rfl,show IntKind.i64.max=9223372036854775807 from _root_.id rfl] at this;exact this
theorem repL_nil {C:bv}:ay C [] []:=by rw[ay]
theorem repL_cons {C:bv}{a:z}{as:List z}{v:Value}{vs:List Value}(h:Rep C a v)(k:ay C as vs):ay C (a::as) (v::vs):=by rw[ay];exact⟨v,vs,_root_.id rfl,h,k⟩
end Go.Abs
namespace Go.Abs
variable [dw]
theorem Vz {op:fV}{args:List z}{d:List R}{K aF:z→List R→Prop}(cs: ∀ v rs,K v rs→aF v rs)(h:aI op args d K):aI op args d aF:=(Cv op args).mono h cs
theorem VA {P:Program}{f:FuncId}{args:List z}{d:List R}{K aF:z→List R→Prop}(cs: ∀ v rs,K v rs→aF v rs)(h:tG P f args d K):tG P f args d aF:=by
 obtain⟨ap,bk,srows,h1,B,am⟩:=h;exact⟨ap,bk,srows,h1,B,am.mono fun v rs aQ=>⟨aQ.1,cs _ _ aQ.2⟩⟩
theorem apx {d:List R}{x:z}{K aF:z→List R→Prop}(cs: ∀ v rs,K v rs→aF v rs)(h:rk d x K):rk d x aF:=by
 unfold rk at h;split at h
 ·split at h
  ·rename_i G hm;simp only[rk,G,hm];exact⟨h.1,h.2.1,fun aw=>cs _ _ (h.2.2.1 aw),fun c an ak=>cs _ _ (h.2.2.2 c an ak)⟩
  ·exact h.elim
 ·exact h.elim
theorem apy {P:Program}{vs:List z}{d:List R}{K aF:z→List R→Prop}(cs: ∀ v rs,K v rs→aF v rs)(h:Az P vs d K):Az P vs d aF:=by
 unfold Az at h ⊢;split
 ·exact⟨h.1,VA cs h.2⟩
 ·rename_i ka;split at h
  ·rename_i f aj ai;exact (ka f aj ai rfl).elim
  ·exact h
theorem VB {P:Program}{L:dJ}{r:aJ}{d:List R}{K aF:aJ→List R→Prop}(cs: ∀ e i,K e i→aF e i)(h:eV P L r d K):eV P L r d aF:=by
 unfold eV at h ⊢;split
 ·rename_i f hf;rw[hf] at h;exact VA (fun v rs=>cs _ _) h
 ·rename_i hf;rw[hf] at h;simp only at h;split
  ·rename_i x ad;rw[ad] at h;exact apx (fun v rs=>cs _ _) h
  ·rename_i ka;split at h
   ·rename_i x ad;exact (ka x ad).elim
   ·exact h
 ·rename_i hf;rw[hf] at h;simp only at h;exact apy (fun v rs=>cs _ _) h
 ·rename_i hne FR OP;split at h
  ·rename_i f hf;exact (hne f hf).elim
  ·rename_i hf;exact (FR hf).elim
  ·rename_i hf;exact (OP hf).elim
  ·exact Vz (fun v rs=>cs _ _) h
theorem VC {b w:Bool}{A fl cZ VD:Prop}(h1:A→fl)(B:cZ→VD)(h:ss b w A cZ):ss b w fl VD:=by
 unfold ss at h ⊢
 by_cases Z:b=w
 ·rw[if_pos Z] at h ⊢;exact h1 h
 ·rw[if_neg Z] at h ⊢;exact B h
theorem VE {P:Program}{L:dJ}{r:aJ}{d:List R}{K aF:aJ→List R→Prop}(cs: ∀ e i,K e i→aF e i)(h:wy P L r d K):wy P L r d aF:=by
 unfold wy at h ⊢;split
 ·rename_i ao;rw[ao] at h;exact VB cs h
 ·rename_i E dZ ao;rw[ao] at h;simp only at h;split
  ·rename_i b Z;rw[Z] at h;exact VC (VB cs) (cs _ _) h
  ·rename_i Z;rw[Z] at h;exact cs _ _ h
  ·rename_i h1 B;split at h
   ·rename_i b Z;exact (h1 b Z).elim
   ·rename_i Z;exact (B Z).elim
   ·exact h
theorem OQ {P:Program}: ∀ {os:List dJ} {r:aJ} {d:List R} {K aF:aJ→List R→Prop},(∀ e i,K e i→aF e i)→yj P os K r d→yj P os aF r d
 | [],_,_,_,_,cs,h=>cs _ _ h
 |_::_,_,_,_,_,cs,h=>VE (fun _ _=>OQ cs) h
theorem VF {P:Program}{f:FuncId}{args:List z}{bC:List Nat}{tk:df}{d:List R}{K aF:z→List R→Prop}(cs: ∀ v rs,K v rs→aF v rs)(h:wA P f args bC tk d K):wA P f args bC tk d aF:=by
 obtain⟨ap,bk,srows,h0,h1,B,am⟩:=h;exact⟨ap,bk,srows,h0,h1,B,am.mono fun v rs aQ=>⟨aQ.1,cs _ _ aQ.2⟩⟩
theorem apz {P:Program}{vs:List z}{bC:List Nat}{tk:df}{d:List R}{K aF:z→List R→Prop}(cs: ∀ v rs,K v rs→aF v rs)(h:tH P vs bC tk d K):tH P vs bC tk d aF:=by
 unfold tH at h ⊢;split
 ·exact⟨h.1,VF cs h.2⟩
 ·rename_i ka;split at h
  ·rename_i f aj ai;exact (ka f aj ai rfl).elim
  ·exact h
theorem Jz {P:Program}{base c:Nat}{o:eQ}{tk:df}{r:aJ}{d:List R}{K aF:df→aJ→List R→Prop}(cs: ∀ t e i,K t e i→aF t e i)(h:gO P base c o tk r d K):gO P base c o tk r d aF:=by
 unfold gO at h ⊢;split
 ·rename_i q aQ;rw[aQ] at h;exact⟨h.1,(Jd _ _ _).mono h.2 fun v rs=>cs _ _ _⟩
 ·rename_i aQ;rw[aQ] at h;simp only at h;split
  ·rename_i f hf;rw[hf] at h;exact VF (fun v rs=>cs _ _ _) h
  ·rename_i hf;rw[hf] at h;exact apz (fun v rs=>cs _ _ _) h
  ·rename_i hne OP;split at h
   ·rename_i f hf;exact (hne f hf).elim
   ·rename_i hf;exact (OP hf).elim
   ·exact⟨h.1,Vz (fun v rs=>cs _ _ _) h.2⟩
theorem apA {P:Program}{base c:Nat}{v:z}{dZ:Bool}{o:eQ}{tk:df}{r:aJ}{d:List R}{K aF:df→aJ→List R→Prop}(cs: ∀ t e i,K t e i→aF t e i)(h:qF P base v dZ c o tk r d K):qF P base v dZ c o tk r d aF:=by
 unfold qF at h ⊢;split
 ·exact VC (Jz cs) (cs _ _ _) h
 ·exact cs _ _ _ h
 ·rename_i h1 B;split at h
  ·rename_i b;exact (h1 b rfl).elim
  ·exact (B rfl).elim
  ·exact h
theorem JA {P:Program}{base:Nat}{aa:List Nat}: ∀ {ds:List (Nat×eQ)} {tk:df} {r:aJ} {d:List R} {K aF:aJ→List R→Prop},(∀ e i,K e i→aF e i)→ny P base ds aa K tk r d→ny P base ds aa aF tk r d
 | [],_,_,_,_,_,cs,h=>cs _ _ h
 | (c,o)::ds,tk,r,d,K,aF,cs,h=>by
  rw[ny] at h ⊢;split
  ·rename_i ao;rw[ao] at h;exact Jz (fun _ _ _=>JA cs) h
  ·rename_i E dZ ao;rw[ao] at h;exact apA (fun _ _ _=>JA cs) h
theorem s.mono {aX:Nat}{K aF:aJ→List R→Prop}{r:aJ}{d:List R}(cs: ∀ e i,K e i→aF e i)(h:s aX K r d):s aX aF r d:=by
 obtain⟨e,i,h1,B⟩:=h;exact⟨e,i,h1,cs _ _ B⟩
theorem tQ {P:Program}{aX:Nat}: ∀ (F:fW) {K aF:nx} {r:aJ} {d:List R},(∀ e i,K.n e i→aF.n e i)→(∀ j e i,K.x j e i→aF.x j e i)→(∀ e i,K.i e i→aF.i e i)→eX P aX F K r d→eX P aX F aF r d
 | .skip,_,_,_,_,h1,_,_,h=>h1 _ _ h
 | .region _ _,_,_,_,_,h1,_,_,h=>OQ (fun _ _=>h1 _ _) h
 | .su _ _ _,_,_,_,_,h1,_,_,h=>JA h1 h
 | .seq a b,K,aF,_,_,h1,B,am,h=>tQ a (K:=⟨eX P aX b K,K.x,K.i⟩) (aF:=⟨eX P aX b aF,aF.x,aF.i⟩) (fun _ _=>tQ b h1 B am) B am h
 | .cond F a b,K,aF,r,d,h1,B,am,h=>by
  rw[eX] at h ⊢;unfold qB at h ⊢;split
  ·rename_i eu Z;rw[Z] at h;exact⟨fun e=>tQ a h1 B am (h.1 e),fun e=>tQ b h1 B am (h.2 e)⟩
  ·rename_i hne;split at h
   ·rename_i eu Z;exact (hne eu Z).elim
   ·exact h
 | .block id F,K,aF,r,d,h1,B,am,h=>by
  rw[eX] at h ⊢;refine tQ F (K:=⟨K.n,fun j=>if j=id then K.n else K.x j,K.i⟩) (aF:=⟨aF.n,fun j=>if j=id then aF.n else aF.x j,aF.i⟩) h1 (fun j e i ad=> ?_) am h
  by_cases aT:j=id
  ·simp only[aT,if_true] at ad ⊢;exact h1 _ _ ad
  ·simp only[aT,if_false] at ad ⊢;exact B _ _ _ ad
 | .loop F,K,aF,r,d,h1,B,am,h=>by
  rw[eX] at h ⊢;obtain⟨hq,iJ,g1,bM⟩:=h;exact⟨hq,iJ,g1,fun e i an=>tQ F (K:=⟨s aX fun fe bY=>hq fe bY∧iJ fe bY < iJ e i,K.x,K.i⟩) (fun _ _ ad=>ad) B am (bM e i an)⟩
 | .exit id,_,_,_,_,_,B,_,h=>B _ _ _ h
 | .ret,_,_,_,_,_,_,am,h=>am _ _ h
theorem VG {P:Program}{aX:Nat}{F:fW}{K:nx}{r:aJ}{d:List R}(az:aJ→List R→Prop)(h:eX P aX F ⟨az,K.x,K.i⟩ r d)(cU: ∀ e i,az e i→K.n e i):eX P aX F K r d:=
 tQ F (K:=⟨az,K.x,K.i⟩) cU (fun _ _ _ ad=>ad) (fun _ _ ad=>ad) h
theorem apB {P:Program}{aX:Nat}{b:Bool}{x y:fW}{K:nx}{r:aJ}{d:List R}(az:aJ→List R→Prop)(h1:b=true→eX P aX x ⟨az,K.x,K.i⟩ r d)(B:b=false→eX P aX y ⟨az,K.x,K.i⟩ r d)
 (cU: ∀ e i,az e i→K.n e i):AJ P aX (.bool b) x y K r d:=
 ⟨fun Z=>VG az (h1 Z) cU,fun Z=>VG az (B Z) cU⟩
attribute [go_sem] Int.toNat_natCast List.take_length List.length_set ve
end Go.Abs
namespace Go.Abs
variable [dw]
open Go.Deep
def yv (P:Program)(yw:Nat):List Field→Nat→Bool
 | [],off=>off==yw
 |f::eU,off=>f.offset==off&&yv P yw eU (off+P.cellsOf f.type)
def AP (P:Program):Nat→TypeId→Bool
 |0,_=>false
 |m+1,t=>
  match P.underlying t with
  |some .bool=>true
  |some (.int _)=>true
  |some .string=>true
  |some (.slice e)=>decide (0 < P.cellsOf e)&&AP P m e
  |some (.struct eU)=>yv P (P.cellsOf t) eU.toList 0&&eU.toList.all fun f=>AP P m f.type
  |_=>false
def li (P:Program):Nat→TypeId→List z→Prop
 |0,_,_=>False
 |m+1,t,as=>
  match P.underlying t with
  |some .bool=> ∃ b,as= [.bool b]
  |some (.int k)=> ∃ n,as= [.int k n]∧k.min≤n∧n≤k.max
  |some .string=> ∃ E,as= [.str E]∧E.size≤maxLen
  |some (.slice e)=> ∃ ah,as= [.pure (P.cellsOf e) ah]∧ah.length≤maxLen∧ ∀ v∈ah,v.length=P.cellsOf e∧li P m e v
  |some (.struct eU)=>as.length=P.cellsOf t∧ ∀ f∈eU.toList,li P m f.type ((as.drop f.offset).take (P.cellsOf f.type))
  |_=>False
theorem OR {P:Program}{yw:Nat}: ∀ {eU:List Field} {off:Nat},yv P yw eU off=true→off≤yw∧ ∀ f∈eU,off≤f.offset
 | [],off,h=>by simp[yv] at h;exact⟨by omega,by simp⟩
 |f::eU,off,h=>by
  simp only[yv,Bool.and_eq_true,beq_iff_eq] at h;obtain⟨h1,B⟩:=OR h.2;refine⟨by omega,fun g ao=> ?_⟩;rcases List.mem_cons.1 ao with rfl|ao
  ·omega
  ·have:=B g ao;omega
theorem VH {P:Program}{C:bv}{yw:Nat}{aj:List Value}{iK:Field→List z→Prop}(hl:aj.length=yw): ∀ (eU:List Field) (off:Nat),yv P yw eU off=true→
 (∀ f∈eU,∃ as,ay C as ((aj.drop f.offset).take (P.cellsOf f.type))∧iK f as∧iH ((aj.drop f.offset).take (P.cellsOf f.type)))→
 ∃ as,ay C as (aj.drop off)∧iH (aj.drop off)∧ ∀ f∈eU,iK f ((as.drop (f.offset-off)).take (P.cellsOf f.type))
 | [],off,h,_=>by
  simp[yv] at h;rw[List.drop_of_length_le (by omega)];exact⟨[],by rw[ay],by intro v ag;simp at ag,by simp⟩
 |f::eU,off,h,hf=>by
  have ed:=OR h;simp only[yv,Bool.and_eq_true,beq_iff_eq] at h;obtain⟨bi,ht⟩:=h;have apC:=OR ht;obtain⟨VI,cz,eT,a3⟩:=hf f (by simp);obtain⟨apD,b1,eA,ls⟩:=VH hl eU _ ht fun g ao=>hf g (by simp[ao]);have jv:VI.length=P.cellsOf f.type:=by
   have:=cz.length;simp only[List.length_take,List.length_drop] at this;omega
  have es:aj.drop off=(aj.drop f.offset).take (P.cellsOf f.type)++aj.drop (off+P.cellsOf f.type):=by
   rw[bi,←List.drop_drop,List.take_append_drop]
  refine⟨VI++apD,by rw[es];exact cz.append b1,?_,fun g ao=> ?_⟩
  ·rw[es];intro v ag;rcases List.mem_append.1 ag with ag|ag
   ·exact a3 v ag
   ·exact eA v ag
  ·by_cases OS:g∈eU
   ·have h1:=apC.2 g OS;have:=ls g OS;rw[List.drop_append,List.drop_of_length_le (by omega),List.nil_append,jv,show g.offset-off-P.cellsOf f.type=g.offset-(off+P.cellsOf f.type) from by omega];exact this
   ·rcases List.mem_cons.1 ao with rfl|ao
    ·rw[bi,Nat.sub_self,List.drop_zero,List.take_append_of_le_length (by omega),List.take_of_length_le (by omega)];exact eT
    ·exact (OS ao).elim
section
variable {H:Type} {enc:TypeId×Value→H} {P:Program} {w:World} {base:Nat} {OT:Nat→Bool} {OU:Bool}
theorem VJ {C:bv}{b N:Nat}: ∀ (ah:List (List z)) (L:Nat),(∀ (c:Nat) (v:List z),ah[c]? =some v→v.length=N∧dn C b (L+c*N) v)→cT C b L N ah
 | [],L,_=>by simp[cT]
 |v::ah,L,h=>by
  rw[cT];obtain⟨h1,B⟩:=h 0 v (by simp);refine⟨h1,by simpa using B,VJ ah (L+N) fun c u aZ=> ?_⟩;have:=h (c+1) u (by simpa using aZ);rw[show L+N+c*N=L+(c+1)*N from by rw[Nat.add_mul];omega];exact this
theorem OV: ∀ (m:Nat) (t:TypeId) (hp:Nat) (aj:List Value) (x:DataW H×List MemPlace),AP P m t=true→DataW.trod enc P w base OT OU hp t aj=some x→
 ∃ as,ay (ctx0 w).p as aj∧li P m t as∧iH aj
 |0,t,hp,aj,x,ak,_=>by simp[AP] at ak
 |m+1,t,0,aj,x,_,h=>by simp[DataW.trod] at h
 |m+1,t,hp+1,aj,x,ak,h=>by
  unfold AP at ak;have FS: ∀ v:Value,v.oneCell'=true→iH [v]:=by intro v ag u aZ;simp at aZ;subst aZ;exact ag
  split at ak
  ·rename_i aZ;unfold DataW.trod at h;rw[aZ] at h;split at h<;>simp_all;rename_i b;refine⟨[.bool b],?_,?_,FS _ (_root_.id rfl)⟩
   ·rw[ay];exact⟨_,[],_root_.id rfl,by rw[Rep],by rw[ay]⟩
   ·rw[li,aZ];exact⟨b,_root_.id rfl⟩
  ·rename_i k aZ;unfold DataW.trod at h;rw[aZ] at h;split at h<;>simp_all;rename_i bo n I;obtain⟨⟨rfl,je⟩,_⟩:=h;refine⟨[.int bo n],?_,?_,FS _ (_root_.id rfl)⟩
   ·rw[ay];exact⟨_,[],_root_.id rfl,by rw[Rep],by rw[ay]⟩
   ·rw[li,aZ];exact⟨n,_root_.id rfl,by simpa[Lit.wf] using je⟩
  ·rename_i aZ;unfold DataW.trod at h;rw[aZ] at h;split at h<;>simp_all;rename_i E;refine⟨[.str E],?_,?_,FS _ (_root_.id rfl)⟩
   ·rw[ay];exact⟨_,[],_root_.id rfl,by rw[Rep],by rw[ay]⟩
   ·rw[li,aZ];exact⟨E,_root_.id rfl,by exact h.1⟩
  ·rename_i e aZ;simp only[Bool.and_eq_true,decide_eq_true_eq] at ak;rcases open_slice aZ h with ⟨rfl,_⟩|⟨a,len,cap,apE,n,ax,aH4,rfl,Z,hl,hm,JB,rfl,ad⟩
   ·refine⟨[.pure (P.cellsOf e) []],?_,?_,FS _ (_root_.id rfl)⟩
    ·rw[ay];exact⟨_,[],_root_.id rfl,by rw[Rep];exact⟨none,0,by simp,by simp,.inl (by simp)⟩,by rw[ay]⟩
    ·rw[li,aZ];exact⟨[],_root_.id rfl,by simp,by simp⟩
   ·have Jv:len≤apE:=by rw[JB];split<;>omega
    have key: ∀ c,c < len→ ∃ fX as,w.cells? base (a.add (c*P.cellsOf e)) (P.cellsOf e)=some fX∧ay (ctx0 w).p as fX∧li P m e as∧iH fX:=by
     intro c an;obtain⟨fX,h1,B⟩:=ad c (by omega);obtain⟨as,g1,bM,dh⟩:=OV m e n fX _ ak.2 B;exact⟨fX,as,h1,g1,bM,dh⟩
    have build: ∀ k,k≤len→ ∃ ah:List (List z),ah.length=k∧ ∀ (c:Nat) (v:List z),ah[c]? =some v→ ∃ fX,w.cells? base (a.add (c*P.cellsOf e)) (P.cellsOf e)=some fX∧ay (ctx0 w).p v fX∧li P m e v∧iH fX:=by
     intro k
     induction k with
     |zero=>intro _;exact⟨[],_root_.id rfl,fun c v ag=>by simp at ag⟩
     |succ k ih=>
      intro I;obtain⟨ah,h1,B⟩:=ih (by omega);obtain⟨fX,as,g1,bM,dh,gC⟩:=key k (by omega);refine⟨ah++ [as],by simp[h1],fun c v ag=> ?_⟩;rw[List.getElem?_append] at ag;split at ag
      ·exact B c v ag
      ·rename_i aC;have:c=k:=by
        rcases Nat.eq_or_lt_of_le (Nat.le_of_not_lt aC) with h|h
        ·omega
        ·rw[List.getElem?_eq_none (by simp;omega)] at ag;cases ag
       subst this;rw[h1,Nat.sub_self] at ag;simp at ag;subst ag;exact⟨fX,g1,bM,dh,gC⟩
    obtain⟨ah,v1,re⟩:=build len (Nat.le_refl _);have OW: ∀ {c:Nat} {fX:List Value},w.cells? base (a.add (c*P.cellsOf e)) (P.cellsOf e)=some fX→fX.length=P.cellsOf e∧ ∀ j,j < P.cellsOf e→w.cell? ((a.add (c*P.cellsOf e)).add j)=fX[j]? :=by
     intro c fX h;have:=World.cells?_some h;exact⟨this.2.1,this.2.2⟩
    refine⟨[.pure (P.cellsOf e) ah],?_,?_,FS _ (_root_.id rfl)⟩
    ·rw[ay];refine⟨_,[],_root_.id rfl,?_,by rw[ay]⟩;rw[Rep];refine⟨some a,cap,by rw[v1],by omega,?_⟩
     by_cases h0:len=0
     ·exact .inl (by omega)
     ·right
      obtain⟨b,L,spot⟩:=a;obtain⟨apF,apG⟩: ∃ v,ah[0]? =some v:=⟨_,List.getElem?_eq_getElem (by omega)⟩;obtain⟨aH5,c1,c2,c3,c4⟩:=re 0 apF apG;obtain⟨d1,kd⟩:=OW c1;have Ac:=kd 0 ak.1;rw[List.getElem?_eq_getElem (by omega)] at Ac;have IL:spot=none:=by simpa[Addr.add] using World.cell?_spot Ac
      subst IL;have kn: ∀ c j,((⟨b,L,none⟩:Addr).add c).add j=⟨b,L+c+j,none⟩:=by
       intro c j;have jI:=Go.WideShapes.add_plain;rw[jI,jI]
      rw[kn] at Ac;refine⟨b,L,_root_.id rfl,⟨World.block_lt_of_cell? w _ Ac,fun h=>h,fun i F G=>by simp[ctx0,bv.p] at G⟩,VJ ah L fun c v ag=> ?_⟩;obtain⟨fX,bF,bJ,it,qE⟩:=re c v ag;obtain⟨et,hO⟩:=OW bF;refine⟨by rw[←bJ.length,et],pM.2 ⟨fX,bJ,fun j u aT=> ?_,qE⟩⟩;have oY:j < P.cellsOf e:=by
       rw[←et];exact (List.getElem?_eq_some_iff.1 aT).1
      have:=hO j oY;rw[kn,aT] at this;exact this
    ·rw[li,aZ];refine⟨ah,_root_.id rfl,by omega,fun v ag=> ?_⟩;obtain⟨c,an⟩:=List.getElem?_of_mem ag;obtain⟨fX,bF,bJ,it,qE⟩:=re c v an;exact⟨by rw[←bJ.length,(OW bF).1],it⟩
  ·rename_i eU aZ;simp only[Bool.and_eq_true,List.all_eq_true] at ak;obtain⟨ai,n,aH6,_,hl,wn,apH⟩:=DataW.trod_struct aZ h;obtain⟨as,E3,Iv,t3⟩:=VH (P:=P) (C:=(ctx0 w).p) (aj:=aj) (iK:=fun f as=>li P m f.type as) hl eU.toList 0 ak.1 fun f hf=>by
    obtain⟨c,an⟩:=List.getElem?_of_mem hf;have Ch:=apH c f (by simpa using an);have apI:c < ai.length:=by
     rw[wn];have:=(List.getElem?_eq_some_iff.1 an).1;simpa using this
    rw[List.getElem?_eq_getElem apI] at Ch;obtain⟨as,g1,bM,dh⟩:=OV m f.type n _ _ (ak.2 f hf) Ch;exact⟨as,g1,bM,dh⟩
   rw[List.drop_zero] at E3 Iv;refine⟨as,E3,?_,Iv⟩;rw[li,aZ];refine⟨by rw[←E3.length,hl],fun f hf=> ?_⟩;simpa using t3 f hf
  ·cases ak
end
end Go.Abs
namespace Go.Abs
variable [dw]
open Go.WideShapes
def GotV (P:Program)(m:Nat)(t:TypeId)(a:z):Prop:= ∃ as,li P m t as∧match P.underlying t with
 |some (.struct _)=>a= .agg as
 |_=>as= [a]
theorem gotV_of {H:Type}{enc:TypeId×Value→H}{P:Program}{w:World}{base:Nat}{OT:Nat→Bool}{OU:Bool}{i:Reach}{b0:Nat}{t:TypeId}{v:Value}{o:DataW H}{p:List MemPlace}(m:Nat)
 (ak:AP P m t=true) (ag:Value.okWide P w i b0 t v) (h:DataW.Trod enc P w base OT OU t v o p): ∃ a,Rep (ctx0 w) a v∧GotV P m t a:=by
 obtain⟨hp,hf⟩:=h;obtain⟨as,h1,B,_⟩:=OV m t hp _ _ ak hf;have hP:=ay.nQ as _ h1;cases m with
 |zero=>simp[AP] at ak
 |succ m=>
  by_cases ce: ∃ eU,P.underlying t=some (.struct eU)
  ·obtain⟨eU,aZ⟩:=ce;obtain⟨aj,rfl,_⟩:=okWide_struct aZ ag;refine⟨.agg as,by rw[Rep];exact⟨aj,_root_.id rfl,hP⟩,as,B,?_⟩;rw[aZ]
  ·have key: ∃ a,as= [a]:=by
    have ao:=B;unfold li at ao;split at ao
    ·obtain⟨b,rfl⟩:=ao;exact⟨_,_root_.id rfl⟩
    ·obtain⟨n,rfl,_⟩:=ao;exact⟨_,_root_.id rfl⟩
    ·obtain⟨E,rfl,_⟩:=ao;exact⟨_,_root_.id rfl⟩
    ·obtain⟨ah,rfl,_⟩:=ao;exact⟨_,_root_.id rfl⟩
    ·rename_i eU aZ;exact (ce ⟨eU,aZ⟩).elim
    ·exact ao.elim
   obtain⟨a,rfl⟩:=key;have mR:v.cells.toList= [v]:=by
    have ao:=B;unfold li at ao;split at ao
    ·rename_i aZ;simp only[Value.okWide,aZ,Cell.okWide] at ag;cases v<;>simp_all [Cell.ok]<;>rfl
    ·rename_i k aZ;obtain⟨n,rfl⟩:=okWide_int aZ ag;rfl
    ·rename_i aZ;obtain⟨E,rfl⟩:=okWide_string aZ ag;rfl
    ·rename_i e aZ;obtain⟨a,len,cap,rfl⟩:=okWide_slice aZ ag;rfl
    ·rename_i eU aZ;exact (ce ⟨eU,aZ⟩).elim
    ·exact ao.elim
   rw[mR] at hP;rw[ay] at hP;obtain⟨u,bW,he,am,_⟩:=hP;simp at he;obtain⟨rfl,_⟩:=he;refine⟨a,am,[a],B,?_⟩;split
   ·rename_i eU aZ;exact (ce ⟨eU,aZ⟩).elim
   ·rfl
theorem gotV_int {P:Program}{m:Nat}{t:TypeId}{a:z}{k:IntKind}(aZ:P.underlying t=some (.int k))(h:GotV P (m+1) t a): ∃ n,a= .int k n∧k.min≤n∧n≤k.max:=by
 obtain⟨as,h1,B⟩:=h;rw[li,aZ] at h1;rw[aZ] at B;obtain⟨n,rfl,am⟩:=h1;simp at B;exact⟨n,B.symm,am⟩
theorem apJ {P:Program}{m:Nat}{t:TypeId}{as:List z}{k:IntKind}(aZ:P.underlying t=some (.int k))(h:li P (m+1) t as): ∃ n,as= [.int k n]∧k.min≤n∧n≤k.max:=by
 rw[li,aZ] at h;exact h
theorem apK {P:Program}{m:Nat}{t e:TypeId}{as:List z}(aZ:P.underlying t=some (.slice e))(h:li P (m+1) t as):
 ∃ ah,as= [.pure (P.cellsOf e) ah]∧ah.length≤maxLen∧ ∀ v∈ah,v.length=P.cellsOf e∧li P m e v:=by
 rw[li,aZ] at h;exact h
theorem apL {P:Program}{m:Nat}{t e:TypeId}{a:z}(aZ:P.underlying t=some (.slice e))(h:GotV P (m+1) t a):
 ∃ ah,a= .pure (P.cellsOf e) ah∧ah.length≤maxLen∧ ∀ v∈ah,v.length=P.cellsOf e∧li P m e v:=by
 obtain⟨as,h1,B⟩:=h;obtain⟨ah,rfl,am⟩:=apK aZ h1;rw[aZ] at B;simp at B;exact⟨ah,B.symm,am⟩
theorem OX {bd iF:Type}{f:iF→bd}{br:iF→Prop}: ∀ (l:List bd),(∀ x∈l,∃ y,x=f y∧br y)→ ∃ ys:List iF,l=ys.map f∧ ∀ y∈ys,br y
 | [],_=>⟨[],_root_.id rfl,by simp⟩
 |x::l,h=>by
  obtain⟨y,bl,aQ⟩:=h x (by simp);obtain⟨ys,h1,B⟩:=OX l fun D aS=>h D (by simp[aS]);refine⟨y::ys,by rw[bl,h1];rfl,fun D aS=> ?_⟩;rcases List.mem_cons.1 aS with rfl|aS
  ·exact aQ
  ·exact B D aS
theorem apM {P:Program}{m:Nat}{t e:TypeId}{a:z}{k:IntKind}(aZ:P.underlying t=some (.slice e))(he:P.underlying e=some (.int k))(V:P.cellsOf e=1)(h:GotV P (m+2) t a):
 ∃ l,a= .pure 1 (cC k l)∧l.length≤maxLen∧ ∀ n∈l,k.min≤n∧n≤k.max:=by
 obtain⟨ah,rfl,h1,B⟩:=apL aZ h;obtain⟨l,rfl,am⟩:=OX (f:=fun n:Int=> [z.int k n]) ah fun v ag=>apJ he (B v ag).2;exact⟨l,by rw[V];rfl,by simpa using h1,am⟩
theorem gotV_tape {P:Program}{m:Nat}{t e:TypeId}{a:z}(aZ:P.underlying t=some (.slice e))(he:P.underlying e=some (.int .i64))(V:P.cellsOf e=1)(h:GotV P (m+2) t a):
 ∃ l,a= .pure 1 (cC .i64 l)∧kx l:=by
 obtain⟨l,rfl,h1,B⟩:=apM aZ he V h;exact⟨l,_root_.id rfl,apw (_root_.id rfl) h1 B⟩
end Go.Abs
namespace Go.Abs
variable [dw]
def ey (P:Program)(aX:Nat):fW→nx→aJ→List R→Prop
 | .seq a b,K,r,d=>ey P aX a ⟨s aX (ey P aX b K),K.x,K.i⟩ r d
 | .cond F a b,K,r,d=>qB (F.aI r) (ey P aX a K r d) (ey P aX b K r d)
 | .block id F,K,r,d=>ey P aX F ⟨K.n,fun j=>if j=id then K.n else K.x j,K.i⟩ r d
 | .loop F,K,r,d=> ∃ (hq:aJ→List R→Prop) (iJ:aJ→List R→Nat),s aX hq r d∧
  ∀ r d,hq r d→ey P aX F ⟨s aX fun fe bY=>hq fe bY∧iJ fe bY < iJ r d,K.x,K.i⟩ r d
 | .skip,K,r,d=>K.n r d
 | .region bj aa,K,r,d=>eX P aX (.region bj aa) K r d
 | .su bj ff aa,K,r,d=>eX P aX (.su bj ff aa) K r d
 | .exit id,K,r,d=>K.x id r d
 | .ret,K,r,d=>K.i r d
theorem wM {P:Program}{aX:Nat}: ∀ (F:fW) {K aF:nx} {r:aJ} {d:List R},(∀ e i,K.n e i→aF.n e i)→(∀ j e i,K.x j e i→aF.x j e i)→(∀ e i,K.i e i→aF.i e i)→ey P aX F K r d→ey P aX F aF r d
 | .skip,_,_,_,_,h1,_,_,h=>h1 _ _ h
 | .region _ _,_,_,_,_,h1,_,_,h=>OQ (fun _ _=>h1 _ _) h
 | .su _ _ _,_,_,_,_,h1,_,_,h=>JA h1 h
 | .seq a b,K,aF,_,_,h1,B,am,h=>by
  rw[ey] at h ⊢;exact wM a (K:=⟨s aX (ey P aX b K),K.x,K.i⟩) (aF:=⟨s aX (ey P aX b aF),aF.x,aF.i⟩) (fun _ _=>s.mono fun _ _=>wM b h1 B am) B am h
 | .cond F a b,K,aF,r,d,h1,B,am,h=>by
  rw[ey] at h ⊢;unfold qB at h ⊢;split
  ·rename_i eu Z;rw[Z] at h;exact⟨fun e=>wM a h1 B am (h.1 e),fun e=>wM b h1 B am (h.2 e)⟩
  ·rename_i hne;split at h
   ·rename_i eu Z;exact (hne eu Z).elim
   ·exact h
 | .block id F,K,aF,r,d,h1,B,am,h=>by
  rw[ey] at h ⊢;refine wM F (K:=⟨K.n,fun j=>if j=id then K.n else K.x j,K.i⟩) (aF:=⟨aF.n,fun j=>if j=id then aF.n else aF.x j,aF.i⟩) h1 (fun j e i ad=> ?_) am h
  by_cases aT:j=id
  ·simp only[aT,if_true] at ad ⊢;exact h1 _ _ ad
  ·simp only[aT,if_false] at ad ⊢;exact B _ _ _ ad
 | .loop F,K,aF,r,d,h1,B,am,h=>by
  rw[ey] at h ⊢;obtain⟨hq,iJ,g1,bM⟩:=h;exact⟨hq,iJ,g1,fun e i an=>wM F (K:=⟨s aX fun fe bY=>hq fe bY∧iJ fe bY < iJ e i,K.x,K.i⟩) (fun _ _ ad=>ad) B am (bM e i an)⟩
 | .exit id,_,_,_,_,_,B,_,h=>by rw[ey] at h ⊢;exact B _ _ _ h
 | .ret,_,_,_,_,_,_,am,h=>by rw[ey] at h ⊢;exact am _ _ h
section
variable {P:Program} {n aX:Nat} {fw:bv} [uM fw] {aa:Nat→oU}
theorem AQ: ∀ (F:Code) (dq:fW),gw P n aa F=some dq→ ∀ (K:nx) (a:Act) (w:World),Holds n aX fw (ey P aX dq K) a w→F.wp P (Jg n aX fw K) a w
 | .skip,dq,V,K,a,w,h=>uU .skip dq V K a w (by simp[gw] at V;subst V;exact h)
 | .region id bj false,dq,V,K,a,w,h=>by
  have ky:=V;simp only[gw] at ky;split at ky
  ·simp at ky;subst ky;exact uU _ _ V K a w h
  ·cases ky
 | .region id bj true,dq,V,K,a,w,h=>by
  have ky:=V;simp only[gw] at ky;split at ky
  ·obtain⟨dD,ky⟩:=UQ ky;unfold Fz at ky;split at ky
   ·simp at ky;subst ky;exact uU _ _ V K a w h
   ·cases ky
  ·cases ky
 | .seq x y,dq,V,K,a,w,h=>by
  simp only[gw] at V;split at V
  ·rename_i iU wE ad bl;simp at V;subst V;refine wp_seq (wp_mono (AQ x iU ad ⟨s aX (ey P aX wE K),K.x,K.i⟩ a w h) ?_);intro e kL w' aQ;cases e with
   |normal=>exact AQ y wE bl K kL w' (FA aQ)
   |exit id=>exact aQ
   |ret=>exact aQ
   |goto l=>exact aQ
   |panic cK=>exact aQ
   |outgrown=>exact aQ
  ·cases V
 | .cond F x y,dq,V,K,a,w,h=>by
  simp only[gw] at V;split at V
  ·rename_i L iU wE bi ad bl;simp at V;subst V;obtain⟨r,C,rfl,ak,hl,I⟩:=h;have G:=NZ ak bi;simp only[ey,qB] at I;split at I
   ·rename_i b Z;rw[Z,Rep] at G;refine wp_cond G ?_;cases b with
    |true=>exact AQ x iU ad K a C.w ⟨r,C,rfl,ak,hl,I.1 rfl⟩
    |false=>exact AQ y wE bl K a C.w ⟨r,C,rfl,ak,hl,I.2 rfl⟩
   ·exact I.elim
  ·cases V
 | .block id x,dq,V,K,a,w,h=>by
  simp only[gw] at V;split at V
  ·rename_i iU ad;simp at V;subst V;refine wp_block (wp_mono (AQ x iU ad _ a w h) ?_);intro e kL w' aQ;cases e with
   |normal=>exact aQ
   |exit j=>
    simp only[Exit.inBlock];simp only[Jg] at aQ;split
    ·rename_i aT;rw[if_pos aT] at aQ;exact aQ
    ·rename_i aT;rw[if_neg aT] at aQ;exact aQ
   |ret=>exact aQ
   |goto l=>exact aQ
   |panic cK=>exact aQ
   |outgrown=>exact aQ
  ·cases V
 | .loop x,dq,V,K,a,w,h=>by
  simp only[gw] at V;split at V
  ·rename_i iU ad;simp at V;subst V;obtain⟨r,C,rfl,ak,hl,hq,iJ,h0,N8⟩:=h;obtain⟨FB,Ax,cW,kN,jv,uV⟩:=FA ⟨r,C,rfl,ak,hl,h0⟩;rw[←cW];refine wp_loop_ghost (fun m a w=>Holds n aX fw (fun r d=>hq r d∧iJ r d=m) a w) (iJ FB Ax.d) ⟨FB,Ax,rfl,kN,jv,uV,rfl⟩ ?_;rintro m kL w' ⟨FC,wv,rfl,uW,kO,AE,rfl⟩;refine wp_mono (AQ x iU ad _ kL wv.w ⟨FC,wv,rfl,uW,kO,N8 FC wv.d AE⟩) ?_;intro e a3 oV aQ;cases e with
   |normal=>
    obtain⟨FD,FE,rfl,uX,rz,N9,aC⟩:=FA aQ;exact⟨iJ FD FE.d,aC,FD,FE,rfl,uX,rz,N9,rfl⟩
   |exit j=>exact aQ
   |ret=>exact aQ
   |goto l=>exact aQ
   |panic cK=>exact aQ
   |outgrown=>exact aQ
  ·cases V
 | .exit id,dq,V,K,a,w,h=>by
  simp[gw] at V;subst V;exact wp_exit h
 | .ret,dq,V,K,a,w,h=>by
  simp[gw] at V;subst V;exact wp_ret h
 | .rangeFunc ..,dq,V,K,a,w,h=>by simp[gw] at V
 | .scope ..,dq,V,K,a,w,h=>by simp[gw] at V
 | .label ..,dq,V,K,a,w,h=>by simp[gw] at V
 | .goto ..,dq,V,K,a,w,h=>by simp[gw] at V
 | .refuse ..,dq,V,K,a,w,h=>by simp[gw] at V
end
theorem apN {P:Program}{f:FuncId}{fn:Func}{aa:Nat→oU}{aA:aH}(hf:P.funcs[f]? =some fn)(V:wF P aa fn=some aA){args:List z}{d:List R}{br:z→List R→Prop}
 (aB:args.length≤aA.ntmps) (h:ey P d.length aA.body ⟨fun r rs=>mj rs r aA.results fun vs=>s d.length (fun fe gX=>br (bn fe 0) gX) [(0,lE vs)] rs,fun _ _ _=>False,fun r rs=>mj rs r aA.results fun vs=>s d.length (fun fe gX=>br (bn fe 0) gX) [(0,lE vs)] rs⟩ (qC args 0) d):aK P f args d br:=by
 intro C du G ar hG dk
 haveI:uM C:=⟨hG⟩
 subst G;unfold wF at V;split at V
 ·rename_i F Z;split at V
  ·rename_i dq rs sx wG;simp at V;subst V;have cB:=dk.length;have dt: (du.toArray++Array.replicate (fn.ntmps-du.toArray.size) undef).size=fn.ntmps:=by
    have FH:args.length≤fn.ntmps:=aB;simp;omega
   refine calls_of_wp hf Z (wp_mono (AQ (fw:=C) F dq sx _ _ C.w ⟨_,C,rfl,⟨ar,dt,rfl,fun t=> ?_⟩,cd.refl C,h⟩) ?_)
   ·have:=Oa args du 0 t dk (Nat.zero_le _);rw[Nat.sub_zero] at this;have e: (du.toArray++Array.replicate (fn.ntmps-du.toArray.size) undef).getD t undef=du.getD t undef:=by
     simp only[Array.getD_eq_getD_getElem?,Array.getElem?_append,List.size_toArray,List.getElem?_toArray,List.getD_eq_getElem?_getD];split
     ·rfl
     ·rename_i aC;rw[List.getElem?_eq_none (by omega)];simp only[Array.getElem?_replicate];split<;>rfl
    rw[e];exact this
   ·intro e kL w' aQ;have bb:Holds fn.ntmps C.d.length C (fun r gX=>mj gX r rs fun vs=>s C.d.length (fun fe gX=>br (bn fe 0) gX) [(0,lE vs)] gX) kL w'→
     kL.defers= []∧ ∃ v,(results fn kL.tmps).run P w'= .ok v w'∧ ∃ aV gq av,Ending.returned v= .returned aV∧av.w=w'∧Rep av gq aV∧cb av∧cd C.d.length C av∧br gq av.d:=by
     rintro⟨r,ax,rfl,ak,hl,I⟩;refine⟨ak.defers,?_⟩;obtain⟨vs,as,h1,B,am⟩:=FG ak fn.results.toList rs _ wG I;have hval: ∃ aV,(results fn kL.tmps).run P ax.w= .ok aV ax.w∧Rep ax (lE as) aV:=by
      have hm: (fn.results.mapM (m:=Sem) (AF kL.tmps)).run P ax.w= .ok vs.toArray ax.w:=by
       rw[Array.mapM_eq_mapM_toList];simp only[Sem.run_map,h1,Result.andThen_ok]
      rw[UY];simp only[Sem.run_bind,hm,Result.andThen_ok,Sem.run_pure];refine⟨_,rfl,?_⟩;cases as with
      |nil=>
       have jJ:vs= []:=by rw[ay] at B;exact B
       subst jJ;simp only[lE];rw[Rep];exact⟨#[],by simp,by simp[ay]⟩
      |cons x ai=>
       cases ai with
       |nil=>
        rw[ay] at B;obtain⟨v,bW,rfl,bp,cn⟩:=B;rw[ay] at cn;subst cn;simpa[lE] using bp
       |cons y ys=>
        have kO:=B.length;simp only[lE];rw[Rep];refine⟨vs.toArray,?_,by simpa using B⟩;rw[dif_neg (by simp at kO ⊢;omega)]
     obtain⟨aV,r1,cO⟩:=hval;refine⟨aV,r1,?_⟩;obtain⟨fe,bY,aR,AG⟩:=am;have FI:sr 1 [(0,lE as)] ax ⟨#[aV],[]⟩:=by
      refine⟨ak.ok,rfl,rfl,fun t=> ?_⟩;simp only[bn];split
      ·rename_i ht;subst ht;simpa using cO
      ·simp[Rep]
     obtain⟨AH,d1,kd,uY,yr⟩:=I0 aR ax rfl FI hl;refine⟨aV,bn fe 0,AH,rfl,d1,?_,uY.ok,yr,by rw[kd];exact AG⟩;simpa using uY.iY 0
    cases e with
    |normal=>exact bb aQ
    |ret=>exact bb aQ
    |exit id=>obtain⟨_,_,_,_,_,I⟩:=aQ;exact I.elim
    |goto l=>exact aQ.elim
    |panic cK=>exact aQ.elim
    |outgrown=>exact aQ.elim
  ·cases V
 ·cases V
theorem hr {P:Program}{f:FuncId}{fn:Func}{aa:Nat→oU}{aA:aH}(hf:P.funcs[f]? =some fn)(V:wF P aa fn=some aA){args:List z}{d:List R}{br:z→List R→Prop}
 (aB:args.length≤aA.ntmps) (h:ey P d.length aA.body ⟨nz d.length br [] aA.results,Ow,nz d.length br [] aA.results⟩ (qC args 0) d):aK P f args d br:=
 apN hf V aB h
def AR (P:Program)(aX:Nat)(v:z)(a b:fW)(K:nx)(r:aJ)(d:List R):Prop:=qB v (ey P aX a K r d) (ey P aX b K r d)
section
variable {P:Program} {aX:Nat} {K:nx} {r:aJ} {d:List R}
theorem apO:ey P aX .skip K r d=K.n r d:=_root_.id rfl
theorem apP {bj:List dJ}{aa:List Nat}:ey P aX (.region bj aa) K r d=AI P bj aa K.n r d:=_root_.id rfl
theorem apQ {bj:List (Nat×eQ)}{ff:List (TypeId×Nat)}{aa:List Nat}:ey P aX (.su bj ff aa) K r d=OK P bj ff aa K.n d.length r d:=_root_.id rfl
theorem VK {a b:fW}:ey P aX (.seq a b) K r d=ey P aX a ⟨s aX (ey P aX b K),K.x,K.i⟩ r d:=_root_.id rfl
theorem apR {F:bc}{a b:fW}:ey P aX (.cond F a b) K r d=AR P aX (F.aI r) a b K r d:=_root_.id rfl
theorem apS {id:Nat}{F:fW}:ey P aX (.block id F) K r d=ey P aX F ⟨K.n,FJ id K,K.i⟩ r d:=by
 rw[ey];congr 1;congr 1;funext j r d;unfold FJ;split<;>rfl
theorem apT {id:Nat}:ey P aX (.exit id) K r d=K.x id r d:=_root_.id rfl
theorem apU:ey P aX .ret K r d=K.i r d:=_root_.id rfl
theorem apV {a b:fW}:AR P aX (.bool true) a b K r d=ey P aX a K r d:=by simp[AR,qB]
theorem apW {a b:fW}:AR P aX (.bool false) a b K r d=ey P aX b K r d:=by simp[AR,qB]
theorem dg {b:Bool}{x y:fW}(h1:b=true→ey P aX x K r d)(B:b=false→ey P aX y K r d):AR P aX (.bool b) x y K r d:=⟨h1,B⟩
theorem gY {F:fW}(hq:aJ→List R→Prop)(iJ:aJ→List R→Nat)(h0:s aX hq r d)
 (h: ∀ r d,hq r d→ey P aX F ⟨s aX fun fe bY=>hq fe bY∧iJ fe bY < iJ r d,K.x,K.i⟩ r d):ey P aX (.loop F) K r d:=⟨hq,iJ,h0,h⟩
theorem apX {b:Bool}{x y:fW}(az:aJ→List R→Prop)(h1:b=true→ey P aX x ⟨az,K.x,K.i⟩ r d)(B:b=false→ey P aX y ⟨az,K.x,K.i⟩ r d)
 (cU: ∀ e i,az e i→K.n e i):AR P aX (.bool b) x y K r d:=
 ⟨fun Z=>wM x (K:=⟨az,K.x,K.i⟩) cU (fun _ _ _ ad=>ad) (fun _ _ ad=>ad) (h1 Z),fun Z=>wM y (K:=⟨az,K.x,K.i⟩) cU (fun _ _ _ ad=>ad) (fun _ _ ad=>ad) (B Z)⟩
end
attribute [go_sem] apO apP apQ VK apR apS apT apU apV apW
theorem s.kc {aX:Nat}{K:aJ→List R→Prop}{r:aJ}{d srows:List R}(ap:List (Option Nat))(bk:List Nat)(h1:wJ ap=true)(B:va aX 0 ap=true)(ao:ew d bk ap ap=some srows)
 (h:s aX K (r.map fun p=>(p.1,bU d ap bk p.2)) srows):s aX K r d:=s.kb ap bk h1 B ao h
end Go.Abs
namespace Go.Abs
variable [dw]
theorem OY: ∀ {a b:List (List z)},eg (a++b)=(eg a&&eg b)
 | [],b=>by simp[eg]
 |e::a,b=>by simp only[List.cons_append,eg,OY,Bool.and_assoc]
theorem OZ {d:List R}{ap:List (Option Nat)}{bk:List Nat}: ∀ {al:List (List z)},eg al=true→al.map (dV d ap bk)=al
 | [],_=>_root_.id rfl
 |e::al,h=>by
  simp only[eg,Bool.and_eq_true] at h;rw[List.map_cons,pN e h.1,OZ h.2]
theorem JC {d:List R}{ap:List (Option Nat)}{bk:List Nat}{al:List (List z)}:lD d ap bk al=al.map (dV d ap bk):=by
 unfold lD;split
 ·rename_i h;rw[OZ h]
 ·rfl
theorem apY {bd:Type}[aG bd]{d:List R}{ap:List (Option Nat)}{bk:List Nat}{l:List bd}{x:List z}:lD d ap bk (ac l++ [x])=ac l++ [dV d ap bk x]:=by
 rw[JC,List.map_append,OZ cw];rfl
theorem apZ {bd:Type}[aG bd]{d:List R}{ap:List (Option Nat)}{bk:List Nat}{l:List bd}{x:List z}:
 (if eg (ac l++ [x])=true then ac l++ [x] else (ac l++ [x]).map (dV d ap bk))=ac l++ [dV d ap bk x]:=apY
attribute [go_sem] apZ
theorem pO {d:List R}{ap:List (Option Nat)}{bk:List Nat}{i n:Nat}{e:TypeId}{N:Nat}{ah:List (List z)}(ak:hR ap i=none)(ag:bk.contains i=true)(G:d[i]? =some (.aa e N ah))(aB:n=ah.length)(V:eg ah=true):
 bU d ap bk (.own i n 0 n)= .pure N ah:=by
 rw[bU];simp only[ak,ag,if_true,G];rw[if_pos ⟨aB,by omega,V⟩,List.drop_zero,aB,List.take_length]
end Go.Abs
namespace Go.Abs
variable [dw]
end Go.Abs
namespace Go.Abs
variable [dw]
theorem aK.args {P:Program}{f:FuncId}{args args':List z}{d:List R}{br:z→List R→Prop}(G: ∀ (C:bv) (vs:List Value),ay C args' vs→ay C args vs)(h:aK P f args d br):aK P f args' d br:=
 fun C du h1 B hG am=>h C du h1 B hG (G C du am)
theorem aqa {C:bv}{N:Nat}{v:Value}(h:Rep C .bD v):Rep C (.pure N []) v:=by
 have cJ: ∃ ct,v= .slice ct 0 0:=by simpa[Rep] using h
 obtain⟨ct,rfl⟩:=cJ;rw[Rep];exact⟨ct,0,_root_.id rfl,by simp,.inl (_root_.id rfl)⟩
mutual
def le:z→z→Prop
 | .bD,.pure _ ah=>ah= []
 | .agg as,.agg dc=>hs as dc
 | .bg as,.bg dc=>hs as dc
 |a,b=>a=b
def hs:List z→List z→Prop
 |a::as,b::dc=>le a b∧hs as dc
 | [],[]=>True
 |_,_=>False
end
theorem le_refl (a:z): (∀ as,a≠ .agg as)→(∀ as,a≠ .bg as)→le a a:=by
 intro h1 B;cases a with
 |agg as=>exact absurd (_root_.id rfl) (h1 as)
 |bg as=>exact absurd (_root_.id rfl) (B as)
 |_=>simp[le]
mutual
theorem VL {C:bv}: ∀ (a b:z) (v:Value),le a b→Rep C a v→Rep C b v
 | .agg as,.agg dc,v,h,i=>by
  rw[le] at h;rw[Rep] at i ⊢;obtain⟨vs,rfl,G⟩:=i;exact⟨vs,_root_.id rfl,JD as dc _ h G⟩
 | .bg as,.bg dc,v,h,i=>by
  rw[le] at h;rw[Rep] at i ⊢;obtain⟨vs,rfl,G⟩:=i;exact⟨vs,_root_.id rfl,JD as dc _ h G⟩
 | .bD,.pure N ah,v,h,i=>by
  rw[le] at h;subst h;exact aqa i
 | .int ..,b,v,h,i=>by simp[le] at h;subst h;exact i
 | .bool ..,b,v,h,i=>by simp[le] at h;subst h;exact i
 | .str ..,b,v,h,i=>by simp[le] at h;subst h;exact i
 | .pure ..,b,v,h,i=>by simp[le] at h;subst h;exact i
 | .own ..,b,v,h,i=>by simp[le] at h;subst h;exact i
 | .aW ..,b,v,h,i=>by simp[le] at h;subst h;exact i
 | .eb ..,b,v,h,i=>by simp[le] at h;subst h;exact i
 | .jW,b,v,h,i=>by simp[le] at h;subst h;exact i
 | .cc,b,v,h,i=>by simp[le] at h;subst h;exact i
 | .bD,.bD,v,h,i=>i
 | .bD,.int ..,v,h,i=>by simp[le] at h
 | .bD,.bool ..,v,h,i=>by simp[le] at h
 | .bD,.str ..,v,h,i=>by simp[le] at h
 | .bD,.agg ..,v,h,i=>by simp[le] at h
 | .bD,.bg ..,v,h,i=>by simp[le] at h
 | .bD,.own ..,v,h,i=>by simp[le] at h
 | .bD,.aW ..,v,h,i=>by simp[le] at h
 | .bD,.eb ..,v,h,i=>by simp[le] at h
 | .bD,.jW,v,h,i=>by simp[le] at h
 | .bD,.cc,v,h,i=>by simp[le] at h
 | .agg as,.int ..,v,h,i=>by simp[le] at h
 | .agg as,.bool ..,v,h,i=>by simp[le] at h
 | .agg as,.str ..,v,h,i=>by simp[le] at h
 | .agg as,.bg ..,v,h,i=>by simp[le] at h
 | .agg as,.own ..,v,h,i=>by simp[le] at h
 | .agg as,.aW ..,v,h,i=>by simp[le] at h
 | .agg as,.eb ..,v,h,i=>by simp[le] at h
 | .agg as,.jW,v,h,i=>by simp[le] at h
 | .agg as,.cc,v,h,i=>by simp[le] at h
 | .agg as,.bD,v,h,i=>by simp[le] at h
 | .agg as,.pure ..,v,h,i=>by simp[le] at h
 | .bg as,.int ..,v,h,i=>by simp[le] at h
 | .bg as,.bool ..,v,h,i=>by simp[le] at h
 | .bg as,.str ..,v,h,i=>by simp[le] at h
 | .bg as,.agg ..,v,h,i=>by simp[le] at h
 | .bg as,.own ..,v,h,i=>by simp[le] at h
 | .bg as,.aW ..,v,h,i=>by simp[le] at h
 | .bg as,.eb ..,v,h,i=>by simp[le] at h
 | .bg as,.jW,v,h,i=>by simp[le] at h
 | .bg as,.cc,v,h,i=>by simp[le] at h
 | .bg as,.bD,v,h,i=>by simp[le] at h
 | .bg as,.pure ..,v,h,i=>by simp[le] at h
 | .fn ..,b,v,h,i=>by simp[le] at h;subst h;exact i
 | .bu ..,b,v,h,i=>by simp[le] at h;subst h;exact i
 | .km,b,v,h,i=>by simp[le] at h;subst h;exact i
 | .fG ..,b,v,h,i=>by simp[le] at h;subst h;exact i
 | .bD,.fn ..,v,h,i=>by simp[le] at h
 | .bD,.bu ..,v,h,i=>by simp[le] at h
 | .bD,.km,v,h,i=>by simp[le] at h
 | .bD,.fG ..,v,h,i=>by simp[le] at h
 | .agg as,.fn ..,v,h,i=>by simp[le] at h
 | .agg as,.bu ..,v,h,i=>by simp[le] at h
 | .agg as,.km,v,h,i=>by simp[le] at h
 | .agg as,.fG ..,v,h,i=>by simp[le] at h
 | .bg as,.fn ..,v,h,i=>by simp[le] at h
 | .bg as,.bu ..,v,h,i=>by simp[le] at h
 | .bg as,.km,v,h,i=>by simp[le] at h
 | .bg as,.fG ..,v,h,i=>by simp[le] at h
theorem JD {C:bv}: ∀ (as dc:List z) (vs:List Value),hs as dc→ay C as vs→ay C dc vs
 | [],[],vs,_,i=>i
 |a::as,b::dc,vs,h,i=>by
  rw[hs] at h;rw[ay] at i ⊢;obtain⟨v,bW,rfl,h1,B⟩:=i;exact⟨v,bW,_root_.id rfl,VL a b v h.1 h1,JD as dc bW h.2 B⟩
 | [],_::_,vs,h,_=>by simp[hs] at h
 |_::_,[],vs,h,_=>by simp[hs] at h
end
theorem aK.le {P:Program}{f:FuncId}{args args':List z}{d:List R}{br:z→List R→Prop}(h:aK P f args d br)(G:hs args' args):aK P f args' d br:=
 h.args fun _ vs=>JD args' args vs G
end Go.Abs
namespace Go.Abs
open Go.RowKit (Below)
variable [dw]
theorem O0 {C:bv}{w':World}(h:cb C)(Z:Below C.w.heap.size C.w w')(aq:Dr.o→C.w.drawn≤w'.drawn):cb {C with w:=w'}∧cd C.d.length C {C with w:=w'}:=by
 have later:cd C.d.length C {C with w:=w'}:=
  ⟨Z.os,Z.tape,Z.output,Z.size,fun b hl _=>Z.block b hl,fun i _ F h=> .inl ⟨i,F,h⟩,_root_.id rfl,_root_.id rfl,Nat.le_refl _,fun _ _ _ ah _ h=>⟨ah,h,Nat.le_refl _,fun _=>_root_.id rfl⟩,fun _ L _ h=>⟨L,h,_root_.id rfl⟩,aq⟩
 refine⟨⟨h.bT,h.dm,fun i bz G=> ?_,h.inj,fun b hl=>Nat.lt_of_lt_of_le (h.bS b hl) Z.size⟩,later⟩;exact dA.move later.ext (_root_.id rfl) (_root_.id rfl) (fun b F hl=>Z.block b (h.lt hl)) (h.d i bz G)
theorem aK.FT {P:Program}{f:FuncId}{args:List z}{d:List R}{br:z→List R→Prop}
 (h: ∀ (C:bv) (du:List Value),C.d=d→cb C→GOk C→ay C args du→Calls P f du.toArray C.w fun e w'=> ∃ aV v,e= .returned aV∧(Below C.w.heap.size C.w w'∧C.w.drawn≤w'.drawn)∧(∀ av:bv,jo C av→Rep av v aV)∧br v d):aK P f args d br:=by
 intro C du G ar hG dk;refine (h C du G ar hG dk).mono ?_;rintro e w' ⟨aV,v,rfl,⟨Z,aq⟩,ag,aQ⟩;obtain⟨h1,B⟩:=O0 ar Z (fun _=>aq);subst G;exact⟨aV,v,_,_root_.id rfl,_root_.id rfl,ag _ B.ext,h1,B,aQ⟩
theorem aK.JE {P:Program}{f:FuncId}{args:List z}{d:List R}{br:z→List R→Prop}(h0: ¬Dr.o)
 (h: ∀ (C:bv) (du:List Value),C.d=d→cb C→GOk C→ay C args du→Calls P f du.toArray C.w fun e w'=> ∃ aV v,e= .returned aV∧Below C.w.heap.size C.w w'∧(cb {C with w:=w'}→Rep {C with w:=w'} v aV)∧br v d):aK P f args d br:=by
 intro C du G ar hG dk;refine (h C du G ar hG dk).mono ?_;rintro e w' ⟨aV,v,rfl,Z,ag,aQ⟩;obtain⟨h1,B⟩:=O0 ar Z (fun o=>absurd o h0);subst G;exact⟨aV,v,_,_root_.id rfl,_root_.id rfl,ag h1,h1,B,aQ⟩
end Go.Abs
namespace Go.Abs
open Go.Sort
variable [dw]
theorem AS {C:bv}: ∀ {bQ:List Int} {vs:List Value},ay C (cC .i64 bQ).flatten vs→vs=bQ.map (Value.int .i64)
 | [],vs,h=>by simpa[cC,ay] using h
 |D::bQ,vs,h=>by
  have cJ:ay C (.int .i64 D::(cC .i64 bQ).flatten) vs:=h;rw[ay] at cJ;obtain⟨v,bW,rfl,h1,B⟩:=cJ;rw[Rep] at h1;rw[h1,AS B];rfl
theorem VM {C:bv}: ∀ (bQ:List Int),ay C (cC .i64 bQ).flatten (bQ.map (Value.int .i64))
 | []=>by simp[cC,ay]
 |D::bQ=>by
  show ay C (.int .i64 D::(cC .i64 bQ).flatten) (Value.int .i64 D::bQ.map (Value.int .i64));rw[ay];exact⟨_,_,_root_.id rfl,by rw[Rep],VM bQ⟩
theorem aqb {C:bv}(bQ:List Int):fj C 1 (cC .i64 bQ) (bQ.map (Value.int .i64)):=by
 refine⟨?_,VM bQ,?_⟩
 ·intro e he;simp only[cC,List.mem_map] at he;obtain⟨D,_,rfl⟩:=he;rfl
 ·intro v ag;simp only[List.mem_map] at ag;obtain⟨D,_,rfl⟩:=ag;rfl
theorem aK.VN {P:Program}{f:FuncId}{aP:TypeId}{bQ jM:List Int}(aV:Nat→Nat→Value)(v:z)(cB:jM.length=bQ.length)(ip:0 < bQ.length)
 (hV: ∀ (C:bv) (b F:Nat),C.bT=false→C.d= [.aa aP 1 (cC .i64 jM)]→C.bm[0]? =some (some (b,F))→jM.length≤F→Rep C v (aV b F))
 (h: ∀ (w:World) (mn cap:Nat),Go.Sort.Holds (Value.int .i64) w mn 0 bQ.toArray→mn < w.heap.size→bQ.length≤cap→Calls P f #[.slice (some ⟨mn,0,none⟩) bQ.length cap] w fun e w'=>
  e= .returned (aV mn cap)∧ ∃ n os,w'=grow (putRow (Value.int .i64) (Sort.ahead w n) mn 0 jM.toArray) os):
 aK P f [.own 0 bQ.length 0 bQ.length] [.aa aP 1 (cC .i64 bQ)] (fun gq rs=>gq=v∧rs= [.aa aP 1 (cC .i64 jM)]):=by
 intro C du G ar hG dk;rw[ay] at dk;obtain⟨v0,bW,rfl,ag,aB⟩:=dk;rw[ay] at aB;subst aB;have hM:C.d[0]? =some (.aa aP 1 (cC .i64 bQ)):=by rw[G];rfl
 rcases ar.aa hM with ⟨_,h0⟩|⟨b,cap,aj,ae,wO,lF,es,tA,ed,cY⟩
 ·have:=mm (k:= .i64) (l:=bQ);rw[h0] at this;simp at this;omega
 rw[Rep] at ag;obtain⟨gV,_,_,ag⟩:=ag;obtain⟨_,ag⟩:=ag _ _ _ hM;obtain⟨_,p,hC,ag⟩:=ag (by simp[cC]);obtain rfl:=Option.some.inj (ae.symm.trans hC);obtain⟨a,F,rfl,_,AN,CO,O7,_⟩:=ag;obtain⟨aqc,rfl⟩:=O7 rfl;have O8:a=⟨b,0,none⟩:=by cases a;simp_all
 subst O8;obtain⟨vs,iV,nT⟩:=cY.sm;have jz:=AS iV.ks;subst jz;have so:b < C.w.heap.size:=(Array.getElem?_eq_some_iff.1 lF).1;have oE:=Fd lF nT;have rB:Go.Sort.Holds (Value.int .i64) C.w b 0 bQ.toArray:=by
  intro j aT;have nA:j < bQ.length:=by simpa using aT
  have V:aj[j]? =some (Value.int .i64 bQ[j]):=by
   have:=congrArg (fun l:List Value=>l[j]?) oE;simpa[List.getElem?_take,nA] using this
  refine⟨?_,?_⟩
  ·unfold World.cell?;simp[lF,V,nA]
  ·unfold World.frozen?;simp[lF]
 refine (h C.w b F rB so (by simpa[cC] using ed)).mono ?_;rintro e w' ⟨rfl,n,os,rfl⟩;have JF: (grow (putRow (Value.int .i64) (Sort.ahead C.w n) b 0 jM.toArray) os).heap[b]? =some (.cells (putCells (Value.int .i64) 0 jM.toArray aj) aP (0,0)):=by
  unfold grow putRow mapBlock;show (((C.w.heap.modify b (onCells (putCells (Value.int .i64) 0 jM.toArray))))++os)[b]? =_;rw[Array.getElem?_append_left (by simpa using so),Array.getElem?_modify];simp[lF,onCells]
 have dt: (putCells (Value.int .i64) 0 jM.toArray aj).size=F*1:=by unfold putCells;simpa using es
 have gB:bQ.length≤aj.size:=by rw[es];simpa[cC] using ed
 have ht: (putCells (Value.int .i64) 0 jM.toArray aj).toList.take (jM.map (Value.int .i64)).length=jM.map (Value.int .i64):=by
  apply List.ext_getElem?;intro c
  by_cases an:c < jM.length
  ·have O9:c < aj.size:=by omega
   simp only[List.length_map,List.getElem?_take,if_pos an,Array.getElem?_toList,putCells,Array.getElem?_mapIdx,Array.getElem?_eq_getElem O9,Option.map_some,List.getElem?_map,List.getElem?_eq_getElem an];simp[an]
  ·rw[List.getElem?_eq_none (by simp;omega),List.getElem?_eq_none (by simpa using an)]
 obtain⟨h1,B⟩:=ya ar hM ae b F (putCells (Value.int .i64) 0 jM.toArray aj) (cC .i64 jM) (jM.map (Value.int .i64)) _ (grownBy_sortedI (n:=n) (os:=os) jM.toArray) (.inl rfl) JF dt tA
  (by simpa[cC,cB] using ed) (aqb jM) ht (by simp[cC,cB]) (fun _=>rfl) (Nat.le_add_right _ _)
 refine⟨_,v,_,rfl,rfl,?_,h1,?_,rfl,?_⟩
 ·refine hV _ b F gV (by rw[G];rfl) ?_ (by simpa[cC,cB] using ed);have hl:0 < C.bm.length:=(List.getElem?_eq_some_iff.1 ae).1;simp[hl]
 ·rw[G] at B ⊢;exact B
 ·rw[G];rfl
theorem aK.inPlace {P:Program}{f:FuncId}{aP:TypeId}{bQ jM:List Int}(cB:jM.length=bQ.length)(ip:0 < bQ.length)
 (h: ∀ (w:World) (mn cap:Nat),Go.Sort.Holds (Value.int .i64) w mn 0 bQ.toArray→mn < w.heap.size→Calls P f #[.slice (some ⟨mn,0,none⟩) bQ.length cap] w fun e w'=>
  e= .returned (.tuple #[])∧ ∃ n os,w'=grow (putRow (Value.int .i64) (Sort.ahead w n) mn 0 jM.toArray) os):
 aK P f [.own 0 bQ.length 0 bQ.length] [.aa aP 1 (cC .i64 bQ)] (fun v rs=>v= .bg []∧rs= [.aa aP 1 (cC .i64 jM)]):=
 aK.VN (fun _ _=> .tuple #[]) (.bg []) cB ip (fun _ _ _ _ _ _ _=>by rw[Rep];exact⟨#[],rfl,by simp[ay]⟩) (fun w b F h1 B _=>h w b F h1 B)
theorem aK.aqd {P:Program}{f:FuncId}{aP:TypeId}{bQ jM:List Int}{m:Nat}(cB:jM.length=bQ.length)(ip:0 < bQ.length)(hm:m≤bQ.length)
 (h: ∀ (w:World) (mn cap:Nat),Go.Sort.Holds (Value.int .i64) w mn 0 bQ.toArray→mn < w.heap.size→bQ.length≤cap→Calls P f #[.slice (some ⟨mn,0,none⟩) bQ.length cap] w fun e w'=>
  e= .returned (.slice (some ⟨mn,0,none⟩) m cap)∧ ∃ n os,w'=grow (putRow (Value.int .i64) (Sort.ahead w n) mn 0 jM.toArray) os):
 aK P f [.own 0 bQ.length 0 bQ.length] [.aa aP 1 (cC .i64 bQ)] (fun v rs=>v= .own 0 bQ.length 0 m∧rs= [.aa aP 1 (cC .i64 jM)]):=by
 refine aK.VN (fun b F=> .slice (some ⟨b,0,none⟩) m F) (.own 0 bQ.length 0 m) cB ip (fun C b F gV G ae V=> ?_) h;rw[Rep];refine⟨gV,⟨_,_,rfl⟩,by rw[G];simp,fun e N ah ag=> ?_⟩;rw[G] at ag;simp only[List.getElem?_cons_zero,Option.some.injEq,R.aa.injEq] at ag;obtain⟨rfl,rfl,rfl⟩:=ag;refine⟨by simp[cC,cB],fun _=>⟨by omega,_,ae,?_⟩⟩;exact⟨_,_,rfl,by omega,rfl,rfl,fun _=>⟨rfl,rfl⟩,fun _=>by simp⟩
theorem aqe {d:List R}{ap:List (Option Nat)}{bk:List Nat}{i n off len:Nat}{e:TypeId}{N:Nat}{ah:List (List z)}(ak:hR ap i=none)(ag:bk.contains i=true)(G:d[i]? =some (.aa e N ah))(aB:n=ah.length)(hl:off+len≤n)(V:eg ah=true):
 bU d ap bk (.own i n off len)= .pure N ((ah.drop off).take len):=by
 rw[bU];simp only[ak,ag,if_true,G];rw[if_pos ⟨aB,hl,V⟩]
theorem s.bw {aX:Nat}{K:aJ→List R→Prop}{r:aJ}{d srows:List R}(ap:List (Option Nat))(h:s aX K (r.map fun p=>(p.1,bU d ap [] p.2)) srows)
 (h1:wJ ap=true:=by rfl) (B:va aX 0 ap=true:=by rfl) (ao:ew d [] ap ap=some srows:=by simp only[go_sem,Nat.reduceAdd,Nat.reduceSub,Nat.reduceMul,Nat.reduceEqDiff,Nat.reduceLT,Nat.reduceLeDiff,Nat.reduceBEq,reduceIte,reduceCtorEq,Int.reduceToNat,Int.reduceLE,Int.reduceLT,Int.reduceBEq,Int.reduceBNe]<;>rfl):s aX K r d:=s.kb ap [] h1 B ao h
theorem s.kp {aX:Nat}{K:aJ→List R→Prop}{r:aJ}{d srows:List R}(ap:List (Option Nat))(bk:List Nat)(h:s aX K (r.map fun p=>(p.1,bU d ap bk p.2)) srows)
 (h1:wJ ap=true:=by rfl) (B:va aX 0 ap=true:=by rfl) (ao:ew d bk ap ap=some srows:=by simp only[go_sem,Nat.reduceAdd,Nat.reduceSub,Nat.reduceMul,Nat.reduceEqDiff,Nat.reduceLT,Nat.reduceLeDiff,Nat.reduceBEq,reduceIte,reduceCtorEq,Int.reduceToNat,Int.reduceLE,Int.reduceLT,Int.reduceBEq,Int.reduceBNe]<;>rfl):s aX K r d:=s.kb ap bk h1 B ao h
theorem eY {P:Program}{f:FuncId}{args:List z}{d:List R}{dst:Option Nat}{r:aJ}{K:aJ→List R→Prop}(ap:List Nat){srows:List R}{tM:List z}{br:z→List R→Prop}
 (hA:aK P f tM srows br) (I: ∀ v rs,br v rs→K (put r dst (dI (eH d.length ap) v)) (fq d ap (rs.map (gu (eH d.length ap)))))
 (aB:ap.Nodup:=by decide) (ao:ew d [] (ap.map some) (ap.map some)=some srows:=by simp only[go_sem,Nat.reduceAdd,Nat.reduceSub,Nat.reduceMul,Nat.reduceEqDiff,Nat.reduceLT,Nat.reduceLeDiff,Nat.reduceBEq,reduceIte,reduceCtorEq,Int.reduceToNat,Int.reduceLE,Int.reduceLT,Int.reduceBEq,Int.reduceBNe]<;>rfl) (Z:dV d (ap.map some) [] args=tM:=by simp only[go_sem,Nat.reduceAdd,Nat.reduceSub,Nat.reduceMul,Nat.reduceEqDiff,Nat.reduceLT,Nat.reduceLeDiff,Nat.reduceBEq,reduceIte,reduceCtorEq,Int.reduceToNat,Int.reduceLE,Int.reduceLT,Int.reduceBEq,Int.reduceBNe]<;>rfl):tL P f args d dst r K:=
 oW ap [] aB ao Z hA fun v rs h=>⟨.inl (_root_.id rfl),I v rs h⟩
theorem CP {P:Program}{f:FuncId}{args:List z}{bC:List Nat}{tk:df}{d:List R}{dst:Option Nat}{r:aJ}{K:aJ→List R→Prop}(ap:List Nat){srows:List R}{tM:List z}{br:z→List R→Prop}
 (hA:aK P f tM srows br) (I: ∀ v rs,br v rs→K (put r dst (dI (eH d.length ap) v)) (fq d ap (rs.map (gu (eH d.length ap)))))
 (ht:ex bC tk ap []:=by simp only[go_sem,Nat.reduceAdd,Nat.reduceSub,Nat.reduceMul,Nat.reduceEqDiff,Nat.reduceLT,Nat.reduceLeDiff,Nat.reduceBEq,reduceIte,reduceCtorEq,Int.reduceToNat,Int.reduceLE,Int.reduceLT,Int.reduceBEq,Int.reduceBNe]) (aB:ap.Nodup:=by decide) (ao:ew d [] (ap.map some) (ap.map some)=some srows:=by simp only[go_sem,Nat.reduceAdd,Nat.reduceSub,Nat.reduceMul,Nat.reduceEqDiff,Nat.reduceLT,Nat.reduceLeDiff,Nat.reduceBEq,reduceIte,reduceCtorEq,Int.reduceToNat,Int.reduceLE,Int.reduceLT,Int.reduceBEq,Int.reduceBNe]<;>rfl) (Z:dV d (ap.map some) [] args=tM:=by simp only[go_sem,Nat.reduceAdd,Nat.reduceSub,Nat.reduceMul,Nat.reduceEqDiff,Nat.reduceLT,Nat.reduceLeDiff,Nat.reduceBEq,reduceIte,reduceCtorEq,Int.reduceToNat,Int.reduceLE,Int.reduceLT,Int.reduceBEq,Int.reduceBNe]<;>rfl):tO P f args bC tk d dst r K:=
 FQ ap [] ht aB ao Z hA fun v rs h=>⟨.inl (_root_.id rfl),I v rs h⟩
theorem vf {P:Program}{f:FuncId}{args:List z}{d:List R}{dst:Option Nat}{r:aJ}{K:aJ→List R→Prop}{br:z→List R→Prop}
 (hA:aK P f args [] br) (I: ∀ v rs,br v rs→K (put r dst (dI (eH d.length []) v)) (fq d [] (rs.map (gu (eH d.length [])))))
 (V:bP args=true:=by first|rfl|simp only[go_sem,Nat.reduceAdd,Nat.reduceSub,Nat.reduceMul,Nat.reduceEqDiff,Nat.reduceLT,Nat.reduceLeDiff,Nat.reduceBEq,reduceIte,reduceCtorEq,Int.reduceToNat,Int.reduceLE,Int.reduceLT,Int.reduceBEq,Int.reduceBNe]):tL P f args d dst r K:=
 oW [] [] (by simp) (_root_.id rfl) (pN _ V) hA fun v rs h=>⟨.inl (_root_.id rfl),I v rs h⟩
theorem aqf {P:Program}{f:FuncId}{args:List z}{bC:List Nat}{tk:df}{d:List R}{dst:Option Nat}{r:aJ}{K:aJ→List R→Prop}{br:z→List R→Prop}
 (hA:aK P f args [] br) (I: ∀ v rs,br v rs→K (put r dst (dI (eH d.length []) v)) (fq d [] (rs.map (gu (eH d.length [])))))
 (ht:ex bC tk [] []:=by simp only[go_sem,Nat.reduceAdd,Nat.reduceSub,Nat.reduceMul,Nat.reduceEqDiff,Nat.reduceLT,Nat.reduceLeDiff,Nat.reduceBEq,reduceIte,reduceCtorEq,Int.reduceToNat,Int.reduceLE,Int.reduceLT,Int.reduceBEq,Int.reduceBNe]) (V:bP args=true:=by first|rfl|simp only[go_sem,Nat.reduceAdd,Nat.reduceSub,Nat.reduceMul,Nat.reduceEqDiff,Nat.reduceLT,Nat.reduceLeDiff,Nat.reduceBEq,reduceIte,reduceCtorEq,Int.reduceToNat,Int.reduceLE,Int.reduceLT,Int.reduceBEq,Int.reduceBNe]):tO P f args bC tk d dst r K:=
 FQ [] [] ht (by simp) (_root_.id rfl) (pN _ V) hA fun v rs h=>⟨.inl (_root_.id rfl),I v rs h⟩
theorem ie {P:Program}{aP:TypeId}{f:FuncId}{bW:List z}{l:List Int}{br:z→Prop}{d:List R}{dst:Option Nat}{r:aJ}{K:aJ→List R→Prop}{i:Nat}{aD:Int}
 (hA:vd P aP f bW l br) (I: ∀ (v:z) (a:Int),0≤a→a≤l.length→br v→K (put r dst v) (d.set i (dK aP l a)))
 (V:bP bW=true:=by rfl) (G:d[i]? =some (dK aP l aD):=by rfl) (h0:0≤aD:=by omega) (h1:aD≤l.length:=by omega):tL P f (.aW i 1 0 0::bW) d dst r K:=wL hA V G h0 h1 I
theorem wP {P:Program}{aP:TypeId}{f:FuncId}{bW:List z}{l:List Int}{br:z→Prop}{bC:List Nat}{tk:df}{d:List R}{dst:Option Nat}{r:aJ}{K:aJ→List R→Prop}{i:Nat}{aD:Int}
 (hA:vd P aP f bW l br) (I: ∀ (v:z) (a:Int),0≤a→a≤l.length→br v→K (put r dst v) (d.set i (dK aP l a)))
 (ht:ex bC tk [i] []:=by simp only[go_sem,Nat.reduceAdd,Nat.reduceSub,Nat.reduceMul,Nat.reduceEqDiff,Nat.reduceLT,Nat.reduceLeDiff,Nat.reduceBEq,reduceIte,reduceCtorEq,Int.reduceToNat,Int.reduceLE,Int.reduceLT,Int.reduceBEq,Int.reduceBNe]) (V:bP bW=true:=by rfl) (G:d[i]? =some (dK aP l aD):=by rfl) (h0:0≤aD:=by omega) (h1:aD≤l.length:=by omega):tO P f (.aW i 1 0 0::bW) bC tk d dst r K:=apj hA ht V G h0 h1 I
theorem iy {P:Program}{aP e:TypeId}{f:FuncId}{l:List Int}{br:z→Prop}{d:List R}{dst:Option Nat}{r:aJ}{K:aJ→List R→Prop}{i q n m:Nat}{aD:Int}{ah:List (List z)}(ai:List Int)
 (hA:AO P aP e f l ai br) (I: ∀ (v:z) (a:Int),0≤a→a≤l.length→br v→K (put r dst v) (d.set i (dK aP l a)))
 (G:d[i]? =some (dK aP l aD):=by rfl) (aQ:d[q]? =some (.aa e 1 ah):=by rfl) (ag:ah=cC .i64 ai:=by rfl) (aB:n=ai.length:=by rfl) (hm:m=ai.length:=by rfl) (hne:i≠q:=by decide) (h0:0≤aD:=by omega) (h1:aD≤l.length:=by omega):
 tL P f [.aW i 1 0 0,.own q n 0 m] d dst r K:=apk ai hA G aQ ag aB hm hne h0 h1 I
theorem FU {P:Program}{aP e:TypeId}{f:FuncId}{l:List Int}{br:z→Prop}{bC:List Nat}{tk:df}{d:List R}{dst:Option Nat}{r:aJ}{K:aJ→List R→Prop}{i q n m:Nat}{aD:Int}{ah:List (List z)}(ai:List Int)
 (hA:AO P aP e f l ai br) (I: ∀ (v:z) (a:Int),0≤a→a≤l.length→br v→K (put r dst v) (d.set i (dK aP l a)))
 (ht:ex bC tk [i,q] []:=by simp only[go_sem,Nat.reduceAdd,Nat.reduceSub,Nat.reduceMul,Nat.reduceEqDiff,Nat.reduceLT,Nat.reduceLeDiff,Nat.reduceBEq,reduceIte,reduceCtorEq,Int.reduceToNat,Int.reduceLE,Int.reduceLT,Int.reduceBEq,Int.reduceBNe]) (G:d[i]? =some (dK aP l aD):=by rfl) (aQ:d[q]? =some (.aa e 1 ah):=by rfl) (ag:ah=cC .i64 ai:=by rfl) (aB:n=ai.length:=by rfl) (hm:m=ai.length:=by rfl) (hne:i≠q:=by decide) (h0:0≤aD:=by omega) (h1:aD≤l.length:=by omega):
 tO P f [.aW i 1 0 0,.own q n 0 m] bC tk d dst r K:=apl ai hA ht G aQ ag aB hm hne h0 h1 I
theorem fA: (∀ (bd:Type) (a b:bd) (l:List bd),a∈b::l↔a=b∨a∈l)∧(∀ (bd:Type) (a:bd),¬a∈([]:List bd))∧ ∀ p:Prop,(p∨False)=p:=⟨fun _ _ _ _=>List.mem_cons,fun _ _=>List.not_mem_nil,fun _=>or_false _⟩
theorem dr {c:Nat}(h: (c:Int)+1≤9223372036854775807):IntKind.i64.wrap ((c:Int)+1)=((c+1:Nat):Int):=by rw[bf (by omega) h];omega
attribute [go_sem] Nat.reduceAdd Nat.reduceSub Nat.reduceMul Nat.reduceEqDiff Nat.reduceLT Nat.reduceLeDiff Nat.reduceBEq reduceIte reduceCtorEq Int.reduceToNat Int.reduceLE Int.reduceLT Int.reduceBEq Int.reduceBNe
end Go.Abs
