/- The abstract machine. -/
import Derived.Test.YtpincjkjoeopkaaGreatDoorK5
import Derived.KernelRfl
set_option linter.unusedSimpArgs false
set_option linter.unusedVariables false
set_option linter.unusedSectionVars false
namespace Go.Abs
variable [dw]
structure gR (ρ:Type) where
 ci:ρ
 all:List ρ→ρ
def eZ:gR Prop:=⟨False,fun l=>l.foldr And True⟩
def cD {ρ:Type}(A:gR ρ)(b:Bool)(k:ρ):ρ:=match b with|true=>k|false=>A.ci
theorem gf {b:Bool}{k:Prop}:cD eZ b k=(b=true∧k):=by cases b<;>simp[cD,eZ]
theorem aqw {l:List Prop}:eZ.all l↔ ∀ p∈l,p:=by
 show l.foldr And True↔_
 induction l with
 |nil=>exact⟨fun _ p h=>(by simp at h),fun _=>trivial⟩
 |cons x l ih=>
  constructor
  ·rintro⟨h1,B⟩ p ae;rcases List.mem_cons.1 ae with rfl|ae
   ·exact h1
   ·exact ih.1 B p ae
  ·exact fun h=>⟨h x List.mem_cons_self,ih.2 fun p ae=>h p (List.mem_cons_of_mem _ ae)⟩
def vg:List cN→List z→Bool
 | .int k::M,.int bo _::aj=>decide (k=bo)&&vg M aj
 | .bool::M,.bool _::aj=>vg M aj
 | .str::M,.str _::aj=>vg M aj
 | [],[]=>true
 |_,_=>false
theorem Pd: ∀ {M:List cN} {aj:List z},vg M aj=true→cv M aj:=by
 intro M
 induction M with
 |nil=>intro aj h;cases aj<;>simp[vg] at h;exact trivial
 |cons k M ih=>
  intro aj h;cases aj with
  |nil=>cases k<;>simp[vg] at h
  |cons F aj=>cases k<;>cases F<;>simp[vg] at h<;>simp[cv]<;>first|exact⟨h.1,ih h.2⟩|exact ih h
def CR (aE:Bool)(M:List cN)(k:z):Bool:=decide (lX k=aE)&&vg M (cf k)
theorem ii {aE:Bool}{M:List cN}{k:z}(h:CR aE M k=true):fT aE M k:=by
 simp only[CR,Bool.and_eq_true,decide_eq_true_eq] at h;exact⟨h.1,Pd h.2⟩
def CS {ρ:Type}(A:gR ρ)(d:List R)(x:z)(K:z→List R→ρ):ρ:=
 match x with
 | .own i n off len=>
  match d[i]? with
  |some (.aa _ N ah)=>cD A (decide (n=ah.length)&&decide (off=0)&&decide (len=n)&&decide (0 < n)&&eg ah) (K (.pure N ah) (d.set i .fH))
  |_=>A.ci
 |_=>A.ci
def CU {ρ:Type}(A:gR ρ)(op:BinOp)(x y:z)(K:z→ρ):ρ:=
 match x,y with
 | .int k a,.int bo b=>
  match op with
  | .shl=>cD A (decide (0≤b)) (K (.int k (k.wrap (a*2^(min b.toNat k.bits)))))
  | .shr=>cD A (decide (0≤b)) (K (.int k (a.fdiv (2^(min b.toNat k.bits)))))
  | .add=>cD A (decide (k=bo)) (K (.int k (k.wrap (a+b))))
  | .sub=>cD A (decide (k=bo)) (K (.int k (k.wrap (a-b))))
  | .mul=>cD A (decide (k=bo)) (K (.int k (k.wrap (a*b))))
  | .quo=>cD A (decide (k=bo)&&decide (b≠0)) (K (.int k (k.wrap (a.tdiv b))))
  | .rem=>cD A (decide (k=bo)&&decide (b≠0)) (K (.int k (a.tmod b)))
  | .and=>cD A (decide (k=bo)) (K (.int k (k.wrap (BitVec.ofInt k.bits a&&& BitVec.ofInt k.bits b).toNat)))
  | .or=>cD A (decide (k=bo)) (K (.int k (k.wrap (BitVec.ofInt k.bits a|||BitVec.ofInt k.bits b).toNat)))
  | .xor=>cD A (decide (k=bo)) (K (.int k (k.wrap (BitVec.ofInt k.bits a ^^^ BitVec.ofInt k.bits b).toNat)))
  | .eql=>cD A (decide (k=bo)) (K (.bool (a==b)))
  | .neq=>cD A (decide (k=bo)) (K (.bool (a != b)))
  | .lss=>cD A (decide (k=bo)) (K (.bool (a < b)))
  | .leq=>cD A (decide (k=bo)) (K (.bool (a≤b)))
  | .gtr=>cD A (decide (k=bo)) (K (.bool (a>b)))
  | .geq=>cD A (decide (k=bo)) (K (.bool (a≥b)))
  |_=>A.ci
 | .str a,.str b=>
  match op with
  | .eql=>K (.bool (a.toList==b.toList))
  | .neq=>K (.bool !(a.toList==b.toList))
  | .lss=>K (.bool (Op.bytesLess a.toList b.toList))
  | .leq=>K (.bool (Op.bytesLess a.toList b.toList||a.toList==b.toList))
  | .gtr=>K (.bool !(Op.bytesLess a.toList b.toList||a.toList==b.toList))
  | .geq=>K (.bool !(Op.bytesLess a.toList b.toList))
  | .add=>cD A (decide (((a.size+b.size:Nat):Int)≤IntKind.i64.max)) (K (.str (a++b)))
  |_=>A.ci
 |_,_=>A.ci
def AW {ρ:Type}(A:gR ρ)(d:List R)(x:z)(K:z→ρ):ρ:=
 match x with
 | .aW i n c off=>
  match d[i]? with
  |some (.aa _ N ah)=>cD A (decide (n=ah.length)&&decide (off < N)) (K ((ah.getD c []).getD off .cc))
  |_=>A.ci
 | .eb cells off=>cD A (decide (off < cells.length)) (K (cells.getD off .cc))
 |_=>A.ci
def AX {ρ:Type}(A:gR ρ)(d:List R)(m:Nat)(x:z)(K:z→ρ):ρ:=
 match x with
 | .aW i n c off=>
  match d[i]? with
  |some (.aa _ N ah)=>cD A (decide (n=ah.length)&&decide (off+m≤N)) (K (.agg (((ah.getD c []).drop off).take m)))
  |_=>A.ci
 | .eb cells off=>cD A (decide (off+m≤cells.length)) (K (.agg ((cells.drop off).take m)))
 |_=>A.ci
def CV {ρ:Type}(A:gR ρ)(d:List R)(m:Nat)(x y:z)(K:List R→ρ):ρ:=
 match x with
 | .aW i n c off=>
  match d[i]? with
  |some (.aa e N ah)=>cD A (decide (n=ah.length)&&decide (off+m≤N)&&decide ((cf y).length=m)&&(cf y).all cM) (K (d.set i (.aa e N (ah.set c (eO (ah.getD c []) off (cf y))))))
  |_=>A.ci
 |_=>A.ci
def CW {ρ:Type}(A:gR ρ)(o:Nat)(x:z)(K:z→ρ):ρ:=
 match x with
 | .aW i n c off=>K (.aW i n c (off+o))
 | .eb cells off=>K (.eb cells (off+o))
 |_=>A.ci
def CX {ρ:Type}(A:gR ρ)(d:List R)(N:Nat)(x y:z)(K:z→ρ):ρ:=
 match x,y with
 | .pure bt ah,.int _ c=>cD A (decide (bt=N)&&decide (0≤c)&&decide (c < ah.length)) (K (.eb (ah.getD c.toNat []) 0))
 | .own i n off len,.int _ c=>
  match d[i]? with
  |some (.aa _ bt ah)=>cD A (decide (bt=N)&&decide (n=ah.length)&&decide (0≤c)&&decide (c < len)) (K (.aW i n (off+c.toNat) 0))
  |_=>A.ci
 |_,_=>A.ci
def wR {ρ:Type}(A:gR ρ)(d:List R)(fk an:Option z)(N:Nat)(x:z)(K:z→ρ):ρ:=
 match sk x with
 |none=>A.ci
 |some l=>
  match fk.getD (.int .i64 0),an.getD (.int .i64 l) with
  | .int _ a,.int _ b=>cD A (decide (0≤a)&&decide (a≤b)&&decide (b≤l)) (match x with
   | .pure bt ah=>cD A (decide (bt=N)) (K (.pure bt ((ah.drop a.toNat).take (b.toNat-a.toNat))))
   | .bD=>K .bD
   | .own i n off _=>
    match d[i]? with
    |some (.aa _ bt ah)=>cD A (decide (bt=N)&&decide (n=ah.length)) (K (.own i n (off+a.toNat) (b.toNat-a.toNat)))
    |_=>A.ci
   |_=>A.ci)
  |_,_=>A.ci
def wS {ρ:Type}(A:gR ρ)(fk an:Option z)(x:z)(K:z→ρ):ρ:=
 match x with
 | .str E=>
  match fk.getD (.int .i64 0),an.getD (.int .i64 E.size) with
  | .int _ a,.int _ b=>cD A (decide (0≤a)&&decide (a≤b)&&decide (b≤E.size)) (K (.str (E.extract a.toNat b.toNat)))
  |_,_=>A.ci
 |_=>A.ci
def CY {ρ:Type}(A:gR ρ)(d:List R)(x:z)(K:z→ρ):ρ:=
 match jb d 1 x with
 |none=>A.ci
 |some ys=>
  match yb ys with
  |some hk=>K (.str (strOf hk))
  |none=>A.ci
def CZ {ρ:Type}(A:gR ρ)(d:List R)(e:TypeId)(N bytes:Nat)(x y:z)(K:z→List R→ρ):ρ:=
 match jb d N y with
 |none=>A.ci
 |some ys=>
  match x with
  | .bD=>cD A (decide (ys.length*bytes≤140737488355328)) (K (.own d.length ys.length 0 ys.length) (d++ [.aa e N ys]))
  | .own i n off len=>
   match d[i]? with
   |some (.aa cA bt ah)=>cD A (decide (cA=e)&&decide (bt=N)&&decide (n=ah.length)&&decide (off=0)&&decide (len=n)&&decide ((n+ys.length)*bytes≤140737488355328)) (K (.own i (n+ys.length) 0 (n+ys.length)) (d.set i (.aa e N (ah++ys))))
   |_=>A.ci
  |_=>A.ci
def C0 {ρ:Type}(A:gR ρ)(d:List R)(ok aE:Bool)(M:List cN)(zero x k:z)(K:z→ρ):ρ:=
 match pE d aE M x with
 |none=>A.ci
 |some ents=>cD A (CR aE M k) (K (if ok then .bg [(dd k ents).getD zero,.bool (dd k ents).isSome] else (dd k ents).getD zero))
def C1 {ρ:Type}(A:gR ρ)(d:List R)(aE:Bool)(M:List cN)(x k v:z)(K:List R→ρ):ρ:=
 match x with
 | .bu i=>
  match d[i]? with
  |some (.aY (.map gt fM ents))=>cD A (decide ((gt=aE∧fM=M))&&CR aE M k) (K (d.set i (.aY (.map aE M (dp k v ents)))))
  |_=>A.ci
 |_=>A.ci
def C2 {ρ:Type}(A:gR ρ)(d:List R)(aE:Bool)(M:List cN)(zero x k:z)(K:z→List R→ρ):ρ:=
 match x with
 | .bu i=>
  match d[i]? with
  |some (.aY (.map gt fM ents))=>cD A (decide ((gt=aE∧fM=M))&&(CR aE M k&&ents.all fun p=>CR aE M p.1)) (K (.bg [(dd k ents).getD zero,.int .i64 ((gr k ents).getD ents.length)]) (d.set i (.aY (.map aE M (dp k ((dd k ents).getD zero) ents)))))
  |_=>A.ci
 |_=>A.ci
def C3 {ρ:Type}(A:gR ρ)(d:List R)(x c v:z)(K:List R→ρ):ρ:=
 match x,c with
 | .bu i,.int _ n=>
  match d[i]? with
  |some (.aY (.map aE M ents))=>cD A (decide (0≤n)&&decide (n < ents.length)) (K (d.set i (.aY (.map aE M (ents.set n.toNat ((ents.getD n.toNat (.cc,.cc)).1,v))))))
  |_=>A.ci
 |_,_=>A.ci
def C4 {ρ:Type}(A:gR ρ)(d:List R)(x:z)(K:z→List R→ρ):ρ:=
 match x with
 | .bu m=>
  match d[m]? with
  |some (.aY (.map _ _ ents))=>K (.fG d.length m) (d++ [.aY (.dY ents.length [])])
  |_=>A.ci
 |_=>A.ci
def C5 {ρ:Type}(A:gR ρ)(d:List R)(x:z)(K:z→ρ):ρ:=
 match x with
 | .fG i m=>
  match d[i]?,d[m]? with
  |some (.aY (.dY n bR)),some (.aY (.map _ _ ents))=>cD A (decide (n=ents.length)&&decide (0 < bR.length)&&decide (bR.getLastD 0 < n)) (K (.bg [(ents.getD (bR.getLastD 0) (.cc,.cc)).1,(ents.getD (bR.getLastD 0) (.cc,.cc)).2]))
  |_,_=>A.ci
 |_=>A.ci
def C6 {ρ:Type}(A:gR ρ)(d:List R)(N:Nat)(x y:z)(K:z→List R→ρ):ρ:=
 match jb d N y with
 |none=>A.ci
 |some ys=>
  match x with
  | .own i n off len=>
   match d[i]? with
   |some (.aa e bt ah)=>cD A (decide (bt=N)&&decide (n=ah.length)&&decide (off+len≤n)) (K (.int .i64 ((min ys.length len:Nat):Int)) (d.set i (.aa e N (jZ ah off (ys.take (min ys.length len))))))
   |_=>A.ci
  |_=>A.ci
def C7 {ρ:Type}(A:gR ρ)(d:List R)(N:Nat)(zero:List z)(x:z)(K:List R→ρ):ρ:=
 match x with
 | .own i n off len=>
  match d[i]? with
  |some (.aa e bt ah)=>cD A (decide (bt=N)&&decide (n=ah.length)&&decide (off+len≤n)) (K (d.set i (.aa e N (jZ ah off (List.replicate len zero)))))
  |_=>A.ci
 |_=>A.ci
def C8 {ρ:Type}(A:gR ρ)(len N:Nat)(x y:z)(K:z→ρ):ρ:=
 match x,y with
 | .aW i n c off,.int _ j=>cD A (decide (0≤j)&&decide (j < len)) (K (.aW i n c (off+j.toNat*N)))
 | .eb cells off,.int _ j=>cD A (decide (0≤j)&&decide (j < len)) (K (.eb cells (off+j.toNat*N)))
 |_,_=>A.ci
theorem aqx {d:List R}{x:z}{K:z→List R→Prop}(h:CS eZ d x K):yd d x K:=by
 unfold CS at h;unfold yd
 (repeat' (split at h))<;>(try simp only[gf,Bool.and_eq_true,decide_eq_true_eq,and_assoc] at h)<;>(try simp only[and_assoc])<;>first
  |exact h.elim
  |exact h
  | (rename_i h1;simp only[h1];exact h)
  | (rename_i h1 B;simp only[h1,B];exact h)
  | (rename_i h1;simp only[h1,and_assoc];exact h)
  | (rename_i h1 B;simp only[h1,B,and_assoc];exact h)
  | (rename_i h1 B am;simp only[h1,B,am,and_assoc];exact h)
  | (rename_i h1;simp only[h1,and_assoc];exact⟨h.1,h.2.1,ii h.2.2.1,h.2.2.2⟩)
  | (rename_i h1;simp only[h1,and_assoc];exact⟨ii h.1,h.2⟩)
theorem aqy {op:BinOp}{x:z}{y:z}{K:z→Prop}(h:CU eZ op x y K):me op x y K:=by
 unfold CU at h;unfold me
 (repeat' (split at h))<;>(try simp only[gf,Bool.and_eq_true,decide_eq_true_eq,and_assoc] at h)<;>(try simp only[and_assoc])<;>first
  |exact h.elim
  |exact h
  | (rename_i h1;simp only[h1];exact h)
  | (rename_i h1 B;simp only[h1,B];exact h)
  | (rename_i h1;simp only[h1,and_assoc];exact h)
  | (rename_i h1 B;simp only[h1,B,and_assoc];exact h)
  | (rename_i h1 B am;simp only[h1,B,am,and_assoc];exact h)
  | (rename_i h1;simp only[h1,and_assoc];exact⟨h.1,h.2.1,ii h.2.2.1,h.2.2.2⟩)
  | (rename_i h1;simp only[h1,and_assoc];exact⟨ii h.1,h.2⟩)
theorem V0 {d:List R}{x:z}{K:z→Prop}(h:AW eZ d x K):pL d x K:=by
 unfold AW at h;unfold pL
 (repeat' (split at h))<;>(try simp only[gf,Bool.and_eq_true,decide_eq_true_eq,and_assoc] at h)<;>(try simp only[and_assoc])<;>first
  |exact h.elim
  |exact h
  | (rename_i h1;simp only[h1];exact h)
  | (rename_i h1 B;simp only[h1,B];exact h)
  | (rename_i h1;simp only[h1,and_assoc];exact h)
  | (rename_i h1 B;simp only[h1,B,and_assoc];exact h)
  | (rename_i h1 B am;simp only[h1,B,am,and_assoc];exact h)
  | (rename_i h1;simp only[h1,and_assoc];exact⟨h.1,h.2.1,ii h.2.2.1,h.2.2.2⟩)
  | (rename_i h1;simp only[h1,and_assoc];exact⟨ii h.1,h.2⟩)
theorem V1 {d:List R}{m:Nat}{x:z}{K:z→Prop}(h:AX eZ d m x K):oc d m x K:=by
 unfold AX at h;unfold oc
 (repeat' (split at h))<;>(try simp only[gf,Bool.and_eq_true,decide_eq_true_eq,and_assoc] at h)<;>(try simp only[and_assoc])<;>first
  |exact h.elim
  |exact h
  | (rename_i h1;simp only[h1];exact h)
  | (rename_i h1 B;simp only[h1,B];exact h)
  | (rename_i h1;simp only[h1,and_assoc];exact h)
  | (rename_i h1 B;simp only[h1,B,and_assoc];exact h)
  | (rename_i h1 B am;simp only[h1,B,am,and_assoc];exact h)
  | (rename_i h1;simp only[h1,and_assoc];exact⟨h.1,h.2.1,ii h.2.2.1,h.2.2.2⟩)
  | (rename_i h1;simp only[h1,and_assoc];exact⟨ii h.1,h.2⟩)
theorem aqz {d:List R}{m:Nat}{x:z}{y:z}{K:List R→Prop}(h:CV eZ d m x y K):wC d m x y K:=by
 unfold CV at h;unfold wC
 (repeat' (split at h))<;>(try simp only[gf,Bool.and_eq_true,decide_eq_true_eq,and_assoc] at h)<;>(try simp only[and_assoc])<;>first
  |exact h.elim
  |exact h
  | (rename_i h1;simp only[h1];exact h)
  | (rename_i h1 B;simp only[h1,B];exact h)
  | (rename_i h1;simp only[h1,and_assoc];exact h)
  | (rename_i h1 B;simp only[h1,B,and_assoc];exact h)
  | (rename_i h1 B am;simp only[h1,B,am,and_assoc];exact h)
  | (rename_i h1;simp only[h1,and_assoc];exact⟨h.1,h.2.1,ii h.2.2.1,h.2.2.2⟩)
  | (rename_i h1;simp only[h1,and_assoc];exact⟨ii h.1,h.2⟩)
theorem aqA {o:Nat}{x:z}{K:z→Prop}(h:CW eZ o x K):Fj o x K:=by
 unfold CW at h;unfold Fj
 (repeat' (split at h))<;>(try simp only[gf,Bool.and_eq_true,decide_eq_true_eq,and_assoc] at h)<;>(try simp only[and_assoc])<;>first
  |exact h.elim
  |exact h
  | (rename_i h1;simp only[h1];exact h)
  | (rename_i h1 B;simp only[h1,B];exact h)
  | (rename_i h1;simp only[h1,and_assoc];exact h)
  | (rename_i h1 B;simp only[h1,B,and_assoc];exact h)
  | (rename_i h1 B am;simp only[h1,B,am,and_assoc];exact h)
  | (rename_i h1;simp only[h1,and_assoc];exact⟨h.1,h.2.1,ii h.2.2.1,h.2.2.2⟩)
  | (rename_i h1;simp only[h1,and_assoc];exact⟨ii h.1,h.2⟩)
theorem aqB {d:List R}{N:Nat}{x:z}{y:z}{K:z→Prop}(h:CX eZ d N x y K):vZ d N x y K:=by
 unfold CX at h;unfold vZ
 (repeat' (split at h))<;>(try simp only[gf,Bool.and_eq_true,decide_eq_true_eq,and_assoc] at h)<;>(try simp only[and_assoc])<;>first
  |exact h.elim
  |exact h
  | (rename_i h1;simp only[h1];exact h)
  | (rename_i h1 B;simp only[h1,B];exact h)
  | (rename_i h1;simp only[h1,and_assoc];exact h)
  | (rename_i h1 B;simp only[h1,B,and_assoc];exact h)
  | (rename_i h1 B am;simp only[h1,B,am,and_assoc];exact h)
  | (rename_i h1;simp only[h1,and_assoc];exact⟨h.1,h.2.1,ii h.2.2.1,h.2.2.2⟩)
  | (rename_i h1;simp only[h1,and_assoc];exact⟨ii h.1,h.2⟩)
theorem aqC {d:List R}{fk:Option z}{an:Option z}{N:Nat}{x:z}{K:z→Prop}(h:wR eZ d fk an N x K):pA d fk an N x K:=by
 unfold wR at h;unfold pA;cases hl:sk x with
 |none=>rw[hl] at h;exact h.elim
 |some l=>
  rw[hl] at h;simp only at h ⊢;split at h
  ·rename_i a b aw Z;simp only[aw,Z];rw[gf] at h;obtain⟨h1,h⟩:=h;simp only[Bool.and_eq_true,decide_eq_true_eq] at h1;refine⟨h1.1.1,h1.1.2,h1.2,?_⟩;split at h
   ·rw[gf] at h;exact⟨of_decide_eq_true h.1,h.2⟩
   ·exact h
   ·split at h
    ·rename_i G;simp only[G];simp only[gf,Bool.and_eq_true,decide_eq_true_eq,and_assoc] at h;exact h
    ·exact h.elim
   ·exact h.elim
  ·exact h.elim
theorem aqD {fk:Option z}{an:Option z}{x:z}{K:z→Prop}(h:wS eZ fk an x K):tt fk an x K:=by
 unfold wS at h;unfold tt
 (repeat' (split at h))<;>(try simp only[gf,Bool.and_eq_true,decide_eq_true_eq,and_assoc] at h)<;>(try simp only[and_assoc])<;>first
  |exact h.elim
  |exact h
  | (rename_i h1;simp only[h1];exact h)
  | (rename_i h1 B;simp only[h1,B];exact h)
  | (rename_i h1;simp only[h1,and_assoc];exact h)
  | (rename_i h1 B;simp only[h1,B,and_assoc];exact h)
  | (rename_i h1 B am;simp only[h1,B,am,and_assoc];exact h)
  | (rename_i h1;simp only[h1,and_assoc];exact⟨h.1,h.2.1,ii h.2.2.1,h.2.2.2⟩)
  | (rename_i h1;simp only[h1,and_assoc];exact⟨ii h.1,h.2⟩)
theorem aqE {d:List R}{x:z}{K:z→Prop}(h:CY eZ d x K):yc d x K:=by
 unfold CY at h;unfold yc;cases hl:jb d 1 x with
 |none=>rw[hl] at h;exact h.elim
 |some l=>
  rw[hl] at h;simp only at h ⊢;cases Z:yb l with
  |none=>rw[Z] at h;exact h.elim
  |some hk=>rw[Z] at h;exact h
theorem aqF {d:List R}{e:TypeId}{N:Nat}{bytes:Nat}{x:z}{y:z}{K:z→List R→Prop}(h:CZ eZ d e N bytes x y K):tI d e N bytes x y K:=by
 unfold CZ at h;unfold tI;cases hl:jb d N y with
 |none=>rw[hl] at h;exact h.elim
 |some l=>
  rw[hl] at h;simp only at h ⊢;split at h
  ·simp only[gf,Bool.and_eq_true,decide_eq_true_eq,and_assoc] at h;exact h
  ·split at h
   ·rename_i G;simp only[G];simp only[gf,Bool.and_eq_true,decide_eq_true_eq,and_assoc] at h;exact h
   ·exact h.elim
  ·exact h.elim
theorem aqG {d:List R}{ok:Bool}{aE:Bool}{M:List cN}{zero:z}{x:z}{k:z}{K:z→Prop}(h:C0 eZ d ok aE M zero x k K):tx d ok aE M zero x k K:=by
 unfold C0 at h;unfold tx;cases hl:pE d aE M x with
 |none=>rw[hl] at h;exact h.elim
 |some l=>
  rw[hl] at h;simp only[gf] at h ⊢;exact⟨ii h.1,h.2⟩
theorem aqH {d:List R}{aE:Bool}{M:List cN}{x:z}{k:z}{v:z}{K:List R→Prop}(h:C1 eZ d aE M x k v K):wh d aE M x k v K:=by
 unfold C1 at h;unfold wh
 (repeat' (split at h))<;>(try simp only[gf,Bool.and_eq_true,decide_eq_true_eq,and_assoc] at h)<;>(try simp only[and_assoc])<;>first
  |exact h.elim
  |exact h
  | (rename_i h1;simp only[h1];exact h)
  | (rename_i h1 B;simp only[h1,B];exact h)
  | (rename_i h1;simp only[h1,and_assoc];exact h)
  | (rename_i h1 B;simp only[h1,B,and_assoc];exact h)
  | (rename_i h1 B am;simp only[h1,B,am,and_assoc];exact h)
  | (rename_i h1;simp only[h1,and_assoc];exact⟨h.1,h.2.1,ii h.2.2.1,h.2.2.2⟩)
  | (rename_i h1;simp only[h1,and_assoc];exact⟨ii h.1,h.2⟩)
theorem aqI {d:List R}{aE:Bool}{M:List cN}{zero:z}{x:z}{k:z}{K:z→List R→Prop}(h:C2 eZ d aE M zero x k K):uJ d aE M zero x k K:=by
 unfold C2 at h;unfold uJ;split at h
 ·split at h
  ·rename_i G;simp only[gf,Bool.and_eq_true,decide_eq_true_eq] at h;simp only[G];exact⟨h.1.1,⟨ii h.1.2.1,fun p ae=>ii (List.all_eq_true.1 h.1.2.2 p ae)⟩,h.2⟩
  ·exact h.elim
 ·exact h.elim
theorem aqJ {d:List R}{x:z}{c:z}{v:z}{K:List R→Prop}(h:C3 eZ d x c v K):wi d x c v K:=by
 unfold C3 at h;unfold wi
 (repeat' (split at h))<;>(try simp only[gf,Bool.and_eq_true,decide_eq_true_eq,and_assoc] at h)<;>(try simp only[and_assoc])<;>first
  |exact h.elim
  |exact h
  | (rename_i h1;simp only[h1];exact h)
  | (rename_i h1 B;simp only[h1,B];exact h)
  | (rename_i h1;simp only[h1,and_assoc];exact h)
  | (rename_i h1 B;simp only[h1,B,and_assoc];exact h)
  | (rename_i h1 B am;simp only[h1,B,am,and_assoc];exact h)
  | (rename_i h1;simp only[h1,and_assoc];exact⟨h.1,h.2.1,ii h.2.2.1,h.2.2.2⟩)
  | (rename_i h1;simp only[h1,and_assoc];exact⟨ii h.1,h.2⟩)
theorem aqK {d:List R}{x:z}{K:z→List R→Prop}(h:C4 eZ d x K):wj d x K:=by
 unfold C4 at h;unfold wj
 (repeat' (split at h))<;>(try simp only[gf,Bool.and_eq_true,decide_eq_true_eq,and_assoc] at h)<;>(try simp only[and_assoc])<;>first
  |exact h.elim
  |exact h
  | (rename_i h1;simp only[h1];exact h)
  | (rename_i h1 B;simp only[h1,B];exact h)
  | (rename_i h1;simp only[h1,and_assoc];exact h)
  | (rename_i h1 B;simp only[h1,B,and_assoc];exact h)
  | (rename_i h1 B am;simp only[h1,B,am,and_assoc];exact h)
  | (rename_i h1;simp only[h1,and_assoc];exact⟨h.1,h.2.1,ii h.2.2.1,h.2.2.2⟩)
  | (rename_i h1;simp only[h1,and_assoc];exact⟨ii h.1,h.2⟩)
theorem aqL {d:List R}{x:z}{K:z→Prop}(h:C5 eZ d x K):wk d x K:=by
 unfold C5 at h;unfold wk
 (repeat' (split at h))<;>(try simp only[gf,Bool.and_eq_true,decide_eq_true_eq,and_assoc] at h)<;>(try simp only[and_assoc])<;>first
  |exact h.elim
  |exact h
  | (rename_i h1;simp only[h1];exact h)
  | (rename_i h1 B;simp only[h1,B];exact h)
  | (rename_i h1;simp only[h1,and_assoc];exact h)
  | (rename_i h1 B;simp only[h1,B,and_assoc];exact h)
  | (rename_i h1 B am;simp only[h1,B,am,and_assoc];exact h)
  | (rename_i h1;simp only[h1,and_assoc];exact⟨h.1,h.2.1,ii h.2.2.1,h.2.2.2⟩)
  | (rename_i h1;simp only[h1,and_assoc];exact⟨ii h.1,h.2⟩)
theorem aqM {d:List R}{N:Nat}{x:z}{y:z}{K:z→List R→Prop}(h:C6 eZ d N x y K):xZ d N x y K:=by
 unfold C6 at h;unfold xZ;cases hl:jb d N y with
 |none=>rw[hl] at h;exact h.elim
 |some l=>
  rw[hl] at h;simp only at h ⊢;split at h
  ·split at h
   ·rename_i G;simp only[G];simp only[gf,Bool.and_eq_true,decide_eq_true_eq,and_assoc] at h;exact h
   ·exact h.elim
  ·exact h.elim
theorem aqN {d:List R}{N:Nat}{zero:List z}{x:z}{K:List R→Prop}(h:C7 eZ d N zero x K):wo d N zero x K:=by
 unfold C7 at h;unfold wo
 (repeat' (split at h))<;>(try simp only[gf,Bool.and_eq_true,decide_eq_true_eq,and_assoc] at h)<;>(try simp only[and_assoc])<;>first
  |exact h.elim
  |exact h
  | (rename_i h1;simp only[h1];exact h)
  | (rename_i h1 B;simp only[h1,B];exact h)
  | (rename_i h1;simp only[h1,and_assoc];exact h)
  | (rename_i h1 B;simp only[h1,B,and_assoc];exact h)
  | (rename_i h1 B am;simp only[h1,B,am,and_assoc];exact h)
  | (rename_i h1;simp only[h1,and_assoc];exact⟨h.1,h.2.1,ii h.2.2.1,h.2.2.2⟩)
  | (rename_i h1;simp only[h1,and_assoc];exact⟨ii h.1,h.2⟩)
theorem aqO {len:Nat}{N:Nat}{x:z}{y:z}{K:z→Prop}(h:C8 eZ len N x y K):Am len N x y K:=by
 unfold C8 at h;unfold Am
 (repeat' (split at h))<;>(try simp only[gf,Bool.and_eq_true,decide_eq_true_eq,and_assoc] at h)<;>(try simp only[and_assoc])<;>first
  |exact h.elim
  |exact h
  | (rename_i h1;simp only[h1];exact h)
  | (rename_i h1 B;simp only[h1,B];exact h)
  | (rename_i h1;simp only[h1,and_assoc];exact h)
  | (rename_i h1 B;simp only[h1,B,and_assoc];exact h)
  | (rename_i h1 B am;simp only[h1,B,am,and_assoc];exact h)
  | (rename_i h1;simp only[h1,and_assoc];exact⟨h.1,h.2.1,ii h.2.2.1,h.2.2.2⟩)
  | (rename_i h1;simp only[h1,and_assoc];exact⟨ii h.1,h.2⟩)
def AY {ρ:Type}(A:gR ρ)(op:fV)(args:List z)(d:List R)(K:z→List R→ρ):ρ:=
 match op,args with
 | .pK,[x]=>K x d
 | .pick,[.bool F,a,b]=>K (if F then a else b) d
 | .alloc e zero,[]=>K (.aW d.length 1 0 0) (d++ [.aa e zero.length [zero]])
 | .box e N,[x]=>cD A (decide ((cf x).length=N)&&(cf x).all cM) (K (.aW d.length 1 0 0) (d++ [.aa e N [cf x]]))
 | .build zero O,vs=>
  match nX zero O vs with
  |some aj=>cD A ((vs.all fun v=>(cf v).all cM)) (K (.agg aj) d)
  |none=>A.ci
 | .rx e N zero len ja,vs=>
  match ob (List.replicate len zero) N ja vs with
  |some al=>cD A ((vs.all fun v=>(cf v).all cM)) (K (.own d.length len 0 len) (d++ [.aa e N al]))
  |none=>A.ci
 | .CE,[]=>K .bD d
 | .ym e N bytes zero,[.int _ l,.int _ F]=>cD A (decide (0≤l)&&decide (l≤F)&&decide (F*bytes≤140737488355328)&&decide (F≤140737488355328)) (K (.own d.length l.toNat 0 l.toNat) (d++ [.aa e N (List.replicate l.toNat zero)]))
 | .oS,[x]=>AW A d x fun v=>K v d
 | .oT n,[x]=>AX A d n x fun v=>K v d
 | .store n,[x,y]=>CV A d n x y fun d=>K (.bg []) d
 | .sy,[.aW i n c L]=>K (.aW i n c L) d
 | .sy,[.eb F L]=>K (.eb F L) d
 | .jc op,[x,y]=>CU A op x y fun v=>K v d
 | .qA neg M,[.agg ai,.agg ys]=>cD A (vg M ai&&vg M ys) (K (.bool (dU ai ys != neg)) d)
 | .Fh neg,[.bool a,.bool b]=>K (.bool ((a==b) != neg)) d
 | .not,[.bool b]=>K (.bool !b) d
 | .neg,[.int k n]=>K (.int k (k.wrap (0-n))) d
 | .conv k,[.int _ n]=>K (.int k (k.wrap n)) d
 | .fieldAddr o,[x]=>CW A o x fun v=>K v d
 | .O1 off,[.agg aj]=>cD A (decide (off < aj.length)) (K (aj.getD off .cc) d)
 | .O2 off N,[.agg aj]=>cD A (decide (off+N≤aj.length)) (K (.agg ((aj.drop off).take N)) d)
 | .indexAddr N,[x,y]=>CX A d N x y fun v=>K v d
 | .index,[.str E,.int _ c]=>cD A (decide (0≤c)&&decide (c < E.size)) (K (.int .u8 ((E.data.getD c.toNat 0).toNat)) d)
 | .slice true true N,[x,a,b]=>wR A d (some a) (some b) N x fun v=>K v d
 | .slice true false N,[x,a]=>wR A d (some a) none N x fun v=>K v d
 | .slice false true N,[x,b]=>wR A d none (some b) N x fun v=>K v d
 | .slice false false N,[x]=>wR A d none none N x fun v=>K v d
 | .wN true true,[x,a,b]=>wS A (some a) (some b) x fun v=>K v d
 | .wN true false,[x,a]=>wS A (some a) none x fun v=>K v d
 | .wN false true,[x,b]=>wS A none (some b) x fun v=>K v d
 | .wN false false,[x]=>wS A none none x fun v=>K v d
 | .CF,[.str E]=>K (.int .i64 E.size) d
 | .len,[x]=>
  match sk x with
  |some l=>K (.int .i64 l) d
  |none=>A.ci
 | .append e N bytes,[x,y]=>CZ A d e N bytes x y K
 | .extract c,[.bg vs]=>cD A (decide (c < vs.length)) (K (vs.getD c .cc) d)
 | .yu O6,[.int k a,.int bo b]=>cD A (decide (k=bo)) (K (.int k (if O6 then max a b else min a b)) d)
 | .I8,[x]=>CY A d x fun v=>K v d
 | .kc,[x]=>CS A d x K
 | .copy N,[x,y]=>C6 A d N x y K
 | .uZ len N,[x,y]=>C8 A len N x y fun v=>K v d
 | .O3 len,[.agg aj,.int _ j]=>cD A (decide ((0≤j∧j < len))&&decide (j.toNat < aj.length)) (K (aj.getD j.toNat .cc) d)
 | .O4 len N,[.agg aj,.int _ j]=>cD A (decide ((0≤j∧j < len))&&decide (j.toNat*N+N≤aj.length)) (K (.agg ((aj.drop (j.toNat*N)).take N)) d)
 | .O5 f,aj=>K (.fn f aj) d
 | .yn aE M,[]=>K (.bu d.length) (d++ [.aY (.map aE M [])])
 | .ib ok aE M zero,[x,k]=>C0 A d ok aE M zero x k fun v=>K v d
 | .oR aE M,[x,k,v]=>C1 A d aE M x k v fun d=>K (.bg []) d
 | .oa aE M zero,[x,k]=>C2 A d aE M zero x k K
 | .rv,[x,c,v]=>C3 A d x c v fun d=>K (.bg []) d
 | .I9,[.bu i]=>
  match d[i]? with
  |some (.aY (.map _ _ ents))=>K (.int .i64 ents.length) d
  |_=>A.ci
 | .dY,[x]=>C4 A d x K
 | .entry,[x]=>C5 A d x fun v=>K v d
 | .cap,[.bD]=>K (.int .i64 0) d
 | .AD e N bytes zero,[.bD,.int _ n]=>cD A (decide (0 < n)&&decide (n*bytes≤140737488355328)) (K (.own d.length n.toNat 0 n.toNat) (d++ [.aa e N (List.replicate n.toNat zero)]))
 | .clear N zero,[x]=>C7 A d N zero x fun d=>K (.bg []) d
 | .yl N neg,[x]=>
  match jb d N x with
  |some ys=>cD A (decide (0 < ys.length)) (K (.bool neg) d)
  |none=>A.ci
 |_,_=>A.ci
theorem V2 {op:fV}{args:List z}{d:List R}{K:z→List R→Prop}(h:AY eZ op args d K):aI op args d K:=by
 unfold AY at h;split at h
 all_goals first
  |exact h.elim
  |exact h
  |exact V0 h
  |exact V1 h
  |exact aqz h
  |exact aqy h
  |exact aqA h
  |exact aqB h
  |exact aqC h
  |exact aqD h
  |exact aqF h
  |exact aqE h
  |exact aqx h
  |exact aqM h
  |exact aqO h
  |exact aqG h
  |exact aqH h
  |exact aqI h
  |exact aqJ h
  |exact aqK h
  |exact aqL h
  |exact aqN h
  |skip
 all_goals (try simp only[gf,Bool.and_eq_true,decide_eq_true_eq,and_assoc] at h)
 all_goals first
  | (simp only[aI,and_assoc];exact h)
  | (simp only[aI];exact⟨Pd h.1,Pd h.2.1,h.2.2⟩)
  |skip
 all_goals (split at h<;>first|exact h.elim| (rename_i h1;simp only[aI,An,h1];rw[gf] at h;exact⟨of_decide_eq_true h.1,h.2⟩)| (rename_i h1;simp only[aI,h1];simp only[gf] at h;exact h)| (rename_i h1;simp only[aI,h1];exact h))
end Go.Abs
namespace Go.Abs
variable [dw]
mutual
def JN:z→List Nat
 | .own i _ _ _=> [i]
 | .aW i _ _ _=> [i]
 | .bu i=> [i]
 | .fG i m=> [i,m]
 | .agg aj=>vh aj
 | .bg aj=>vh aj
 | .fn _ aj=>vh aj
 |_=> []
def vh:List z→List Nat
 | []=> []
 |F::aj=>JN F++vh aj
end
def aqP:R→List Nat
 | .fH=> []
 | .aa _ _ ah=>ah.flatMap vh
 | .aY (.map _ _ ents)=>ents.flatMap fun p=>JN p.1++JN p.2
 | .aY (.dY _ _)=> []
def yz (d:List R):Nat→List Nat→List Nat→List Nat
 |0,_,bR=>bR
 |_+1,[],bR=>bR
 |n+1,i::V3,bR=>if bR.contains i then yz d n V3 bR else yz d n (aqP (d.getD i .fH)++V3) (bR++ [i])
def JO:List Nat→Bool
 | []=>true
 |x::ai=> !ai.contains x&&JO ai
theorem Pe: ∀ {l:List Nat},JO l=true→l.Nodup
 | [],_=>List.nodup_nil
 |x::ai,h=>by
  simp only[JO,Bool.and_eq_true,Bool.not_eq_true',List.contains_eq_mem,decide_eq_false_iff_not] at h;exact List.nodup_cons.2 ⟨h.1,Pe h.2⟩
section
variable {ρ:Type} (A:gR ρ) (P:Program) (call:FuncId→List z→List R→(z→List R→ρ)→ρ)
def AZ (ap:List Nat)(f:FuncId)(args:List z)(d:List R)(K:z→List R→ρ):ρ:=
 match ew d [] (ap.map some) (ap.map some) with
 |some srows=>cD A (JO ap) (call f (dV d (ap.map some) [] args) srows fun v rs=>K (dI (eH d.length ap) v) (fq d ap (rs.map (gu (eH d.length ap)))))
 |none=>A.ci
def C9 (f:FuncId)(args:List z)(d:List R)(K:z→List R→ρ):ρ:=AZ A call (yz d 100000 (vh args) []) f args d K
def JP (f:FuncId):Bool:=
 match P.funcs[f]? with
 |some fn=>fn.body.isSome&&fn.name != "runtime.NumGoroutine"
 |none=>false
def Da (vs:List z)(d:List R)(K:z→List R→ρ):ρ:=
 match vs with
 | .fn f aj::ai=>cD A (JP P f) (C9 A call f (ai++aj) d K)
 |_=>A.ci
def Db (d:List R)(x:z)(K:z→List R→ρ):ρ:=
 match x with
 | .fG i m=>
  match d[i]?,d[m]? with
  |some (.aY (.dY n bR)),some (.aY (.map _ _ ents))=>cD A (decide (n=ents.length)&&decide (i≠m))
   (if (List.range n).all (fun c=>bR.contains c) then K (.bg [.bool false]) d
   else A.all (((List.range n).filter fun c=> !bR.contains c).map fun c=>K (.bg [.bool true,(ents.getD c (.cc,.cc)).1,(ents.getD c (.cc,.cc)).2]) (d.set i (.aY (.dY n (bR++ [c]))))))
  |_,_=>A.ci
 |_=>A.ci
def A0 (L:dJ)(r:aJ)(d:List R)(K:aJ→List R→ρ):ρ:=
 match L.op with
 | .call f=>C9 A call f (L.args.map (bc.aI r)) d fun v bY=>K (put r L.dst v) bY
 | .next=>
  match L.args.map (bc.aI r) with
  | [x]=>Db A d x fun v bY=>K (put r L.dst v) bY
  |_=>A.ci
 | .wx=>Da A P call (L.args.map (bc.aI r)) d fun v bY=>K (put r L.dst v) bY
 |op=>AY A op (L.args.map (bc.aI r)) d fun v bY=>K (put r L.dst v) bY
def Dc (L:dJ)(r:aJ)(d:List R)(K:aJ→List R→ρ):ρ:=
 match L.guard with
 |none=>A0 A P call L r d K
 |some (E,dZ)=>
  match bn r E with
  | .bool b=>if b=dZ then A0 A P call L r d K else K (put r L.dst (.bg [])) d
  | .bg []=>K (put r L.dst (.bg [])) d
  |_=>A.ci
def Dd:List dJ→(aJ→List R→ρ)→aJ→List R→ρ
 | [],K,r,d=>K r d
 |L::os,K,r,d=>Dc A P call L r d (Dd os K)
def FW (bC:List Nat)(tk:df)(W az:List Nat):Bool:=tk.all fun p=> !bC.contains p.1||(!W.contains p.2.1&&(!p.2.2|| !az.contains p.2.1))
def A1 (f:FuncId)(args:List z)(bC:List Nat)(tk:df)(d:List R)(K:z→List R→ρ):ρ:=
 if FW bC tk (yz d 100000 (vh args) []) [] then AZ A call (yz d 100000 (vh args) []) f args d K
 else cD A (FW bC tk [] (yz d 100000 (vh args) [])) (call f (dV d [] (yz d 100000 (vh args) []) args) [] fun v rs=>cD A (pI v&&rs.all Au) (K (dI (eH d.length []) v) (fq d [] (rs.map (gu (eH d.length []))))))
def De (vs:List z)(bC:List Nat)(tk:df)(d:List R)(K:z→List R→ρ):ρ:=
 match vs with
 | .fn f aj::ai=>cD A (JP P f) (A1 A call f (ai++aj) bC tk d K)
 |_=>A.ci
def Df (d:List R)(k:Nat)(e:TypeId)(N:Nat):Bool:=
 match d[k]? with
 |some (.aa cA bt [])=>decide (cA=e)&&decide (bt=N)
 |_=>false
def Dg (op:fV)(args:List z)(k:Nat)(d:List R)(K:z→List R→ρ):ρ:=
 match op,args with
 | .alloc e zero,[]=>cD A (Df d k e zero.length) (K (.aW k 1 0 0) (d.set k (.aa e zero.length [zero])))
 | .box e N,[x]=>cD A ((decide ((cf x).length=N)&&(cf x).all cM)&&Df d k e N) (K (.aW k 1 0 0) (d.set k (.aa e N [cf x])))
 | .rx e N zero len ja,vs=>
  match ob (List.replicate len zero) N ja vs with
  |some al=>cD A (((vs.all fun v=>(cf v).all cM)&&decide (0 < len))&&Df d k e N) (K (.own k len 0 len) (d.set k (.aa e N al)))
  |none=>A.ci
 | .ym e N b zero,[.int _ l,.int _ F]=>cD A ((decide (0 < l)&&(decide (l≤F)&&(decide (F*b≤140737488355328)&&decide (F≤140737488355328))))&&Df d k e N) (K (.own k l.toNat 0 l.toNat) (d.set k (.aa e N (List.replicate l.toNat zero))))
 |_,_=>A.ci
def A2 (base c:Nat)(o:eQ)(tk:df)(r:aJ)(d:List R)(K:df→aJ→List R→ρ):ρ:=
 match o.ff with
 |some q=>cD A (FW o.bC tk [base+q] []) (Dg A o.bB.op (o.bB.args.map (bc.aI r)) (base+q) d fun v bY=>K ((c,base+q,true)::tk) (put r o.bB.dst v) bY)
 |none=>
  match o.bB.op with
  | .call f=>A1 A call f (o.bB.args.map (bc.aI r)) o.bC tk d fun v bY=>K tk (put r o.bB.dst v) bY
  | .wx=>De A P call (o.bB.args.map (bc.aI r)) o.bC tk d fun v bY=>K tk (put r o.bB.dst v) bY
  |op=>cD A (FW o.bC tk (jx op (o.bB.args.map (bc.aI r))) (gD op (o.bB.args.map (bc.aI r))))
   (AY A op (o.bB.args.map (bc.aI r)) d fun v bY=>K (if nu op then tk else ix c (gD op (o.bB.args.map (bc.aI r))) tk) (put r o.bB.dst v) bY)
def tS (base:Nat):List (Nat×eQ)→List Nat→(aJ→List R→ρ)→df→aJ→List R→ρ
 | [],aa,K,_,r,d=>K (aa.map fun E=>(E,bn r E)) d
 | (c,o)::ds,aa,K,tk,r,d=>
  match o.bB.guard with
  |none=>A2 A P call base c o tk r d (tS base ds aa K)
  |some (E,dZ)=>
   match bn r E with
   | .bool b=>if b=dZ then A2 A P call base c o tk r d (tS base ds aa K) else tS base ds aa K tk (put r o.bB.dst (.bg [])) d
   | .bg []=>tS base ds aa K tk (put r o.bB.dst (.bg [])) d
   |_=>A.ci
structure yA (ρ:Type) where
 n:aJ→List R→ρ
 x:Nat→aJ→List R→ρ
 i:aJ→List R→ρ
def kQ:Nat→fW→yA ρ→aJ→List R→ρ
 |0,_,_,_,_=>A.ci
 |m+1,F,K,r,d=>
  match F with
  | .skip=>K.n r d
  | .region bj aa=>Dd A P call bj (fun r d=>K.n (eW aa r) d) r d
  | .su bj ff aa=>tS A P call d.length bj aa K.n [] r (d++sv ff)
  | .seq a b=>kQ m a ⟨kQ m b K,K.x,K.i⟩ r d
  | .cond F a b=>
   match F.aI r with
   | .bool true=>kQ m a K r d
   | .bool false=>kQ m b K r d
   |_=>A.ci
  | .block id F=>kQ m F ⟨K.n,fun j=>if j=id then K.n else K.x j,K.i⟩ r d
  | .loop F=>kQ m F ⟨kQ m (.loop F) K,K.x,K.i⟩ r d
  | .exit id=>K.x id r d
  | .ret=>K.i r d
def wT (d:List R)(r:aJ):List tJ→(List z→ρ)→ρ
 | [],K=>K []
 | .tmp t::rs,K=>wT d r rs fun vs=>K (bn r t::vs)
 | .FF t::rs,K=>AW A d (bn r t) fun v=>wT d r rs fun vs=>K (v::vs)
 | .tK t n::rs,K=>AX A d n (bn r t) fun v=>wT d r rs fun vs=>K (v::vs)
def Pf (aX:Nat)(ap:List (Option Nat))(v:z)(d:List R)(K:z→List R→ρ):ρ:=
 match ew d [] ap ap with
 |some srows=>cD A (wJ ap&&va aX 0 ap) (K (bU d ap [] v) srows)
 |none=>A.ci
end
structure wU (P:Program) where
 f:FuncId
 aA:aH
 ok: ∃ fn aa,P.funcs[f]? =some fn∧wF P aa fn=some aA
def JQ {P:Program}:List (wU P)→FuncId→Option (wU P)
 | [],_=>none
 |x::ai,f=>if x.f=f then some x else JQ ai f
theorem V4 {P:Program}: ∀ {l:List (wU P)} {f:FuncId} {x:wU P},JQ l f=some x→x.f=f
 | [],_,_,h=>by cases h
 |y::ys,f,x,h=>by
  rw[JQ] at h;split at h
  ·simp at h;subst h;assumption
  ·exact V4 h
section
variable {P:Program} {call:FuncId→List z→List R→(z→List R→Prop)→Prop} (V: ∀ f args d K,call f args d K→aK P f args d K)
theorem JR {bC:List Nat}{tk:df}{W az:List Nat}(h:FW bC tk W az=true):ex bC tk W az:=by
 intro c i w hm an;have:=List.all_eq_true.1 h _ hm;simp only[Bool.or_eq_true,Bool.not_eq_true',Bool.and_eq_true,List.contains_eq_mem,decide_eq_false_iff_not] at this;rcases this with h1|h1
 ·exact absurd an h1
 ·refine⟨h1.1,fun aR=> ?_⟩;rcases h1.2 with B|B
  ·rw[aR] at B;cases B
  ·exact B
theorem V5 {f:FuncId}(h:JP P f=true):I3 P f:=by
 unfold JP at h;split at h
 ·exact⟨_,‹_›,h⟩
 ·cases h
include V
theorem V6 {f:FuncId}{args:List z}{d:List R}{K:z→List R→Prop}(h:C9 eZ call f args d K):tG P f args d K:=by
 unfold C9 AZ at h;split at h
 ·rename_i srows ao;rw[gf] at h;exact⟨_,[],srows,Pe h.1,ao,(V _ _ _ _ h.2).mono fun v rs I=>⟨.inl rfl,I⟩⟩
 ·exact h.elim
theorem aqQ {vs:List z}{d:List R}{K:z→List R→Prop}(h:Da eZ P call vs d K):Az P vs d K:=by
 unfold Da at h;unfold Az;split at h
 ·rw[gf] at h;exact⟨V5 h.1,V6 V h.2⟩
 ·exact h.elim
omit V in
theorem aqR {d:List R}{x:z}{K:z→List R→Prop}(h:Db eZ d x K):rk d x K:=by
 unfold Db at h;unfold rk;split at h
 ·split at h
  ·rename_i h1 B;simp only[h1,B];rw[gf] at h;obtain⟨h0,h⟩:=h;simp only[Bool.and_eq_true,decide_eq_true_eq] at h0;refine⟨h0.1,h0.2,fun aw=> ?_,fun c an aB=> ?_⟩
   ·rw[if_pos] at h
    ·exact h
    ·rw[List.all_eq_true];intro c an;simpa using aw c (List.mem_range.1 an)
   ·rw[if_neg] at h
    ·exact (aqw.1 h) _ (List.mem_map.2 ⟨c,List.mem_filter.2 ⟨List.mem_range.2 an,by simpa using aB⟩,rfl⟩)
    ·rw[List.all_eq_true];intro aw;have:=aw c (List.mem_range.2 an);simp at this;exact aB this
  ·exact h.elim
 ·exact h.elim
theorem V7 {L:dJ}{r:aJ}{d:List R}{K:aJ→List R→Prop}(h:A0 eZ P call L r d K):eV P L r d K:=by
 unfold A0 at h;unfold eV;split at h
 ·rename_i dC;simp only[dC];exact V6 V h
 ·rename_i dC;simp only[dC];split at h
  ·rename_i aw;simp only[aw];exact aqR h
  ·exact h.elim
 ·rename_i dC;simp only[dC];exact aqQ V h
 ·rename_i h1 B am;split
  ·rename_i f hf;exact absurd hf (h1 f)
  ·rename_i hf;exact absurd hf B
  ·rename_i hf;exact absurd hf am
  ·exact V2 h
theorem aqS {L:dJ}{r:aJ}{d:List R}{K:aJ→List R→Prop}(h:Dc eZ P call L r d K):wy P L r d K:=by
 unfold Dc at h;unfold wy;split at h
 ·rename_i ao;simp only[ao];exact V7 V h
 ·rename_i ao;simp only[ao];split at h
  ·rename_i ak;simp only[ak,ss];split at h
   ·rename_i Z;rw[if_pos Z];exact V7 V h
   ·rename_i Z;rw[if_neg Z];exact h
  ·rename_i ak;simp only[ak];exact h
  ·exact h.elim
theorem V8: ∀ {os:List dJ} {K:aJ→List R→Prop} {r:aJ} {d:List R},Dd eZ P call os K r d→yj P os K r d
 | [],_,_,_,h=>h
 |L::os,K,r,d,h=>by
  rw[Dd] at h;rw[yj];exact VE (fun _ _ I=>V8 I) (aqS V h)
theorem V9 {f:FuncId}{args:List z}{bC:List Nat}{tk:df}{d:List R}{K:z→List R→Prop}(h:A1 eZ call f args bC tk d K):wA P f args bC tk d K:=by
 unfold A1 at h;split at h
 ·rename_i I;unfold AZ at h;split at h
  ·rename_i srows ao;rw[gf] at h;exact⟨_,[],srows,JR I,Pe h.1,ao,(V _ _ _ _ h.2).mono fun v rs I=>⟨.inl rfl,I⟩⟩
  ·exact h.elim
 ·rw[gf] at h;refine⟨[],_,[],JR h.1,List.nodup_nil,rfl,(V _ _ _ _ h.2).mono fun v rs I=> ?_⟩;rw[gf,Bool.and_eq_true] at I;exact⟨.inr I.1,I.2⟩
theorem aqT {vs:List z}{bC:List Nat}{tk:df}{d:List R}{K:z→List R→Prop}(h:De eZ P call vs bC tk d K):tH P vs bC tk d K:=by
 unfold De at h;unfold tH;split at h
 ·rw[gf] at h;exact⟨V5 h.1,V9 V h.2⟩
 ·exact h.elim
omit V in
theorem JS {d:List R}{k:Nat}{e:TypeId}{N:Nat}(h:Df d k e N=true):d[k]? =some (.aa e N []):=by
 unfold Df at h;split at h
 ·rename_i G;simp only[Bool.and_eq_true,decide_eq_true_eq] at h;rw[G,h.1,h.2]
 ·cases h
omit V in
theorem aqU {op:fV}{args:List z}{k:Nat}{d:List R}{K:z→List R→Prop}(h:Dg eZ op args k d K):iZ op args k d K:=by
 unfold Dg at h;split at h
 ·rw[gf] at h;exact⟨JS h.1,h.2⟩
 ·simp only[gf,Bool.and_eq_true,decide_eq_true_eq] at h;exact⟨h.1.1,JS h.1.2,h.2⟩
 ·split at h
  ·rename_i hf;simp only[gf,Bool.and_eq_true,decide_eq_true_eq] at h;simp only[iZ,hf];exact⟨h.1.1,JS h.1.2,h.2⟩
  ·exact h.elim
 ·simp only[gf,Bool.and_eq_true,decide_eq_true_eq] at h;exact⟨h.1.1,JS h.1.2,h.2⟩
 ·exact h.elim
theorem Wa {base c:Nat}{o:eQ}{tk:df}{r:aJ}{d:List R}{K:df→aJ→List R→Prop}(h:A2 eZ P call base c o tk r d K):gO P base c o tk r d K:=by
 unfold A2 at h;unfold gO;split at h
 ·rename_i aQ;simp only[aQ];rw[gf] at h;exact⟨JR h.1,aqU h.2⟩
 ·rename_i aQ;simp only[aQ];split at h
  ·rename_i dC;simp only[dC];exact V9 V h
  ·rename_i dC;simp only[dC];exact aqT V h
  ·rename_i h1 B;split
   ·rename_i f hf;exact absurd hf (h1 f)
   ·rename_i hf;exact absurd hf B
   ·rw[gf] at h;exact⟨JR h.1,V2 h.2⟩
theorem FX {base:Nat}: ∀ {ds:List (Nat×eQ)} {aa:List Nat} {K:aJ→List R→Prop} {tk:df} {r:aJ} {d:List R},tS eZ P call base ds aa K tk r d→ny P base ds aa K tk r d
 | [],_,_,_,_,_,h=>h
 | (c,o)::ds,aa,K,tk,r,d,h=>by
  rw[tS] at h;rw[ny];split at h
  ·rename_i ao;simp only[ao];exact Jz (fun _ _ _ I=>FX I) (Wa V h)
  ·rename_i ao;simp only[ao,qF];split at h
   ·rename_i ak;simp only[ak,ss];split at h
    ·rename_i Z;rw[if_pos Z];exact Jz (fun _ _ _ I=>FX I) (Wa V h)
    ·rename_i Z;rw[if_neg Z];exact FX h
   ·rename_i ak;simp only[ak];exact FX h
   ·exact h.elim
omit V in
theorem Wb {p:Nat→Prop}(h: ∃ n,p n): ∃ n,p n∧ ∀ m,p m→n≤m:=by
 obtain⟨n,aB⟩:=h
 induction n using Nat.strongRecOn with
 |ind n ih=>
  by_cases hm: ∃ m,m < n∧p m
  ·obtain⟨m,h1,B⟩:=hm;exact ih m h1 B
  ·exact⟨n,aB,fun m h=>Nat.le_of_not_lt fun hl=>hm ⟨m,hl,h⟩⟩
omit V in
open Classical in
noncomputable def Dh (p:Nat→Prop):Nat:=if h: ∃ n,p n then (Wb h).choose else 0
omit V in
theorem Wc {p:Nat→Prop}(h: ∃ n,p n):p (Dh p)∧ ∀ m,p m→Dh p≤m:=by
 unfold Dh;rw[dif_pos h];exact (Wb h).choose_spec
def yA.p (K:yA Prop):nx:=⟨K.n,K.x,K.i⟩
theorem A3 {aX:Nat}: ∀ (F:fW) (m:Nat) (K:yA Prop) (r:aJ) (d:List R),kQ eZ P call m F K r d→eX P aX F K.p r d
 |_,0,_,_,_,h=>h.elim
 | .skip,m+1,K,r,d,h=>h
 | .region bj aa,m+1,K,r,d,h=>V8 V h
 | .su bj ff aa,m+1,K,r,d,h=>FX V h
 | .seq a b,m+1,K,r,d,h=>by
  rw[kQ] at h;rw[eX];exact tQ a (K:=⟨kQ eZ P call m b K,K.x,K.i⟩) (fun e i I=>A3 b m K e i I) (fun _ _ _ I=>I) (fun _ _ I=>I) (A3 a m _ r d h)
 | .cond F a b,m+1,K,r,d,h=>by
  simp only[kQ] at h;rw[eX];split at h
  ·rename_i Z;simp only[Z,qB];exact⟨fun _=>A3 a m K r d h,fun e=>(by cases e)⟩
  ·rename_i Z;simp only[Z,qB];exact⟨fun e=>(by cases e),fun _=>A3 b m K r d h⟩
  ·exact h.elim
 | .block id F,m+1,K,r,d,h=>by
  rw[kQ] at h;rw[eX];exact tQ F (fun _ _ I=>I) (fun j e i I=>by
   simp only[yA.p] at I ⊢;split
   ·rename_i aT;rw[if_pos aT] at I;exact I
   ·rename_i aT;rw[if_neg aT] at I;exact I) (fun _ _ I=>I) (A3 F m _ r d h)
 | .loop F,m+1,K,r,d,h=>by
  rw[eX];refine⟨fun e i=> ∃ f,kQ eZ P call f (.loop F) K e i,fun e i=>Dh fun f=>kQ eZ P call f (.loop F) K e i,s.U ⟨m+1,h⟩,?_⟩;intro e i hE;have hl:=Wc hE;generalize hf:Dh (fun f=>kQ eZ P call f (.loop F) K e i)=f at hl;cases f with
  |zero=>exact hl.1.elim
  |succ g=>
   have h1:=hl.1;rw[kQ] at h1;refine tQ F (K:=⟨kQ eZ P call g (.loop F) K,K.x,K.i⟩) (fun cA cy I=>s.U ⟨⟨g,I⟩,?_⟩) (fun _ _ _ I=>I) (fun _ _ I=>I) (A3 F g _ e i h1);exact Nat.lt_of_le_of_lt ((Wc (p:=fun f=>kQ eZ P call f (.loop F) K cA cy) ⟨g,I⟩).2 g I) (by show g < Dh (fun f=>kQ eZ P call f (.loop F) K e i);omega)
 | .exit id,m+1,K,r,d,h=>h
 | .ret,m+1,K,r,d,h=>h
omit V in
theorem aqV {d:List R}{x:z}{K aF:z→Prop}(I: ∀ v,K v→aF v)(h:pL d x K):pL d x aF:=by
 unfold pL at h ⊢;split at h
 ·split at h
  ·rename_i G;first|exact⟨h.1,h.2.1,I _ h.2.2⟩| (simp only[G];exact⟨h.1,h.2.1,I _ h.2.2⟩)
  ·exact h.elim
 ·exact⟨h.1,I _ h.2⟩
 ·exact h.elim
omit V in
theorem aqW {d:List R}{n:Nat}{x:z}{K aF:z→Prop}(I: ∀ v,K v→aF v)(h:oc d n x K):oc d n x aF:=by
 unfold oc at h ⊢;split at h
 ·split at h
  ·rename_i G;first|exact⟨h.1,h.2.1,I _ h.2.2⟩| (simp only[G];exact⟨h.1,h.2.1,I _ h.2.2⟩)
  ·exact h.elim
 ·exact⟨h.1,I _ h.2⟩
 ·exact h.elim
omit V in
theorem JU {d:List R}{r:aJ}: ∀ {rs:List tJ} {K aF:List z→Prop},(∀ vs,K vs→aF vs)→wT eZ d r rs K→mj d r rs aF
 | [],_,_,I,h=>I _ h
 | .tmp t::rs,K,aF,I,h=>JU (rs:=rs) (fun vs=>I _) h
 | .FF t::rs,K,aF,I,h=>by
  rw[wT] at h;rw[mj];exact aqV (fun v ag=>JU (fun vs=>I _) ag) (V0 h)
 | .tK t n::rs,K,aF,I,h=>by
  rw[wT] at h;rw[mj];exact aqW (fun v ag=>JU (fun vs=>I _) ag) (V1 h)
end
end Go.Abs
namespace Go.Abs
def pQ (t:Nat):Nat:=Nat.shiftLeft 1 t
def Wd:Operand→Nat
 | .tmp t=>pQ t
 |_=>0
def We:List Operand→Nat
 | []=>0
 |x::ai=>Nat.lor (Wd x) (We ai)
def ard (all:Array Oper)(j:Nat):Nat:=
 match all[j]? with
 |some L=>match L.dst with|some E=>pQ E|none=>0
 |none=>0
def Pj (all:Array Oper):List Oper→Nat→Nat
 | [],dP=>dP
 |L::os,dP=>Nat.lor (Nat.lor (match L.dst with|some o=>Nat.xor (Nat.lor (Pj all os dP) (pQ o)) (pQ o)|none=>Pj all os dP) (We L.op.operands.toList)) (match L.guard with|some (j,_)=>ard all j|none=>0)
def Wg (id:Nat):List (Nat×Nat)→Nat
 | []=>0
 |p::O=>match Nat.beq p.1 id with|true=>p.2|false=>Wg id O
def vj (dD:Nat):Code→(gx:List (Nat×Nat))→(dP:Nat)→Nat
 | .skip,_,dP=>dP
 | .region _ bj _,_,dP=>Pj bj bj.toList dP
 | .seq a b,gx,dP=>vj dD a gx (vj dD b gx dP)
 | .cond F a b,gx,dP=>Nat.lor (Nat.lor (vj dD a gx dP) (vj dD b gx dP)) (Wd F)
 | .block id F,gx,dP=>vj dD F ((id,dP)::gx) dP
 | .loop F,gx,_=>vj dD F gx 0
 | .exit id,gx,_=>Wg id gx
 | .ret,_,_=>dD
 |_,_,dP=>dP
def FY:List Edge→Nat
 | []=>0
 |e::al=>match Region.binds .any e with|true=>Nat.lor (pQ e.on) (FY al)|false=>FY al
def wW (E:Nat):Nat→Nat→List Nat
 |0,_=> []
 |k+1,c=>match Nat.land (Nat.shiftRight E c) 1 with|0=>wW E k (c+1)|_=>c::wW E k (c+1)
def are (acc:List Nat):Nat→Nat→Nat→Nat
 |_,0,_=>0
 |E,k+1,c=>match acc with
  | []=>0
  |a::as=>Nat.lor (Nat.mul (Nat.land (Nat.shiftRight E c) 1) (Nat.lor a (pQ c))) (are as E k (c+1))
def Pk (n:Nat):List Oper→Nat→Nat→Nat
 | [],_,acc=>acc
 |L::os,c,acc=>Pk n os (c+1) (Nat.lor acc (Nat.shiftLeft (Wh n acc (FY L.after.toList) n 0) (Nat.mul n c)))
where
 Wh (n acc E:Nat):Nat→Nat→Nat
  |0,_=>0
  |k+1,c=>Nat.lor (Nat.mul (Nat.land (Nat.shiftRight E c) 1) (Nat.lor (pQ c) (Nat.mod (Nat.shiftRight acc (Nat.mul n c)) (pQ n)))) (Wh n acc E k (c+1))
def Wi (n dy:Nat):Nat→Nat→List (List Nat)
 |0,_=> []
 |k+1,c=>wW (Nat.mod (Nat.shiftRight dy (Nat.mul n c)) (pQ n)) n 0::Wi n dy k (c+1)
def A4 (P:Program):Nat→TypeId→List cN
 |0,_=> []
 |o+1,t=>
  match P.underlying t with
  |some (.int k)=> [.int k]
  |some .bool=> [.bool]
  |some .string=> [.str]
  |some (.struct eU)=>eU.toList.flatMap fun f=>A4 P o f.type
  |_=> []
def JV (P:Program)(t:TypeId):Bool:=match gW P t with|some b=>b|none=>false
def arf (P:Program)(L:Oper):Option (fV×List Operand):=
 match L.op with
 | .binOp op t x y _=>
  match P.underlying t with
  |some (.struct _)=>
   match op with
   | .eql=>some (.qA false (A4 P 20 t),[x,y])
   | .neq=>some (.qA true (A4 P 20 t),[x,y])
   |_=>none
  |_=>oN P L
 | .call {callee:= .value (.func f),args:=args,argTypes:=_}=>some (.call f,args.toList)
 | .makeMap t none=>
  match P.underlying t with
  |some (.map k _)=>some (.yn (JV P k) (A4 P 20 k),[])
  |_=>none
 | .lookup t x c ok=>
  match P.underlying t with
  |some (.map k e)=>match xU P e with|some D=>some (.ib ok (JV P k) (A4 P 20 k) D,[x,c])|none=>none
  |_=>none
 | .mapUpdate t m c v=>
  match P.underlying t with
  |some (.map k _)=>some (.oR (JV P k) (A4 P 20 k),[m,c,v])
  |_=>none
 | .mapEntry t m c=>
  match P.underlying t with
  |some (.map k e)=>match xU P e with|some D=>some (.oa (JV P k) (A4 P 20 k) D,[m,c])|none=>none
  |_=>none
 |_=>oN P L
def Pl (bj:Array Oper)(L:Oper):Option (Nat×Bool):=
 match L.guard with
 |none=>none
 |some (j,dZ)=>
  match bj[j]? with
  |some q=>match q.dst with|some E=>some (E,dZ)|none=>none
  |none=>none
def Pn (P:Program)(bj:Array Oper)(L:Oper):dJ:=
 match arf P L with
 |some (op,ai)=>match uQ ai with|some args=>⟨L.dst,op,args,Pl bj L⟩|none=>⟨L.dst,.pK,[],Pl bj L⟩
 |none=>⟨L.dst,.pK,[],Pl bj L⟩
def arh (dD:fV→Option (TypeId×Nat))(P:Program)(bj:Array Oper)(L:Oper):Nat:=
 match (dD (Pn P bj L).op).isSome|| !nu (Pn P bj L).op with|true=>1|false=>0
def Po (dD:fV→Option (TypeId×Nat))(P:Program)(bj:Array Oper):List Oper→Nat→Nat
 | [],_=>0
 |L::os,c=>Nat.lor (Nat.shiftLeft (arh dD P bj L) c) (Po dD P bj os (c+1))
def Wj (dO:Nat):List Oper→Nat→Nat
 | [],_=>0
 |L::os,c=>Nat.lor (match Nat.beq (Nat.land (FY L.after.toList) dO) (FY L.after.toList) with|true=>Nat.xor (Nat.lor (pQ c) (Nat.land dO (pQ c))) (Nat.land dO (pQ c))|false=>0) (Wj dO os (c+1))
def Wk (E:Nat):Nat:=Nat.log2 (Nat.xor E (Nat.land E (Nat.sub E 1)))
def Wl (ready oX:Nat):Nat:=match Nat.land ready oX with|0=>Wk ready|i=>Wk i
def Pp (bj:List Oper)(oX:Nat):Nat→Nat→Nat→Nat→Nat
 |0,_,_,acc=>acc
 |k+1,dO,c,acc=>
  match Wj dO bj 0 with
  |0=>acc
  |i=>Pp bj oX k (Nat.lor dO (pQ (Wl i oX))) (Nat.add c 10) (Nat.lor acc (Nat.shiftLeft (Wl i oX) c))
def Pq (L:Nat):Nat→Nat→List Nat
 |0,_=> []
 |k+1,c=>Nat.mod (Nat.shiftRight L c) 1024::Pq L k (c+10)
def Ps (dD:fV→Option (TypeId×Nat))(P:Program)(n:Nat)(bj:Array Oper)(aa:List Nat):oU:=
 ⟨aa,Wi bj.size (Pk bj.size bj.toList 0 0) bj.size 0,Pq (Pp bj.toList (Po dD P bj bj.toList 0) bj.size 0 0 0) bj.size 0⟩
def A5 (P:Program)(n dD:Nat):Code→(gx:List (Nat×Nat))→(dP:Nat)→List (Nat×oU)
 | .region id _ false,_,dP=> [(id,⟨wW dP n 0,[],[]⟩)]
 | .region id bj true,_,dP=>
  match gw P n (fun _=>Ps CC P n bj []) (.region id bj true) with
  |some _=> [(id,Ps CC P n bj (wW dP n 0))]
  |none=> [(id,Ps Jf P n bj (wW dP n 0))]
 | .seq a b,gx,dP=>A5 P n dD a gx (vj dD b gx dP)++A5 P n dD b gx dP
 | .cond _ a b,gx,dP=>A5 P n dD a gx dP++A5 P n dD b gx dP
 | .block id F,gx,dP=>A5 P n dD F ((id,dP)::gx) dP
 | .loop F,gx,_=>A5 P n dD F gx (vj dD F gx 0)
 |_,_,_=> []
def Di:List ResultVar→Nat
 | []=>0
 | .tmp t::rs=>Nat.lor (pQ t) (Di rs)
 | .cell a _::rs=>Nat.lor (pQ a) (Di rs)
def Wm (P:Program)(fn:Func):List (Nat×oU):=
 match fn.body with
 |some F=>A5 P fn.ntmps (Di fn.results.toList) F [] (Di fn.results.toList)
 |none=> []
theorem ari {n:Nat}:Int.ofNat n=(n:Int):=rfl
theorem arj {n:Nat}{h:n < 2^8}: (⟨⟨⟨n,h⟩⟩⟩:UInt8)=UInt8.ofNatLT n h:=rfl
def JW (P:Program)(bj:Array Oper):List Oper→List dJ
 | []=> []
 |L::os=>Pn P bj L::JW P bj os
def JX:List dJ→Nat→dJ
 | [],_=>default
 |x::ai,c=>match c with|0=>x|c+1=>JX ai c
def Pt (dD:fV→Option (TypeId×Nat)):List dJ→List (TypeId×Nat)
 | []=> []
 |x::ai=>match dD x.op with|some p=>p::Pt dD ai|none=>Pt dD ai
def Pu (dD:fV→Option (TypeId×Nat)):List dJ→Nat→Nat→Option Nat
 | [],_,_=>none
 |x::ai,c,q=>match c with
  |0=>match dD x.op with|some _=>some q|none=>none
  |c+1=>match dD x.op with|some _=>Pu dD ai c (Nat.add q 1)|none=>Pu dD ai c q
def ark (x y:dJ):Bool:=
 match x.op,x.guard,y.op,y.guard with
 | .ib false _ _ (.int _ _),none,.oa _ _ (.int _ _),none=>true
 |_,_,_,_=>false
def Pv (eh:List dJ)(n dy j:Nat):Nat→Nat→List Nat
 |0,_=> []
 |k+1,c=>match Nat.lor (match ark (JX eh c) (JX eh j) with|true=>1|false=>0)<|Nat.lor (Nat.lor (match Nat.beq c j with|true=>1|false=>0) (Nat.land (Nat.shiftRight dy (Nat.add (Nat.mul n j) c)) 1)) (Nat.land (Nat.shiftRight dy (Nat.add (Nat.mul n c) j)) 1) with
  |0=>c::Pv eh n dy j k (c+1)
  |_=>Pv eh n dy j k (c+1)
def Wn (dD:fV→Option (TypeId×Nat))(eh:List dJ)(n dy:Nat):List Nat→List (Nat×eQ)
 | []=> []
 |c::is=>(c,⟨JX eh c,Pu dD eh c 0,Pv eh n dy c n 0⟩)::Wn dD eh n dy is
def Wo (dD:fV→Option (TypeId×Nat))(P:Program)(n:Nat)(bj:Array Oper)(aa:List Nat):fW:=
 .su (Wn dD (JW P bj bj.toList) bj.size (Pk bj.size bj.toList 0 0) (Pq (Pp bj.toList (Po dD P bj bj.toList 0) bj.size 0 0 0) bj.size 0)) (Pt dD (JW P bj bj.toList)) aa
def Wp (id:Nat):List Nat→Bool
 | []=>false
 |x::ai=>match Nat.beq x id with|true=>true|false=>Wp id ai
def A6 (P:Program)(m:List Nat)(n dD:Nat):Code→(gx:List (Nat×Nat))→(dP:Nat)→fW
 | .skip,_,_=> .skip
 | .region _ bj false,_,dP=> .region (JW P bj bj.toList) (wW dP n 0)
 | .region id bj true,_,dP=>match Wp id m with|true=>Wo Jf P n bj (wW dP n 0)|false=>Wo CC P n bj (wW dP n 0)
 | .seq a b,gx,dP=> .seq (A6 P m n dD a gx (vj dD b gx dP)) (A6 P m n dD b gx dP)
 | .cond F a b,gx,dP=> .cond (match rr F with|some x=>x|none=>default) (A6 P m n dD a gx dP) (A6 P m n dD b gx dP)
 | .block id F,gx,dP=> .block id (A6 P m n dD F ((id,dP)::gx) dP)
 | .loop F,gx,_=> .loop (A6 P m n dD F gx (vj dD F gx 0))
 | .exit id,_,_=> .exit id
 | .ret,_,_=> .ret
 |_,_,_=> .skip
def Pw (P:Program)(m:List Nat)(fn:Func):aH:=
 match fn.body with
 |some F=>⟨fn.ntmps,(match yq P fn.results.toList with|some l=>l|none=> []),A6 P m fn.ntmps (Di fn.results.toList) F [] (Di fn.results.toList)⟩
 |none=>default
structure aM (P:Program) (m:List Nat) (fn:Func) where
 aA:aH
 ok:Pw P m fn=aA
theorem aN {P:Program}{m:List Nat}{f:Func}{a:aH}(h:Pw P m f=a:=by conv=>lhs;reduce;dsimp only[ari,Int.ofNat_zero,Int.ofNat_one,Int.reduceNegSucc,Int.cast_ofNat_Int,arj,UInt8.reduceOfNatLT]):Pw P m f=a:=h
abbrev aL (P:Program)(f:Func)(a:aH):Prop:=wF P (ei (Wm P f)) f=some a
theorem aO {P:Program}{f:Func}{a:aH}(h:wF P (ei (Wm P f)) f=some a:=by kernel_rfl):aL P f a:=h
end Go.Abs
namespace Go.Abs
variable [dw]
structure JY {ρ dv:Type} (A:gR ρ) (fl:gR dv) (i:ρ→dv→Prop):Prop where
 ci: ∀ p,i A.ci p
 all: ∀ (l:List Nat) (f:Nat→ρ) (g:Nat→dv),(∀ c∈l,i (f c) (g c))→i (A.all (l.map f)) (fl.all (l.map g))
section
variable {ρ dv:Type} {A:gR ρ} {fl:gR dv} {i:ρ→dv→Prop} (ae:JY A fl i)
include ae
theorem hu {b:Bool}{k:ρ}{bo:dv}(h:i k bo):i (cD A b k) (cD fl b bo):=by
 cases b
 ·exact ae.ci _
 ·exact h
theorem arl {d:List R}{x:z}{K:z→List R→ρ}{aF:z→List R→dv}(I: ∀ v rs,i (K v rs) (aF v rs)):i (CS A d x K) (CS fl d x aF):=by
 unfold CS
 repeat' split
 all_goals first|exact ae.ci _|exact hu ae (I _ _)
theorem arm {op:BinOp}{x y:z}{K:z→ρ}{aF:z→dv}(I: ∀ v,i (K v) (aF v)):i (CU A op x y K) (CU fl op x y aF):=by
 unfold CU
 repeat' split
 all_goals first|exact ae.ci _|exact hu ae (I _)|exact I _
theorem Wq {d:List R}{x:z}{K:z→ρ}{aF:z→dv}(I: ∀ v,i (K v) (aF v)):i (AW A d x K) (AW fl d x aF):=by
 unfold AW
 repeat' split
 all_goals first|exact ae.ci _|exact hu ae (I _)|exact I _
theorem Wr {d:List R}{m:Nat}{x:z}{K:z→ρ}{aF:z→dv}(I: ∀ v,i (K v) (aF v)):i (AX A d m x K) (AX fl d m x aF):=by
 unfold AX
 repeat' split
 all_goals first|exact ae.ci _|exact hu ae (I _)|exact I _
theorem arn {d:List R}{m:Nat}{x y:z}{K:List R→ρ}{aF:List R→dv}(I: ∀ v,i (K v) (aF v)):i (CV A d m x y K) (CV fl d m x y aF):=by
 unfold CV
 repeat' split
 all_goals first|exact ae.ci _|exact hu ae (I _)|exact I _
theorem aro {o:Nat}{x:z}{K:z→ρ}{aF:z→dv}(I: ∀ v,i (K v) (aF v)):i (CW A o x K) (CW fl o x aF):=by
 unfold CW
 repeat' split
 all_goals first|exact ae.ci _|exact hu ae (I _)|exact I _
theorem arp {d:List R}{N:Nat}{x y:z}{K:z→ρ}{aF:z→dv}(I: ∀ v,i (K v) (aF v)):i (CX A d N x y K) (CX fl d N x y aF):=by
 unfold CX
 repeat' split
 all_goals first|exact ae.ci _|exact hu ae (I _)|exact I _
theorem arq {d:List R}{fk an:Option z}{N:Nat}{x:z}{K:z→ρ}{aF:z→dv}(I: ∀ v,i (K v) (aF v)):i (wR A d fk an N x K) (wR fl d fk an N x aF):=by
 unfold wR;cases sk x with
 |none=>exact ae.ci _
 |some l=>
  dsimp only
  split
  ·refine hu ae ?_
   repeat' split
   all_goals first|exact ae.ci _|exact hu ae (I _)|exact I _
  ·exact ae.ci _
theorem arr {fk an:Option z}{x:z}{K:z→ρ}{aF:z→dv}(I: ∀ v,i (K v) (aF v)):i (wS A fk an x K) (wS fl fk an x aF):=by
 unfold wS
 repeat' split
 all_goals first|exact ae.ci _|exact hu ae (I _)|exact I _
theorem ars {d:List R}{x:z}{K:z→ρ}{aF:z→dv}(I: ∀ v,i (K v) (aF v)):i (CY A d x K) (CY fl d x aF):=by
 unfold CY
 repeat' split
 all_goals first|exact ae.ci _|exact hu ae (I _)|exact I _
theorem art {d:List R}{e:TypeId}{N b:Nat}{x y:z}{K:z→List R→ρ}{aF:z→List R→dv}(I: ∀ v rs,i (K v rs) (aF v rs)):i (CZ A d e N b x y K) (CZ fl d e N b x y aF):=by
 unfold CZ
 repeat' split
 all_goals first|exact ae.ci _|exact hu ae (I _ _)
theorem aru {d:List R}{ok aE:Bool}{M:List cN}{zero x k:z}{K:z→ρ}{aF:z→dv}(I: ∀ v,i (K v) (aF v)):i (C0 A d ok aE M zero x k K) (C0 fl d ok aE M zero x k aF):=by
 unfold C0;split
 ·exact ae.ci _
 ·exact hu ae (I _)
theorem arv {d:List R}{aE:Bool}{M:List cN}{x k v:z}{K:List R→ρ}{aF:List R→dv}(I: ∀ v,i (K v) (aF v)):i (C1 A d aE M x k v K) (C1 fl d aE M x k v aF):=by
 unfold C1
 repeat' split
 all_goals first|exact ae.ci _|exact hu ae (I _)|exact I _
theorem arw {d:List R}{aE:Bool}{M:List cN}{zero x k:z}{K:z→List R→ρ}{aF:z→List R→dv}(I: ∀ v rs,i (K v rs) (aF v rs)):i (C2 A d aE M zero x k K) (C2 fl d aE M zero x k aF):=by
 unfold C2
 repeat' split
 all_goals first|exact ae.ci _|exact hu ae (I _ _)
theorem arx {d:List R}{x c v:z}{K:List R→ρ}{aF:List R→dv}(I: ∀ v,i (K v) (aF v)):i (C3 A d x c v K) (C3 fl d x c v aF):=by
 unfold C3
 repeat' split
 all_goals first|exact ae.ci _|exact hu ae (I _)|exact I _
theorem ary {d:List R}{x:z}{K:z→List R→ρ}{aF:z→List R→dv}(I: ∀ v rs,i (K v rs) (aF v rs)):i (C4 A d x K) (C4 fl d x aF):=by
 unfold C4
 repeat' split
 all_goals first|exact ae.ci _|exact I _ _
theorem arz {d:List R}{x:z}{K:z→ρ}{aF:z→dv}(I: ∀ v,i (K v) (aF v)):i (C5 A d x K) (C5 fl d x aF):=by
 unfold C5
 repeat' split
 all_goals first|exact ae.ci _|exact hu ae (I _)|exact I _
theorem arA {d:List R}{N:Nat}{x y:z}{K:z→List R→ρ}{aF:z→List R→dv}(I: ∀ v rs,i (K v rs) (aF v rs)):i (C6 A d N x y K) (C6 fl d N x y aF):=by
 unfold C6
 repeat' split
 all_goals first|exact ae.ci _|exact hu ae (I _ _)
theorem arB {d:List R}{N:Nat}{zero:List z}{x:z}{K:List R→ρ}{aF:List R→dv}(I: ∀ v,i (K v) (aF v)):i (C7 A d N zero x K) (C7 fl d N zero x aF):=by
 unfold C7
 repeat' split
 all_goals first|exact ae.ci _|exact hu ae (I _)|exact I _
theorem arC {len N:Nat}{x y:z}{K:z→ρ}{aF:z→dv}(I: ∀ v,i (K v) (aF v)):i (C8 A len N x y K) (C8 fl len N x y aF):=by
 unfold C8
 repeat' split
 all_goals first|exact ae.ci _|exact hu ae (I _)|exact I _
theorem Ws {op:fV}{args:List z}{d:List R}{K:z→List R→ρ}{aF:z→List R→dv}(I: ∀ v rs,i (K v rs) (aF v rs)):i (AY A op args d K) (AY fl op args d aF):=by
 unfold AY;split
 all_goals first
  |exact ae.ci _
  |exact I _ _
  |exact hu ae (I _ _)
  |exact Wq ae fun _=>I _ _
  |exact Wr ae fun _=>I _ _
  |exact arn ae fun _=>I _ _
  |exact arm ae fun _=>I _ _
  |exact aro ae fun _=>I _ _
  |exact arp ae fun _=>I _ _
  |exact arq ae fun _=>I _ _
  |exact arr ae fun _=>I _ _
  |exact art ae I
  |exact ars ae fun _=>I _ _
  |exact arl ae I
  |exact arA ae I
  |exact arC ae fun _=>I _ _
  |exact aru ae fun _=>I _ _
  |exact arv ae fun _=>I _ _
  |exact arw ae I
  |exact arx ae fun _=>I _ _
  |exact ary ae I
  |exact arz ae fun _=>I _ _
  |exact arB ae fun _=>I _ _
  | (split<;>first|exact ae.ci _|exact I _ _|exact hu ae (I _ _))
variable {P:Program} {call:FuncId→List z→List R→(z→List R→ρ)→ρ} {sC:FuncId→List z→List R→(z→List R→dv)→dv}
 (V: ∀ f args d K aF,(∀ v rs,i (K v rs) (aF v rs))→i (call f args d K) (sC f args d aF))
include V
theorem Wt {ap:List Nat}{f:FuncId}{args:List z}{d:List R}{K:z→List R→ρ}{aF:z→List R→dv}(I: ∀ v rs,i (K v rs) (aF v rs)):i (AZ A call ap f args d K) (AZ fl sC ap f args d aF):=by
 unfold AZ;split
 ·exact hu ae (V _ _ _ _ _ fun _ _=>I _ _)
 ·exact ae.ci _
theorem Wu {f:FuncId}{args:List z}{d:List R}{K:z→List R→ρ}{aF:z→List R→dv}(I: ∀ v rs,i (K v rs) (aF v rs)):i (C9 A call f args d K) (C9 fl sC f args d aF):=Wt ae V I
theorem arD {vs:List z}{d:List R}{K:z→List R→ρ}{aF:z→List R→dv}(I: ∀ v rs,i (K v rs) (aF v rs)):i (Da A P call vs d K) (Da fl P sC vs d aF):=by
 unfold Da;split
 ·exact hu ae (Wu ae V I)
 ·exact ae.ci _
omit V in
theorem arE {d:List R}{x:z}{K:z→List R→ρ}{aF:z→List R→dv}(I: ∀ v rs,i (K v rs) (aF v rs)):i (Db A d x K) (Db fl d x aF):=by
 unfold Db;split
 ·split
  ·refine hu ae ?_;split
   ·exact I _ _
   ·exact ae.all _ _ _ fun _ _=>I _ _
  ·exact ae.ci _
 ·exact ae.ci _
theorem Wv {L:dJ}{r:aJ}{d:List R}{K:aJ→List R→ρ}{aF:aJ→List R→dv}(I: ∀ e rs,i (K e rs) (aF e rs)):i (A0 A P call L r d K) (A0 fl P sC L r d aF):=by
 unfold A0;split
 ·exact Wu ae V fun _ _=>I _ _
 ·split
  ·exact arE ae fun _ _=>I _ _
  ·exact ae.ci _
 ·exact arD ae V fun _ _=>I _ _
 ·exact Ws ae fun _ _=>I _ _
theorem arF {L:dJ}{r:aJ}{d:List R}{K:aJ→List R→ρ}{aF:aJ→List R→dv}(I: ∀ e rs,i (K e rs) (aF e rs)):i (Dc A P call L r d K) (Dc fl P sC L r d aF):=by
 unfold Dc;split
 ·exact Wv ae V I
 ·split
  ·split
   ·exact Wv ae V I
   ·exact I _ _
  ·exact I _ _
  ·exact ae.ci _
theorem Ww: ∀ {os:List dJ} {K:aJ→List R→ρ} {aF:aJ→List R→dv} {r:aJ} {d:List R},(∀ e rs,i (K e rs) (aF e rs))→i (Dd A P call os K r d) (Dd fl P sC os aF r d)
 | [],_,_,_,_,I=>I _ _
 |_::_,_,_,_,_,I=>arF ae V fun _ _=>Ww I
theorem Wx {f:FuncId}{args:List z}{bC:List Nat}{tk:df}{d:List R}{K:z→List R→ρ}{aF:z→List R→dv}(I: ∀ v rs,i (K v rs) (aF v rs)):i (A1 A call f args bC tk d K) (A1 fl sC f args bC tk d aF):=by
 unfold A1;split
 ·exact Wt ae V I
 ·exact hu ae (V _ _ _ _ _ fun _ _=>hu ae (I _ _))
theorem arG {vs:List z}{bC:List Nat}{tk:df}{d:List R}{K:z→List R→ρ}{aF:z→List R→dv}(I: ∀ v rs,i (K v rs) (aF v rs)):i (De A P call vs bC tk d K) (De fl P sC vs bC tk d aF):=by
 unfold De;split
 ·exact hu ae (Wx ae V I)
 ·exact ae.ci _
omit V in
theorem arH {op:fV}{args:List z}{k:Nat}{d:List R}{K:z→List R→ρ}{aF:z→List R→dv}(I: ∀ v rs,i (K v rs) (aF v rs)):i (Dg A op args k d K) (Dg fl op args k d aF):=by
 unfold Dg;split
 all_goals first
  |exact ae.ci _
  |exact hu ae (I _ _)
  | (split<;>first|exact ae.ci _|exact hu ae (I _ _))
theorem Wy {base c:Nat}{o:eQ}{tk:df}{r:aJ}{d:List R}{K:df→aJ→List R→ρ}{aF:df→aJ→List R→dv}(I: ∀ t e rs,i (K t e rs) (aF t e rs)):i (A2 A P call base c o tk r d K) (A2 fl P sC base c o tk r d aF):=by
 unfold A2;split
 ·exact hu ae (arH ae fun _ _=>I _ _ _)
 ·split
  ·exact Wx ae V fun _ _=>I _ _ _
  ·exact arG ae V fun _ _=>I _ _ _
  ·exact hu ae (Ws ae fun _ _=>I _ _ _)
theorem FZ {base:Nat}: ∀ {ds:List (Nat×eQ)} {aa:List Nat} {K:aJ→List R→ρ} {aF:aJ→List R→dv} {tk:df} {r:aJ} {d:List R},(∀ e rs,i (K e rs) (aF e rs))→i (tS A P call base ds aa K tk r d) (tS fl P sC base ds aa aF tk r d)
 | [],_,_,_,_,_,_,I=>I _ _
 | (c,o)::ds,aa,K,aF,tk,r,d,I=>by
  rw[tS,tS];split
  ·exact Wy ae V fun _ _ _=>FZ I
  ·split
   ·split
    ·exact Wy ae V fun _ _ _=>FZ I
    ·exact FZ I
   ·exact FZ I
   ·exact ae.ci _
theorem yB: ∀ (m:Nat) (F:fW) (K:yA ρ) (aF:yA dv) (r:aJ) (d:List R),(∀ e rs,i (K.n e rs) (aF.n e rs))→(∀ j e rs,i (K.x j e rs) (aF.x j e rs))→(∀ e rs,i (K.i e rs) (aF.i e rs))→i (kQ A P call m F K r d) (kQ fl P sC m F aF r d)
 |0,_,_,_,_,_,_,_,_=>ae.ci _
 |m+1,F,K,aF,r,d,h1,B,am=>by
  cases F with
  |skip=>exact h1 _ _
  |region bj aa=>exact Ww ae V fun _ _=>h1 _ _
  |su bj ff aa=>exact FZ ae V h1
  |seq a b=>exact yB m a _ _ _ _ (fun e rs=>yB m b _ _ _ _ h1 B am) B am
  |cond F a b=>
   simp only[kQ];split
   ·exact yB m a _ _ _ _ h1 B am
   ·exact yB m b _ _ _ _ h1 B am
   ·exact ae.ci _
  |block id F=>
   refine yB m F _ _ _ _ h1 (fun j e rs=> ?_) am
   dsimp only
   split
   ·exact h1 _ _
   ·exact B _ _ _
  |loop F=>exact yB m F _ _ _ _ (fun e rs=>yB m (.loop F) _ _ _ _ h1 B am) B am
  |exit id=>exact B _ _ _
  |ret=>exact am _ _
omit V in
theorem JZ {d:List R}{r:aJ}: ∀ {l:List tJ} {K:List z→ρ} {aF:List z→dv},(∀ vs,i (K vs) (aF vs))→i (wT A d r l K) (wT fl d r l aF)
 | [],_,_,I=>I _
 | .tmp t::l,K,aF,I=>JZ (l:=l) fun vs=>I _
 | .FF t::l,K,aF,I=>Wq ae fun v=>JZ fun vs=>I _
 | .tK t n::l,K,aF,I=>Wr ae fun v=>JZ fun vs=>I _
end
def J0 (aX:Nat)(v:z)(d:List R):z×List R:=
 match v with
 | .own i n 0 k=>
  match d[i]? with
  |some (.aa e N ah)=>if k < n∧aX≤i∧n=ah.length then (.own d.length k 0 k,d.set i .fH++ [.aa e N (ah.take k)]) else (v,d)
  |_=>(v,d)
 |_=>(v,d)
theorem arI {aX:Nat}{v:z}{d:List R}{K:aJ→List R→Prop}(h:s aX K [(0,(J0 aX v d).1)] (J0 aX v d).2):s aX K [(0,v)] d:=by
 unfold J0 at h;split at h
 ·split at h
  ·rename_i G;split at h
   ·rename_i V;refine s.nt (.IZ 0 _ _ _ rfl G V.2.2) (s.eW [0] ?_);exact h
   ·exact h
  ·exact h
 ·exact h
def Px {ρ:Type}(A:gR ρ)(aX:Nat)(K:z→List R→ρ)(p:z×List R):ρ:=Pf A aX ((List.range aX++(yz p.2 100000 (List.range aX++JN p.1) []).filter fun i=>decide (aX≤i)).map some) p.1 p.2 K
def wX {ρ:Type}(A:gR ρ)(aX:Nat)(aA:aH)(K:z→List R→ρ)(r:aJ)(d:List R):ρ:=
 wT A d r aA.results fun vs=>Px A aX K (J0 aX (lE vs) d)
theorem Wz {ρ dv:Type}{A:gR ρ}{fl:gR dv}{i:ρ→dv→Prop}(ae:JY A fl i){aX:Nat}{aA:aH}{K:z→List R→ρ}{aF:z→List R→dv}(I: ∀ v rs,i (K v rs) (aF v rs))(r:aJ)(d:List R):i (wX A aX aA K r d) (wX fl aX aA aF r d):=by
 unfold wX;refine JZ ae fun vs=> ?_;unfold Px Pf;split
 ·exact hu ae (I _ _)
 ·exact ae.ci _
structure tU (P:Program) where
 f:FuncId
 run:List z→List R→Option (z×List R)
 ok: ∀ args d v rs,run args d=some (v,rs)→aK P f args d fun gq gX=>gq=v∧gX=rs
def J1 {P:Program}:List (tU P)→FuncId→Option (tU P)
 | [],_=>none
 |x::ai,f=>if x.f=f then some x else J1 ai f
theorem WA {P:Program}: ∀ {l:List (tU P)} {f:FuncId} {x:tU P},J1 l f=some x→x.f=f
 | [],_,_,h=>by cases h
 |y::ys,f,x,h=>by
  rw[J1] at h;split at h
  ·simp at h;subst h;assumption
  ·exact WA h
def yC {ρ:Type}(A:gR ρ)(P:Program)(aP:List (wU P))(aU:List (tU P)):Nat→FuncId→List z→List R→(z→List R→ρ)→ρ
 |0,_,_,_,_=>A.ci
 |o+1,f,args,d,K=>
  match J1 aU f with
  |some x=>
   match x.run args d with
   |some (v,rs)=>K v rs
   |none=>A.ci
  |none=>
   match JQ aP f with
   |some x=>cD A (decide (args.length≤x.aA.ntmps)) (kQ A P (yC A P aP aU o) 1000000 x.aA.body ⟨wX A d.length x.aA K,fun _ _ _=>A.ci,wX A d.length x.aA K⟩ (qC args 0) d)
   |none=>A.ci
theorem WB {ρ dv:Type}{A:gR ρ}{fl:gR dv}{i:ρ→dv→Prop}(ae:JY A fl i){P:Program}{aP:List (wU P)}{aU:List (tU P)}: ∀ (o:Nat) (f:FuncId) (args:List z) (d:List R) (K:z→List R→ρ) (aF:z→List R→dv),(∀ v rs,i (K v rs) (aF v rs))→i (yC A P aP aU o f args d K) (yC fl P aP aU o f args d aF)
 |0,_,_,_,_,_,_=>ae.ci _
 |o+1,f,args,d,K,aF,I=>by
  rw[yC,yC];split
  ·split
   ·exact I _ _
   ·exact ae.ci _
  ·split
   ·exact hu ae (yB ae (fun f args d K aF h=>WB ae o f args d K aF h) _ _ _ _ _ _ (fun e rs=>Wz ae I e rs) (fun _ _ _=>ae.ci _) (fun e rs=>Wz ae I e rs))
   ·exact ae.ci _
theorem WC {P:Program}{aP:List (wU P)}{aU:List (tU P)}: ∀ (o:Nat) (f:FuncId) (args:List z) (d:List R) (K:z→List R→Prop),yC eZ P aP aU o f args d K→aK P f args d K
 |0,_,_,_,_,h=>h.elim
 |o+1,f,args,d,K,h=>by
  rw[yC] at h;split at h
  ·rename_i x ad;split at h
   ·rename_i v rs G;have:=WA ad;subst this;exact (x.ok _ _ _ _ G).mono fun gq gX ag=>by obtain⟨rfl,rfl⟩:=ag;exact h
   ·exact h.elim
  ·split at h
   ·rename_i x ad;rw[gf] at h;obtain⟨aB,h⟩:=h;obtain⟨fn,aa,h1,B⟩:=x.ok;rw[V4 ad] at h1;refine cr h1 B (of_decide_eq_true aB) ?_;have bb: ∀ r rs,wX eZ d.length x.aA K r rs→nz d.length K [] x.aA.results r rs:=by
     intro r rs I;unfold wX at I;unfold nz;refine JU (fun vs ag=> ?_) I;unfold Px Pf at ag;split at ag
     ·rename_i srows ao;rw[gf,Bool.and_eq_true] at ag;refine arI (s.kb _ [] ag.1.1 ag.1.2 ao (s.U ?_));simp only[wI,List.nil_append,List.map_cons,List.map_nil,bn,if_true];exact ag.2
     ·exact ag.elim
    exact tQ _ (K:=(⟨wX eZ d.length x.aA K,fun _ _ _=>eZ.ci,wX eZ d.length x.aA K⟩:yA Prop).p) (fun e i I=>bb e i I) (fun _ _ _ I=>I) (fun e i I=>bb e i I) (A3 (WC o) x.aA.body 1000000 _ (qC args 0) d h)
   ·exact h.elim
def J2:gR (Option (List (z×List R))):=⟨none,fun l=>l.foldr (fun x acc=>match x,acc with|some a,some b=>some (a++b)|_,_=>none) (some [])⟩
theorem arJ (iK:z→List R→Prop):JY J2 eZ fun x p=> ∀ vk,x=some vk→(∀ L∈vk,iK L.1 L.2)→p where
 ci:=fun p vk h=>by cases h
 all:=by
  intro l f g h
  induction l with
  |nil=>intro vk _ _;exact trivial
  |cons c l ih=>
   intro vk bi hG;have ih:=ih fun j aT=>h j (List.mem_cons_of_mem _ aT);have e:J2.all ((c::l).map f)=match f c,J2.all (l.map f) with|some a,some b=>some (a++b)|_,_=>none:=rfl
   rw[e] at bi;split at bi
   ·rename_i a b aw Z;simp only[Option.some.injEq] at bi;subst bi;exact⟨h c List.mem_cons_self a aw fun L hm=>hG L (List.mem_append_left _ hm),ih b Z fun L hm=>hG L (List.mem_append_right _ hm)⟩
   ·cases bi
theorem yD {P:Program}{aP:List (wU P)}{aU:List (tU P)}{f:FuncId}{args:List z}{d:List R}{br:z→List R→Prop}(o:Nat)(vk:List (z×List R))
 (h:yC J2 P aP aU o f args d (fun v rs=>some [(v,rs)])=some vk) (uS: ∀ L∈vk,br L.1 L.2):aK P f args d br:=
 WC o f args d br (WB (arJ br) o f args d _ br (fun v rs vk bi hG=>by cases bi;exact hG (v,rs) List.mem_cons_self) vk h uS)
end Go.Abs
