/- The abstract machine. -/
import Derived.Test.YtpincjkjoeopkaaGreatDoorC5
import Derived.KernelRfl
set_option linter.all false
namespace Go.Abs
variable [dE]
structure hg (ρ:Type) where
 cr:ρ
 all:List ρ->ρ
def fi:hg Prop:=⟨False,λl=>l.foldr And True⟩
def cL {ρ:Type}(A:hg ρ)(b:Bool)(k:ρ):ρ:=match b with|true=>k|false=>A.cr
theorem gn {b:Bool}{k:Prop}:cL fi b k=(b=true/\k):=by cases b<;>simp[cL,fi]
theorem asj {l:List Prop}:fi.all l↔ ∀p∈l,p:=by
 show l.foldr And True↔_
 induction l with
 |nil=>exact⟨λ_ p h=>(by simp at h),λ_=>trivial⟩
 |cons x l ih=>
  constructor
  ·rintro⟨d,G⟩ p ak;rcases aKV.1 ak with rfl|ak
   ·exact d
   ·exact ih.1 G p ak
  ·exact λh=>⟨h x aLa,ih.2 λp ak=>h p (aK1 _ ak)⟩
def wj:List cW->List F->Bool
 | .int k::Y,.int br _::ap=>decide (k=br)&&wj Y ap
 | .bool::Y,.bool _::ap=>wj Y ap
 | .str::Y,.str _::ap=>wj Y ap
 | [],[]=>true
 |_,_=>false
theorem Qf:∀{Y:List cW} {ap:List F},wj Y ap=true->cE Y ap:=by
 intro Y
 induction Y with
 |nil=>intro ap h;cases ap<;>simp[wj] at h;exact trivial
 |cons k Y ih=>
  intro ap h;cases ap with
  |nil=>cases k<;>simp[wj] at h
  |cons J ap=>cases k<;>cases J<;>simp[wj] at h<;>simp[cE]<;>first|exact⟨h.1,ih h.2⟩|exact ih h
def D6 (aK:Bool)(Y:List cW)(k:F):Bool:=decide (mK k=aK)&&wj Y (cp k)
theorem iz {aK:Bool}{Y:List cW}{k:F}(h:D6 aK Y k=true):gb aK Y k:=by
 simp only[D6,aKJ,aKN] at h;exact⟨h.1,Qf h.2⟩
def D7 {ρ:Type}(A:hg ρ)(r:List Z)(x:F)(K:F->List Z->ρ):ρ:=
 match x with
 | .own z n off len=>
  match r[z]? with
  |some (.ag _ U am)=>cL A (decide (n=am.length)&&decide (off=0)&&decide (len=n)&&decide (0<n)&&dY am) (K (.pure U am) (r.set z .fP))
  |_=>A.cr
 |_=>A.cr
def D8 {ρ:Type}(A:hg ρ)(op:BinOp)(x y:F)(K:F->ρ):ρ:=
 match x,y with
 | .int k a,.int br b=>
  match op with
  | .shl=>cL A (decide (0<=b)) (K (.int k (k.wrap (a*2^(min b.toNat k.bits)))))
  | .shr=>cL A (decide (0<=b)) (K (.int k (a.fdiv (2^(min b.toNat k.bits)))))
  | .add=>cL A (decide (k=br)) (K (.int k (k.wrap (a+b))))
  | .sub=>cL A (decide (k=br)) (K (.int k (k.wrap (a-b))))
  | .mul=>cL A (decide (k=br)) (K (.int k (k.wrap (a*b))))
  | .quo=>cL A (decide (k=br)&&decide (b≠0)) (K (.int k (k.wrap (a.tdiv b))))
  | .rem=>cL A (decide (k=br)&&decide (b≠0)) (K (.int k (a.tmod b)))
  | .and=>cL A (decide (k=br)) (K (.int k (k.wrap (BitVec.ofInt k.bits a&&& BitVec.ofInt k.bits b).toNat)))
  | .or=>cL A (decide (k=br)) (K (.int k (k.wrap (BitVec.ofInt k.bits a|||BitVec.ofInt k.bits b).toNat)))
  | .xor=>cL A (decide (k=br)) (K (.int k (k.wrap (BitVec.ofInt k.bits a ^^^ BitVec.ofInt k.bits b).toNat)))
  | .eql=>cL A (decide (k=br)) (K (.bool (a==b)))
  | .neq=>cL A (decide (k=br)) (K (.bool (a != b)))
  | .lss=>cL A (decide (k=br)) (K (.bool (a<b)))
  | .leq=>cL A (decide (k=br)) (K (.bool (a<=b)))
  | .gtr=>cL A (decide (k=br)) (K (.bool (a>b)))
  | .geq=>cL A (decide (k=br)) (K (.bool (a≥b)))
  |_=>A.cr
 | .str a,.str b=>
  match op with
  | .eql=>K (.bool (a.toList==b.toList))
  | .neq=>K (.bool !(a.toList==b.toList))
  | .lss=>K (.bool (Op.bytesLess a.toList b.toList))
  | .leq=>K (.bool (Op.bytesLess a.toList b.toList||a.toList==b.toList))
  | .gtr=>K (.bool !(Op.bytesLess a.toList b.toList||a.toList==b.toList))
  | .geq=>K (.bool !(Op.bytesLess a.toList b.toList))
  | .add=>cL A (decide (((a.size+b.size:Nat):Int)<=IntKind.i64.max)) (K (.str (a++b)))
  |_=>A.cr
 |_,_=>A.cr
def B3 {ρ:Type}(A:hg ρ)(r:List Z)(x:F)(K:F->ρ):ρ:=
 match x with
 | .bd z n c off=>
  match r[z]? with
  |some (.ag _ U am)=>cL A (decide (n=am.length)&&decide (off<U)) (K ((am.getD c []).getD off .cj))
  |_=>A.cr
 | .en cells off=>cL A (decide (off<cells.length)) (K (cells.getD off .cj))
 |_=>A.cr
def B4 {ρ:Type}(A:hg ρ)(r:List Z)(m:Nat)(x:F)(K:F->ρ):ρ:=
 match x with
 | .bd z n c off=>
  match r[z]? with
  |some (.ag _ U am)=>cL A (decide (n=am.length)&&decide (off+m<=U)) (K (.agg (((am.getD c []).drop off).take m)))
  |_=>A.cr
 | .en cells off=>cL A (decide (off+m<=cells.length)) (K (.agg ((cells.drop off).take m)))
 |_=>A.cr
def D9 {ρ:Type}(A:hg ρ)(r:List Z)(m:Nat)(x y:F)(K:List Z->ρ):ρ:=
 match x with
 | .bd z n c off=>
  match r[z]? with
  |some (.ag e U am)=>cL A (decide (n=am.length)&&decide (off+m<=U)&&decide ((cp y).length=m)&&(cp y).all cV) (K (r.set z (.ag e U (am.set c (fb (am.getD c []) off (cp y))))))
  |_=>A.cr
 |_=>A.cr
def Ea {ρ:Type}(A:hg ρ)(B:Nat)(x:F)(K:F->ρ):ρ:=
 match x with
 | .bd z n c off=>K (.bd z n c (off+B))
 | .en cells off=>K (.en cells (off+B))
 |_=>A.cr
def Eb {ρ:Type}(A:hg ρ)(r:List Z)(U:Nat)(x y:F)(K:F->ρ):ρ:=
 match x,y with
 | .pure bz am,.int _ c=>cL A (decide (bz=U)&&decide (0<=c)&&decide (c<am.length)) (K (.en (am.getD c.toNat []) 0))
 | .own z n off len,.int _ c=>
  match r[z]? with
  |some (.ag _ bz am)=>cL A (decide (bz=U)&&decide (n=am.length)&&decide (0<=c)&&decide (c<len)) (K (.bd z n (off+c.toNat) 0))
  |_=>A.cr
 |_,_=>A.cr
def xY {ρ:Type}(A:hg ρ)(r:List Z)(ft av:Option F)(U:Nat)(x:F)(K:F->ρ):ρ:=
 match td x with
 |none=>A.cr
 |some l=>
  match ft.getD (.int .i64 0),av.getD (.int .i64 l) with
  | .int _ a,.int _ b=>cL A (decide (0<=a)&&decide (a<=b)&&decide (b<=l)) (match x with
   | .pure bz am=>cL A (decide (bz=U)) (K (.pure bz ((am.drop a.toNat).take (b.toNat-a.toNat))))
   | .bH=>K .bH
   | .own z n off _=>
    match r[z]? with
    |some (.ag _ bz am)=>cL A (decide (bz=U)&&decide (n=am.length)) (K (.own z n (off+a.toNat) (b.toNat-a.toNat)))
    |_=>A.cr
   |_=>A.cr)
  |_,_=>A.cr
def xZ {ρ:Type}(A:hg ρ)(ft av:Option F)(x:F)(K:F->ρ):ρ:=
 match x with
 | .str I=>
  match ft.getD (.int .i64 0),av.getD (.int .i64 I.size) with
  | .int _ a,.int _ b=>cL A (decide (0<=a)&&decide (a<=b)&&decide (b<=I.size)) (K (.str (I.extract a.toNat b.toNat)))
  |_,_=>A.cr
 |_=>A.cr
def Ec {ρ:Type}(A:hg ρ)(r:List Z)(x:F)(K:F->ρ):ρ:=
 match jr r 1 x with
 |none=>A.cr
 |some ys=>
  match zn ys with
  |some jJ=>K (.str (strOf jJ))
  |none=>A.cr
def Ed {ρ:Type}(A:hg ρ)(r:List Z)(e:TypeId)(U bytes:Nat)(x y:F)(K:F->List Z->ρ):ρ:=
 match jr r U y with
 |none=>A.cr
 |some ys=>
  match x with
  | .bH=>cL A (decide (ys.length*bytes<=140737488355328)) (K (.own r.length ys.length 0 ys.length) (r++[.ag e U ys]))
  | .own z n off len=>
   match r[z]? with
   |some (.ag cO bz am)=>cL A (decide (cO=e)&&decide (bz=U)&&decide (n=am.length)&&decide (off=0)&&decide (len=n)&&decide ((n+ys.length)*bytes<=140737488355328)) (K (.own z (n+ys.length) 0 (n+ys.length)) (r.set z (.ag e U (am++ys))))
   |_=>A.cr
  |_=>A.cr
def Ee {ρ:Type}(A:hg ρ)(r:List Z)(ok aK:Bool)(Y:List cW)(zero x k:F)(K:F->ρ):ρ:=
 match qn r aK Y x with
 |none=>A.cr
 |some ents=>cL A (D6 aK Y k) (K (if ok then .bo [(dm k ents).getD zero,.bool (dm k ents).isSome] else (dm k ents).getD zero))
def Ef {ρ:Type}(A:hg ρ)(r:List Z)(aK:Bool)(Y:List cW)(x k v:F)(K:List Z->ρ):ρ:=
 match x with
 | .bE z=>
  match r[z]? with
  |some (.be (.map gC fV ents))=>cL A (decide ((gC=aK/\fV=Y))&&D6 aK Y k) (K (r.set z (.be (.map aK Y (dy k v ents)))))
  |_=>A.cr
 |_=>A.cr
def Eg {ρ:Type}(A:hg ρ)(r:List Z)(aK:Bool)(Y:List cW)(zero x k:F)(K:F->List Z->ρ):ρ:=
 match x with
 | .bE z=>
  match r[z]? with
  |some (.be (.map gC fV ents))=>cL A (decide ((gC=aK/\fV=Y))&&(D6 aK Y k&&ents.all λp=>D6 aK Y p.1)) (K (.bo [(dm k ents).getD zero,.int .i64 ((gB k ents).getD ents.length)]) (r.set z (.be (.map aK Y (dy k ((dm k ents).getD zero) ents)))))
  |_=>A.cr
 |_=>A.cr
def Eh {ρ:Type}(A:hg ρ)(r:List Z)(x c v:F)(K:List Z->ρ):ρ:=
 match x,c with
 | .bE z,.int _ n=>
  match r[z]? with
  |some (.be (.map aK Y ents))=>cL A (decide (0<=n)&&decide (n<ents.length)) (K (r.set z (.be (.map aK Y (ents.set n.toNat ((ents.getD n.toNat (.cj,.cj)).1,v))))))
  |_=>A.cr
 |_,_=>A.cr
def Ei {ρ:Type}(A:hg ρ)(r:List Z)(x:F)(K:F->List Z->ρ):ρ:=
 match x with
 | .bE m=>
  match r[m]? with
  |some (.be (.map _ _ ents))=>K (.fO r.length m) (r++[.be (.eh ents.length [])])
  |_=>A.cr
 |_=>A.cr
def Ej {ρ:Type}(A:hg ρ)(r:List Z)(x:F)(K:F->ρ):ρ:=
 match x with
 | .fO z m=>
  match r[z]?,r[m]? with
  |some (.be (.eh n bX)),some (.be (.map _ _ ents))=>cL A (decide (n=ents.length)&&decide (0<bX.length)&&decide (bX.getLastD 0<n)) (K (.bo [(ents.getD (bX.getLastD 0) (.cj,.cj)).1,(ents.getD (bX.getLastD 0) (.cj,.cj)).2]))
  |_,_=>A.cr
 |_=>A.cr
def Ek {ρ:Type}(A:hg ρ)(r:List Z)(U:Nat)(x y:F)(K:F->List Z->ρ):ρ:=
 match jr r U y with
 |none=>A.cr
 |some ys=>
  match x with
  | .own z n off len=>
   match r[z]? with
   |some (.ag e bz am)=>cL A (decide (bz=U)&&decide (n=am.length)&&decide (off+len<=n)) (K (.int .i64 ((min ys.length len:Nat):Int)) (r.set z (.ag e U (kw am off (ys.take (min ys.length len))))))
   |_=>A.cr
  |_=>A.cr
def El {ρ:Type}(A:hg ρ)(r:List Z)(U:Nat)(zero:List F)(x:F)(K:List Z->ρ):ρ:=
 match x with
 | .own z n off len=>
  match r[z]? with
  |some (.ag e bz am)=>cL A (decide (bz=U)&&decide (n=am.length)&&decide (off+len<=n)) (K (r.set z (.ag e U (kw am off (List.replicate len zero)))))
  |_=>A.cr
 |_=>A.cr
def Em {ρ:Type}(A:hg ρ)(len U:Nat)(x y:F)(K:F->ρ):ρ:=
 match x,y with
 | .bd z n c off,.int _ j=>cL A (decide (0<=j)&&decide (j<len)) (K (.bd z n c (off+j.toNat*U)))
 | .en cells off,.int _ j=>cL A (decide (0<=j)&&decide (j<len)) (K (.en cells (off+j.toNat*U)))
 |_,_=>A.cr
theorem asl {r:List Z}{x:F}{K:F->List Z->Prop}(h:D7 fi r x K):zq r x K:=by
 unfold D7 at h;unfold zq
 (repeat' (split at h))<;>(try simp only[gn,aKJ,aKN,aKR] at h)<;>(try simp only[aKR])<;>first
  |exact h.elim
  |exact h
  | (rename_i d;simp only[d];exact h)
  | (rename_i d G;simp only[d,G];exact h)
  | (rename_i d;simp only[d,aKR];exact h)
  | (rename_i d G;simp only[d,G,aKR];exact h)
  | (rename_i d G au;simp only[d,G,au,aKR];exact h)
  | (rename_i d;simp only[d,aKR];exact⟨h.1,h.2.1,iz h.2.2.1,h.2.2.2⟩)
  | (rename_i d;simp only[d,aKR];exact⟨iz h.1,h.2⟩)
theorem asm {op:BinOp}{x:F}{y:F}{K:F->Prop}(h:D8 fi op x y K):me op x y K:=by
 unfold D8 at h;unfold me
 (repeat' (split at h))<;>(try simp only[gn,aKJ,aKN,aKR] at h)<;>(try simp only[aKR])<;>first
  |exact h.elim
  |exact h
  | (rename_i d;simp only[d];exact h)
  | (rename_i d G;simp only[d,G];exact h)
  | (rename_i d;simp only[d,aKR];exact h)
  | (rename_i d G;simp only[d,G,aKR];exact h)
  | (rename_i d G au;simp only[d,G,au,aKR];exact h)
  | (rename_i d;simp only[d,aKR];exact⟨h.1,h.2.1,iz h.2.2.1,h.2.2.2⟩)
  | (rename_i d;simp only[d,aKR];exact⟨iz h.1,h.2⟩)
theorem Xi {r:List Z}{x:F}{K:F->Prop}(h:B3 fi r x K):qu r x K:=by
 unfold B3 at h;unfold qu
 (repeat' (split at h))<;>(try simp only[gn,aKJ,aKN,aKR] at h)<;>(try simp only[aKR])<;>first
  |exact h.elim
  |exact h
  | (rename_i d;simp only[d];exact h)
  | (rename_i d G;simp only[d,G];exact h)
  | (rename_i d;simp only[d,aKR];exact h)
  | (rename_i d G;simp only[d,G,aKR];exact h)
  | (rename_i d G au;simp only[d,G,au,aKR];exact h)
  | (rename_i d;simp only[d,aKR];exact⟨h.1,h.2.1,iz h.2.2.1,h.2.2.2⟩)
  | (rename_i d;simp only[d,aKR];exact⟨iz h.1,h.2⟩)
theorem Xj {r:List Z}{m:Nat}{x:F}{K:F->Prop}(h:B4 fi r m x K):oW r m x K:=by
 unfold B4 at h;unfold oW
 (repeat' (split at h))<;>(try simp only[gn,aKJ,aKN,aKR] at h)<;>(try simp only[aKR])<;>first
  |exact h.elim
  |exact h
  | (rename_i d;simp only[d];exact h)
  | (rename_i d G;simp only[d,G];exact h)
  | (rename_i d;simp only[d,aKR];exact h)
  | (rename_i d G;simp only[d,G,aKR];exact h)
  | (rename_i d G au;simp only[d,G,au,aKR];exact h)
  | (rename_i d;simp only[d,aKR];exact⟨h.1,h.2.1,iz h.2.2.1,h.2.2.2⟩)
  | (rename_i d;simp only[d,aKR];exact⟨iz h.1,h.2⟩)
theorem asn {r:List Z}{m:Nat}{x:F}{y:F}{K:List Z->Prop}(h:D9 fi r m x y K):xJ r m x y K:=by
 unfold D9 at h;unfold xJ
 (repeat' (split at h))<;>(try simp only[gn,aKJ,aKN,aKR] at h)<;>(try simp only[aKR])<;>first
  |exact h.elim
  |exact h
  | (rename_i d;simp only[d];exact h)
  | (rename_i d G;simp only[d,G];exact h)
  | (rename_i d;simp only[d,aKR];exact h)
  | (rename_i d G;simp only[d,G,aKR];exact h)
  | (rename_i d G au;simp only[d,G,au,aKR];exact h)
  | (rename_i d;simp only[d,aKR];exact⟨h.1,h.2.1,iz h.2.2.1,h.2.2.2⟩)
  | (rename_i d;simp only[d,aKR];exact⟨iz h.1,h.2⟩)
theorem aso {B:Nat}{x:F}{K:F->Prop}(h:Ea fi B x K):Gu B x K:=by
 unfold Ea at h;unfold Gu
 (repeat' (split at h))<;>(try simp only[gn,aKJ,aKN,aKR] at h)<;>(try simp only[aKR])<;>first
  |exact h.elim
  |exact h
  | (rename_i d;simp only[d];exact h)
  | (rename_i d G;simp only[d,G];exact h)
  | (rename_i d;simp only[d,aKR];exact h)
  | (rename_i d G;simp only[d,G,aKR];exact h)
  | (rename_i d G au;simp only[d,G,au,aKR];exact h)
  | (rename_i d;simp only[d,aKR];exact⟨h.1,h.2.1,iz h.2.2.1,h.2.2.2⟩)
  | (rename_i d;simp only[d,aKR];exact⟨iz h.1,h.2⟩)
theorem asp {r:List Z}{U:Nat}{x:F}{y:F}{K:F->Prop}(h:Eb fi r U x y K):xj r U x y K:=by
 unfold Eb at h;unfold xj
 (repeat' (split at h))<;>(try simp only[gn,aKJ,aKN,aKR] at h)<;>(try simp only[aKR])<;>first
  |exact h.elim
  |exact h
  | (rename_i d;simp only[d];exact h)
  | (rename_i d G;simp only[d,G];exact h)
  | (rename_i d;simp only[d,aKR];exact h)
  | (rename_i d G;simp only[d,G,aKR];exact h)
  | (rename_i d G au;simp only[d,G,au,aKR];exact h)
  | (rename_i d;simp only[d,aKR];exact⟨h.1,h.2.1,iz h.2.2.1,h.2.2.2⟩)
  | (rename_i d;simp only[d,aKR];exact⟨iz h.1,h.2⟩)
theorem asq {r:List Z}{ft:Option F}{av:Option F}{U:Nat}{x:F}{K:F->Prop}(h:xY fi r ft av U x K):qj r ft av U x K:=by
 unfold xY at h;unfold qj;cases hl:td x with
 |none=>rw[hl] at h;exact h.elim
 |some l=>
  rw[hl] at h;simp only at h ⊢;split at h
  ·rename_i a b aC af;simp only[aC,af];rw[gn] at h;obtain⟨d,h⟩:=h;simp only[aKJ,aKN] at d;refine⟨d.1.1,d.1.2,d.2,?_⟩;split at h
   ·rw[gn] at h;exact⟨aNc h.1,h.2⟩
   ·exact h
   ·split at h
    ·rename_i N;simp only[N];simp only[gn,aKJ,aKN,aKR] at h;exact h
    ·exact h.elim
   ·exact h.elim
  ·exact h.elim
theorem asr {ft:Option F}{av:Option F}{x:F}{K:F->Prop}(h:xZ fi ft av x K):ut ft av x K:=by
 unfold xZ at h;unfold ut
 (repeat' (split at h))<;>(try simp only[gn,aKJ,aKN,aKR] at h)<;>(try simp only[aKR])<;>first
  |exact h.elim
  |exact h
  | (rename_i d;simp only[d];exact h)
  | (rename_i d G;simp only[d,G];exact h)
  | (rename_i d;simp only[d,aKR];exact h)
  | (rename_i d G;simp only[d,G,aKR];exact h)
  | (rename_i d G au;simp only[d,G,au,aKR];exact h)
  | (rename_i d;simp only[d,aKR];exact⟨h.1,h.2.1,iz h.2.2.1,h.2.2.2⟩)
  | (rename_i d;simp only[d,aKR];exact⟨iz h.1,h.2⟩)
theorem ass {r:List Z}{x:F}{K:F->Prop}(h:Ec fi r x K):zp r x K:=by
 unfold Ec at h;unfold zp;cases hl:jr r 1 x with
 |none=>rw[hl] at h;exact h.elim
 |some l=>
  rw[hl] at h;simp only at h ⊢;cases af:zn l with
  |none=>rw[af] at h;exact h.elim
  |some jJ=>rw[af] at h;exact h
theorem ast {r:List Z}{e:TypeId}{U:Nat}{bytes:Nat}{x:F}{y:F}{K:F->List Z->Prop}(h:Ed fi r e U bytes x y K):uK r e U bytes x y K:=by
 unfold Ed at h;unfold uK;cases hl:jr r U y with
 |none=>rw[hl] at h;exact h.elim
 |some l=>
  rw[hl] at h;simp only at h ⊢;split at h
  ·simp only[gn,aKJ,aKN,aKR] at h;exact h
  ·split at h
   ·rename_i N;simp only[N];simp only[gn,aKJ,aKN,aKR] at h;exact h
   ·exact h.elim
  ·exact h.elim
theorem asu {r:List Z}{ok:Bool}{aK:Bool}{Y:List cW}{zero:F}{x:F}{k:F}{K:F->Prop}(h:Ee fi r ok aK Y zero x k K):uy r ok aK Y zero x k K:=by
 unfold Ee at h;unfold uy;cases hl:qn r aK Y x with
 |none=>rw[hl] at h;exact h.elim
 |some l=>
  rw[hl] at h;simp only[gn] at h ⊢;exact⟨iz h.1,h.2⟩
theorem asv {r:List Z}{aK:Bool}{Y:List cW}{x:F}{k:F}{v:F}{K:List Z->Prop}(h:Ef fi r aK Y x k v K):xr r aK Y x k v K:=by
 unfold Ef at h;unfold xr
 (repeat' (split at h))<;>(try simp only[gn,aKJ,aKN,aKR] at h)<;>(try simp only[aKR])<;>first
  |exact h.elim
  |exact h
  | (rename_i d;simp only[d];exact h)
  | (rename_i d G;simp only[d,G];exact h)
  | (rename_i d;simp only[d,aKR];exact h)
  | (rename_i d G;simp only[d,G,aKR];exact h)
  | (rename_i d G au;simp only[d,G,au,aKR];exact h)
  | (rename_i d;simp only[d,aKR];exact⟨h.1,h.2.1,iz h.2.2.1,h.2.2.2⟩)
  | (rename_i d;simp only[d,aKR];exact⟨iz h.1,h.2⟩)
theorem asw {r:List Z}{aK:Bool}{Y:List cW}{zero:F}{x:F}{k:F}{K:F->List Z->Prop}(h:Eg fi r aK Y zero x k K):vI r aK Y zero x k K:=by
 unfold Eg at h;unfold vI;split at h
 ·split at h
  ·rename_i N;simp only[gn,aKJ,aKN] at h;simp only[N];exact⟨h.1.1,⟨iz h.1.2.1,λp ak=>iz (aLW.1 h.1.2.2 p ak)⟩,h.2⟩
  ·exact h.elim
 ·exact h.elim
theorem asx {r:List Z}{x:F}{c:F}{v:F}{K:List Z->Prop}(h:Eh fi r x c v K):xs r x c v K:=by
 unfold Eh at h;unfold xs
 (repeat' (split at h))<;>(try simp only[gn,aKJ,aKN,aKR] at h)<;>(try simp only[aKR])<;>first
  |exact h.elim
  |exact h
  | (rename_i d;simp only[d];exact h)
  | (rename_i d G;simp only[d,G];exact h)
  | (rename_i d;simp only[d,aKR];exact h)
  | (rename_i d G;simp only[d,G,aKR];exact h)
  | (rename_i d G au;simp only[d,G,au,aKR];exact h)
  | (rename_i d;simp only[d,aKR];exact⟨h.1,h.2.1,iz h.2.2.1,h.2.2.2⟩)
  | (rename_i d;simp only[d,aKR];exact⟨iz h.1,h.2⟩)
theorem asy {r:List Z}{x:F}{K:F->List Z->Prop}(h:Ei fi r x K):xt r x K:=by
 unfold Ei at h;unfold xt
 (repeat' (split at h))<;>(try simp only[gn,aKJ,aKN,aKR] at h)<;>(try simp only[aKR])<;>first
  |exact h.elim
  |exact h
  | (rename_i d;simp only[d];exact h)
  | (rename_i d G;simp only[d,G];exact h)
  | (rename_i d;simp only[d,aKR];exact h)
  | (rename_i d G;simp only[d,G,aKR];exact h)
  | (rename_i d G au;simp only[d,G,au,aKR];exact h)
  | (rename_i d;simp only[d,aKR];exact⟨h.1,h.2.1,iz h.2.2.1,h.2.2.2⟩)
  | (rename_i d;simp only[d,aKR];exact⟨iz h.1,h.2⟩)
theorem asz {r:List Z}{x:F}{K:F->Prop}(h:Ej fi r x K):xv r x K:=by
 unfold Ej at h;unfold xv
 (repeat' (split at h))<;>(try simp only[gn,aKJ,aKN,aKR] at h)<;>(try simp only[aKR])<;>first
  |exact h.elim
  |exact h
  | (rename_i d;simp only[d];exact h)
  | (rename_i d G;simp only[d,G];exact h)
  | (rename_i d;simp only[d,aKR];exact h)
  | (rename_i d G;simp only[d,G,aKR];exact h)
  | (rename_i d G au;simp only[d,G,au,aKR];exact h)
  | (rename_i d;simp only[d,aKR];exact⟨h.1,h.2.1,iz h.2.2.1,h.2.2.2⟩)
  | (rename_i d;simp only[d,aKR];exact⟨iz h.1,h.2⟩)
theorem asA {r:List Z}{U:Nat}{x:F}{y:F}{K:F->List Z->Prop}(h:Ek fi r U x y K):zj r U x y K:=by
 unfold Ek at h;unfold zj;cases hl:jr r U y with
 |none=>rw[hl] at h;exact h.elim
 |some l=>
  rw[hl] at h;simp only at h ⊢;split at h
  ·split at h
   ·rename_i N;simp only[N];simp only[gn,aKJ,aKN,aKR] at h;exact h
   ·exact h.elim
  ·exact h.elim
theorem asB {r:List Z}{U:Nat}{zero:List F}{x:F}{K:List Z->Prop}(h:El fi r U zero x K):xy r U zero x K:=by
 unfold El at h;unfold xy
 (repeat' (split at h))<;>(try simp only[gn,aKJ,aKN,aKR] at h)<;>(try simp only[aKR])<;>first
  |exact h.elim
  |exact h
  | (rename_i d;simp only[d];exact h)
  | (rename_i d G;simp only[d,G];exact h)
  | (rename_i d;simp only[d,aKR];exact h)
  | (rename_i d G;simp only[d,G,aKR];exact h)
  | (rename_i d G au;simp only[d,G,au,aKR];exact h)
  | (rename_i d;simp only[d,aKR];exact⟨h.1,h.2.1,iz h.2.2.1,h.2.2.2⟩)
  | (rename_i d;simp only[d,aKR];exact⟨iz h.1,h.2⟩)
theorem asC {len:Nat}{U:Nat}{x:F}{y:F}{K:F->Prop}(h:Em fi len U x y K):Bq len U x y K:=by
 unfold Em at h;unfold Bq
 (repeat' (split at h))<;>(try simp only[gn,aKJ,aKN,aKR] at h)<;>(try simp only[aKR])<;>first
  |exact h.elim
  |exact h
  | (rename_i d;simp only[d];exact h)
  | (rename_i d G;simp only[d,G];exact h)
  | (rename_i d;simp only[d,aKR];exact h)
  | (rename_i d G;simp only[d,G,aKR];exact h)
  | (rename_i d G au;simp only[d,G,au,aKR];exact h)
  | (rename_i d;simp only[d,aKR];exact⟨h.1,h.2.1,iz h.2.2.1,h.2.2.2⟩)
  | (rename_i d;simp only[d,aKR];exact⟨iz h.1,h.2⟩)
def B5 {ρ:Type}(A:hg ρ)(op:gc)(args:List F)(r:List Z)(K:F->List Z->ρ):ρ:=
 match op,args with
 | .qt,[x]=>K x r
 | .pick,[.bool J,a,b]=>K (if J then a else b) r
 | .alloc e zero,[]=>K (.bd r.length 1 0 0) (r++[.ag e zero.length [zero]])
 | .box e U,[x]=>cL A (decide ((cp x).length=U)&&(cp x).all cV) (K (.bd r.length 1 0 0) (r++[.ag e U [cp x]]))
 | .build zero aa,vs=>
  match oQ zero aa vs with
  |some ap=>cL A ((vs.all λv=>(cp v).all cV)) (K (.agg ap) r)
  |none=>A.cr
 | .sk e U zero len jq,vs=>
  match oV (List.replicate len zero) U jq vs with
  |some ar=>cL A ((vs.all λv=>(cp v).all cV)) (K (.own r.length len 0 len) (r++[.ag e U ar]))
  |none=>A.cr
 | .DR,[]=>K .bH r
 | .uI e U bytes zero,[.int _ l,.int _ J]=>cL A (decide (0<=l)&&decide (l<=J)&&decide (J*bytes<=140737488355328)&&decide (J<=140737488355328)) (K (.own r.length l.toNat 0 l.toNat) (r++[.ag e U (List.replicate l.toNat zero)]))
 | .pF,[x]=>B3 A r x λv=>K v r
 | .pG n,[x]=>B4 A r n x λv=>K v r
 | .store n,[x,y]=>D9 A r n x y λr=>K (.bo []) r
 | .tu,[.bd z n c V]=>K (.bd z n c V) r
 | .tu,[.en J V]=>K (.en J V) r
 | .iY op,[x,y]=>D8 A op x y λv=>K v r
 | .rj neg Y,[.agg aq,.agg ys]=>cL A (wj Y aq&&wj Y ys) (K (.bool (ed aq ys != neg)) r)
 | .Gs neg,[.bool a,.bool b]=>K (.bool ((a==b) != neg)) r
 | .not,[.bool b]=>K (.bool !b) r
 | .neg,[.int k n]=>K (.int k (k.wrap (0-n))) r
 | .conv k,[.int _ n]=>K (.int k (k.wrap n)) r
 | .fieldAddr B,[x]=>Ea A B x λv=>K v r
 | .P6 off,[.agg ap]=>cL A (decide (off<ap.length)) (K (ap.getD off .cj) r)
 | .P7 off U,[.agg ap]=>cL A (decide (off+U<=ap.length)) (K (.agg ((ap.drop off).take U)) r)
 | .indexAddr U,[x,y]=>Eb A r U x y λv=>K v r
 | .index,[.str I,.int _ c]=>cL A (decide (0<=c)&&decide (c<I.size)) (K (.int .u8 ((I.data.getD c.toNat 0).toNat)) r)
 | .slice true true U,[x,a,b]=>xY A r (some a) (some b) U x λv=>K v r
 | .slice true false U,[x,a]=>xY A r (some a) none U x λv=>K v r
 | .slice false true U,[x,b]=>xY A r none (some b) U x λv=>K v r
 | .slice false false U,[x]=>xY A r none none U x λv=>K v r
 | .xV true true,[x,a,b]=>xZ A (some a) (some b) x λv=>K v r
 | .xV true false,[x,a]=>xZ A (some a) none x λv=>K v r
 | .xV false true,[x,b]=>xZ A none (some b) x λv=>K v r
 | .xV false false,[x]=>xZ A none none x λv=>K v r
 | .DT,[.str I]=>K (.int .i64 I.size) r
 | .len,[x]=>
  match td x with
  |some l=>K (.int .i64 l) r
  |none=>A.cr
 | .append e U bytes,[x,y]=>Ed A r e U bytes x y K
 | .extract c,[.bo vs]=>cL A (decide (c<vs.length)) (K (vs.getD c .cj) r)
 | .wa G3,[.int k a,.int br b]=>cL A (decide (k=br)) (K (.int k (if G3 then max a b else min a b)) r)
 | .Kk,[x]=>Ec A r x λv=>K v r
 | .jN,[x]=>D7 A r x K
 | .copy U,[x,y]=>Ek A r U x y K
 | .wb len U,[x,y]=>Em A len U x y λv=>K v r
 | .P8 len,[.agg ap,.int _ j]=>cL A (decide ((0<=j/\j<len))&&decide (j.toNat<ap.length)) (K (ap.getD j.toNat .cj) r)
 | .P9 len U,[.agg ap,.int _ j]=>cL A (decide ((0<=j/\j<len))&&decide (j.toNat*U+U<=ap.length)) (K (.agg ((ap.drop (j.toNat*U)).take U)) r)
 | .Qa f,ap=>K (.fn f ap) r
 | .zy aK Y,[]=>K (.bE r.length) (r++[.be (.map aK Y [])])
 | .iw ok aK Y zero,[x,k]=>Ee A r ok aK Y zero x k λv=>K v r
 | .pE aK Y,[x,k,v]=>Ef A r aK Y x k v λr=>K (.bo []) r
 | .oU aK Y zero,[x,k]=>Eg A r aK Y zero x k K
 | .sj,[x,c,v]=>Eh A r x c v λr=>K (.bo []) r
 | .Kl,[.bE z]=>
  match r[z]? with
  |some (.be (.map _ _ ents))=>K (.int .i64 ents.length) r
  |_=>A.cr
 | .eh,[x]=>Ei A r x K
 | .entry,[x]=>Ej A r x λv=>K v r
 | .cap,[.bH]=>K (.int .i64 0) r
 | .BI e U bytes zero,[.bH,.int _ n]=>cL A (decide (0<n)&&decide (n*bytes<=140737488355328)) (K (.own r.length n.toNat 0 n.toNat) (r++[.ag e U (List.replicate n.toNat zero)]))
 | .clear U zero,[x]=>El A r U zero x λr=>K (.bo []) r
 | .zx U neg,[x]=>
  match jr r U x with
  |some ys=>cL A (decide (0<ys.length)) (K (.bool neg) r)
  |none=>A.cr
 |_,_=>A.cr
theorem Xk {op:gc}{args:List F}{r:List Z}{K:F->List Z->Prop}(h:B5 fi op args r K):aM op args r K:=by
 unfold B5 at h;split at h
 all_goals first
  |exact h.elim
  |exact h
  |exact Xi h
  |exact Xj h
  |exact asn h
  |exact asm h
  |exact aso h
  |exact asp h
  |exact asq h
  |exact asr h
  |exact ast h
  |exact ass h
  |exact asl h
  |exact asA h
  |exact asC h
  |exact asu h
  |exact asv h
  |exact asw h
  |exact asx h
  |exact asy h
  |exact asz h
  |exact asB h
  |skip
 all_goals (try simp only[gn,aKJ,aKN,aKR] at h)
 all_goals first
  | (simp only[aM,aKR];exact h)
  | (simp only[aM];exact⟨Qf h.1,Qf h.2.1,h.2.2⟩)
  |skip
 all_goals (split at h<;>first|exact h.elim| (rename_i d;simp only[aM,Br,d];rw[gn] at h;exact⟨aNc h.1,h.2⟩)| (rename_i d;simp only[aM,d];simp only[gn] at h;exact h)| (rename_i d;simp only[aM,d];exact h))
end Go.Abs
namespace Go.Abs
variable [dE]
mutual
def K5:F->List Nat
 | .own z _ _ _=> [z]
 | .bd z _ _ _=> [z]
 | .bE z=> [z]
 | .fO z m=> [z,m]
 | .agg ap=>wl ap
 | .bo ap=>wl ap
 | .fn _ ap=>wl ap
 |_=> []
def wl:List F->List Nat
 | []=> []
 |J::ap=>K5 J++wl ap
end
def asD:Z->List Nat
 | .fP=> []
 | .ag _ _ am=>am.flatMap wl
 | .be (.map _ _ ents)=>ents.flatMap λp=>K5 p.1++K5 p.2
 | .be (.eh _ _)=> []
def zJ (r:List Z):Nat->List Nat->List Nat->List Nat
 |0,_,bX=>bX
 |_+1,[],bX=>bX
 |n+1,z::Xl,bX=>if bX.contains z then zJ r n Xl bX else zJ r n (asD (r.getD z .fP)++Xl) (bX++[z])
def K6:List Nat->Bool
 | []=>true
 |x::aq=> !aq.contains x&&K6 aq
theorem Qg:∀{l:List Nat},K6 l=true->l.Nodup
 | [],_=>aMQ
 |x::aq,h=>by
  simp only[K6,aKJ,aMH,aOq,aLX] at h;exact aNv.2 ⟨h.1,Qg h.2⟩
section
variable {ρ:Type} (A:hg ρ) (P:Program) (call:FuncId->List F->List Z->(F->List Z->ρ)->ρ)
def B6 (ax:List Nat)(f:FuncId)(args:List F)(r:List Z)(K:F->List Z->ρ):ρ:=
 match eC r [] (ax.map some) (ax.map some) with
 |some srows=>cL A (K6 ax) (call f (dT r (ax.map some) [] args) srows λv rs=>K (dS (eU r.length ax) v) (fu r ax (rs.map (gD (eU r.length ax)))))
 |none=>A.cr
def En (f:FuncId)(args:List F)(r:List Z)(K:F->List Z->ρ):ρ:=B6 A call (zJ r 100000 (wl args) []) f args r K
def K7 (f:FuncId):Bool:=
 match P.funcs[f]? with
 |some fn=>fn.body.isSome&&fn.name != "runtime.NumGoroutine"
 |none=>false
def Eo (vs:List F)(r:List Z)(K:F->List Z->ρ):ρ:=
 match vs with
 | .fn f ap::aq=>cL A (K7 P f) (En A call f (aq++ap) r K)
 |_=>A.cr
def Ep (r:List Z)(x:F)(K:F->List Z->ρ):ρ:=
 match x with
 | .fO z m=>
  match r[z]?,r[m]? with
  |some (.be (.eh n bX)),some (.be (.map _ _ ents))=>cL A (decide (n=ents.length)&&decide (z≠m))
   (if (List.range n).all (λc=>bX.contains c) then K (.bo [.bool false]) r
   else A.all (((List.range n).filter λc=> !bX.contains c).map λc=>K (.bo [.bool true,(ents.getD c (.cj,.cj)).1,(ents.getD c (.cj,.cj)).2]) (r.set z (.be (.eh n (bX++[c]))))))
  |_,_=>A.cr
 |_=>A.cr
def B7 (V:dU)(D:aQ)(r:List Z)(K:aQ->List Z->ρ):ρ:=
 match V.op with
 | .call f=>En A call f (V.args.map (bi.aM D)) r λv ca=>K (put D V.dst v) ca
 | .next=>
  match V.args.map (bi.aM D) with
  | [x]=>Ep A r x λv ca=>K (put D V.dst v) ca
  |_=>A.cr
 | .xE=>Eo A P call (V.args.map (bi.aM D)) r λv ca=>K (put D V.dst v) ca
 |op=>B5 A op (V.args.map (bi.aM D)) r λv ca=>K (put D V.dst v) ca
def Er (V:dU)(D:aQ)(r:List Z)(K:aQ->List Z->ρ):ρ:=
 match V.guard with
 |none=>B7 A P call V D r K
 |some (I,ej)=>
  match bs D I with
  | .bool b=>if b=ej then B7 A P call V D r K else K (put D V.dst (.bo [])) r
  | .bo []=>K (put D V.dst (.bo [])) r
  |_=>A.cr
def Es:List dU->(aQ->List Z->ρ)->aQ->List Z->ρ
 | [],K,D,r=>K D r
 |V::os,K,D,r=>Er A P call V D r (Es os K)
def G6 (bL:List Nat)(tk:dr)(W aF:List Nat):Bool:=tk.all λp=> !bL.contains p.1||(!W.contains p.2.1&&(!p.2.2|| !aF.contains p.2.1))
def B8 (f:FuncId)(args:List F)(bL:List Nat)(tk:dr)(r:List Z)(K:F->List Z->ρ):ρ:=
 if G6 bL tk (zJ r 100000 (wl args) []) [] then B6 A call (zJ r 100000 (wl args) []) f args r K
 else cL A (G6 bL tk [] (zJ r 100000 (wl args) [])) (call f (dT r [] (zJ r 100000 (wl args) []) args) [] λv rs=>cL A (oT v&&rs.all Bz) (K (dS (eU r.length []) v) (fu r [] (rs.map (gD (eU r.length []))))))
def Et (vs:List F)(bL:List Nat)(tk:dr)(r:List Z)(K:F->List Z->ρ):ρ:=
 match vs with
 | .fn f ap::aq=>cL A (K7 P f) (B8 A call f (aq++ap) bL tk r K)
 |_=>A.cr
def Eu (r:List Z)(k:Nat)(e:TypeId)(U:Nat):Bool:=
 match r[k]? with
 |some (.ag cO bz [])=>decide (cO=e)&&decide (bz=U)
 |_=>false
def Ew (op:gc)(args:List F)(k:Nat)(r:List Z)(K:F->List Z->ρ):ρ:=
 match op,args with
 | .alloc e zero,[]=>cL A (Eu r k e zero.length) (K (.bd k 1 0 0) (r.set k (.ag e zero.length [zero])))
 | .box e U,[x]=>cL A ((decide ((cp x).length=U)&&(cp x).all cV)&&Eu r k e U) (K (.bd k 1 0 0) (r.set k (.ag e U [cp x])))
 | .sk e U zero len jq,vs=>
  match oV (List.replicate len zero) U jq vs with
  |some ar=>cL A (((vs.all λv=>(cp v).all cV)&&decide (0<len))&&Eu r k e U) (K (.own k len 0 len) (r.set k (.ag e U ar)))
  |none=>A.cr
 | .uI e U b zero,[.int _ l,.int _ J]=>cL A ((decide (0<l)&&(decide (l<=J)&&(decide (J*b<=140737488355328)&&decide (J<=140737488355328))))&&Eu r k e U) (K (.own k l.toNat 0 l.toNat) (r.set k (.ag e U (List.replicate l.toNat zero))))
 |_,_=>A.cr
def B9 (base c:Nat)(B:fd)(tk:dr)(D:aQ)(r:List Z)(K:dr->aQ->List Z->ρ):ρ:=
 match B.fo with
 |some q=>cL A (G6 B.bL tk [base+q] []) (Ew A B.bI.op (B.bI.args.map (bi.aM D)) (base+q) r λv ca=>K ((c,base+q,true)::tk) (put D B.bI.dst v) ca)
 |none=>
  match B.bI.op with
  | .call f=>B8 A call f (B.bI.args.map (bi.aM D)) B.bL tk r λv ca=>K tk (put D B.bI.dst v) ca
  | .xE=>Et A P call (B.bI.args.map (bi.aM D)) B.bL tk r λv ca=>K tk (put D B.bI.dst v) ca
  |op=>cL A (G6 B.bL tk (jM op (B.bI.args.map (bi.aM D))) (fw op (B.bI.args.map (bi.aM D))))
   (B5 A op (B.bI.args.map (bi.aM D)) r λv ca=>K (if od op then tk else iM c (fw op (B.bI.args.map (bi.aM D))) tk) (put D B.bI.dst v) ca)
def uS (base:Nat):List (Nat×fd)->List Nat->(aQ->List Z->ρ)->dr->aQ->List Z->ρ
 | [],ag,K,_,D,r=>K (ag.map λI=>(I,bs D I)) r
 | (c,B)::ds,ag,K,tk,D,r=>
  match B.bI.guard with
  |none=>B9 A P call base c B tk D r (uS base ds ag K)
  |some (I,ej)=>
   match bs D I with
   | .bool b=>if b=ej then B9 A P call base c B tk D r (uS base ds ag K) else uS base ds ag K tk (put D B.bI.dst (.bo [])) r
   | .bo []=>uS base ds ag K tk (put D B.bI.dst (.bo [])) r
   |_=>A.cr
structure zK (ρ:Type) where
 n:aQ->List Z->ρ
 x:Nat->aQ->List Z->ρ
 z:aQ->List Z->ρ
def lr:Nat->gd->zK ρ->aQ->List Z->ρ
 |0,_,_,_,_=>A.cr
 |m+1,J,K,D,r=>
  match J with
  | .skip=>K.n D r
  | .region bq ag=>Es A P call bq (λD r=>K.n (eW ag D) r) D r
  | .tq bq fo ag=>uS A P call r.length bq ag K.n [] D (r++tr fo)
  | .seq a b=>lr m a ⟨lr m b K,K.x,K.z⟩ D r
  | .cond J a b=>
   match J.aM D with
   | .bool true=>lr m a K D r
   | .bool false=>lr m b K D r
   |_=>A.cr
  | .block id J=>lr m J ⟨K.n,λj=>if j=id then K.n else K.x j,K.z⟩ D r
  | .loop J=>lr m J ⟨lr m (.loop J) K,K.x,K.z⟩ D r
  | .exit id=>K.x id D r
  | .ret=>K.z D r
def ya (r:List Z)(D:aQ):List uL->(List F->ρ)->ρ
 | [],K=>K []
 | .tmp t::rs,K=>ya r D rs λvs=>K (bs D t::vs)
 | .GQ t::rs,K=>B3 A r (bs D t) λv=>ya r D rs λvs=>K (v::vs)
 | .uM t n::rs,K=>B4 A r n (bs D t) λv=>ya r D rs λvs=>K (v::vs)
def Qh (bb:Nat)(ax:List (Option Nat))(v:F)(r:List Z)(K:F->List Z->ρ):ρ:=
 match eC r [] ax ax with
 |some srows=>cL A (xQ ax&&wd bb 0 ax) (K (bW r ax [] v) srows)
 |none=>A.cr
end
structure yb (P:Program) where
 f:FuncId
 aG:aN
 ok:∃fn ag,P.funcs[f]? =some fn/\xM P ag fn=some aG
def K8 {P:Program}:List (yb P)->FuncId->Option (yb P)
 | [],_=>none
 |x::aq,f=>if x.f=f then some x else K8 aq f
theorem Xm {P:Program}:∀{l:List (yb P)} {f:FuncId} {x:yb P},K8 l f=some x->x.f=f
 | [],_,_,h=>by cases h
 |y::ys,f,x,h=>by
  rw[K8] at h;split at h
  ·simp at h;subst h;assumption
  ·exact Xm h
section
variable {P:Program} {call:FuncId->List F->List Z->(F->List Z->Prop)->Prop} (ad:∀f args r K,call f args r K->aO P f args r K)
theorem K9 {bL:List Nat}{tk:dr}{W aF:List Nat}(h:G6 bL tk W aF=true):eL bL tk W aF:=by
 intro c z w hm av;have:=aLW.1 h _ hm;simp only[aLP,aMH,aKJ,aOq,aLX] at this;rcases this with d|d
 ·exact absurd av d
 ·refine⟨d.1,λaP=> ?_⟩;rcases d.2 with G|G
  ·rw[aP] at G;cases G
  ·exact G
theorem Xn {f:FuncId}(h:K7 P f=true):Kf P f:=by
 unfold K7 at h;split at h
 ·exact⟨_,‹_›,h⟩
 ·cases h
include ad
theorem Xo {f:FuncId}{args:List F}{r:List Z}{K:F->List Z->Prop}(h:En fi call f args r K):uH P f args r K:=by
 unfold En B6 at h;split at h
 ·rename_i srows aw;rw[gn] at h;exact⟨_,[],srows,Qg h.1,aw,(ad _ _ _ _ h.2).mono λv rs O=>⟨.inl rfl,O⟩⟩
 ·exact h.elim
theorem asE {vs:List F}{r:List Z}{K:F->List Z->Prop}(h:Eo fi P call vs r K):BE P vs r K:=by
 unfold Eo at h;unfold BE;split at h
 ·rw[gn] at h;exact⟨Xn h.1,Xo ad h.2⟩
 ·exact h.elim
omit ad in
theorem asF {r:List Z}{x:F}{K:F->List Z->Prop}(h:Ep fi r x K):sa r x K:=by
 unfold Ep at h;unfold sa;split at h
 ·split at h
  ·rename_i d G;simp only[d,G];rw[gn] at h;obtain⟨h0,h⟩:=h;simp only[aKJ,aKN] at h0;refine⟨h0.1,h0.2,λaC=> ?_,λc av aH=> ?_⟩
   ·rw[Rc] at h
    ·exact h
    ·rw[aLW];intro c av;simpa using aC c (aMj.1 av)
   ·rw[S] at h
    ·exact (asj.1 h) _ (aKZ.2 ⟨c,aNg.2 ⟨aMj.2 av,by simpa using aH⟩,rfl⟩)
    ·rw[aLW];intro aC;have:=aC c (aMj.2 av);simp at this;exact aH this
  ·exact h.elim
 ·exact h.elim
theorem Xp {V:dU}{D:aQ}{r:List Z}{K:aQ->List Z->Prop}(h:B7 fi P call V D r K):eV P V D r K:=by
 unfold B7 at h;unfold eV;split at h
 ·rename_i dL;simp only[dL];exact Xo ad h
 ·rename_i dL;simp only[dL];split at h
  ·rename_i aC;simp only[aC];exact asF h
  ·exact h.elim
 ·rename_i dL;simp only[dL];exact asE ad h
 ·rename_i d G au;split
  ·rename_i f hf;exact absurd hf (d f)
  ·rename_i hf;exact absurd hf G
  ·rename_i hf;exact absurd hf au
  ·exact Xk h
theorem asG {V:dU}{D:aQ}{r:List Z}{K:aQ->List Z->Prop}(h:Er fi P call V D r K):xF P V D r K:=by
 unfold Er at h;unfold xF;split at h
 ·rename_i aw;simp only[aw];exact Xp ad h
 ·rename_i aw;simp only[aw];split at h
  ·rename_i ao;simp only[ao,tn];split at h
   ·rename_i af;rw[Rc af];exact Xp ad h
   ·rename_i af;rw[S af];exact h
  ·rename_i ao;simp only[ao];exact h
  ·exact h.elim
theorem Xq:∀{os:List dU} {K:aQ->List Z->Prop} {D:aQ} {r:List Z},Es fi P call os K D r->zv P os K D r
 | [],_,_,_,h=>h
 |V::os,K,D,r,h=>by
  rw[Es] at h;rw[zv];exact WW (λ_ _ O=>Xq O) (asG ad h)
theorem Xr {f:FuncId}{args:List F}{bL:List Nat}{tk:dr}{r:List Z}{K:F->List Z->Prop}(h:B8 fi call f args bL tk r K):xH P f args bL tk r K:=by
 unfold B8 at h;split at h
 ·rename_i O;unfold B6 at h;split at h
  ·rename_i srows aw;rw[gn] at h;exact⟨_,[],srows,K9 O,Qg h.1,aw,(ad _ _ _ _ h.2).mono λv rs O=>⟨.inl rfl,O⟩⟩
  ·exact h.elim
 ·rw[gn] at h;refine⟨[],_,[],K9 h.1,aMQ,rfl,(ad _ _ _ _ h.2).mono λv rs O=> ?_⟩;rw[gn,aKJ] at O;exact⟨.inr O.1,O.2⟩
theorem asH {vs:List F}{bL:List Nat}{tk:dr}{r:List Z}{K:F->List Z->Prop}(h:Et fi P call vs bL tk r K):uJ P vs bL tk r K:=by
 unfold Et at h;unfold uJ;split at h
 ·rw[gn] at h;exact⟨Xn h.1,Xr ad h.2⟩
 ·exact h.elim
omit ad in
theorem La {r:List Z}{k:Nat}{e:TypeId}{U:Nat}(h:Eu r k e U=true):r[k]? =some (.ag e U []):=by
 unfold Eu at h;split at h
 ·rename_i N;simp only[aKJ,aKN] at h;rw[N,h.1,h.2]
 ·cases h
omit ad in
theorem asI {op:gc}{args:List F}{k:Nat}{r:List Z}{K:F->List Z->Prop}(h:Ew fi op args k r K):jp op args k r K:=by
 unfold Ew at h;split at h
 ·rw[gn] at h;exact⟨La h.1,h.2⟩
 ·simp only[gn,aKJ,aKN] at h;exact⟨h.1.1,La h.1.2,h.2⟩
 ·split at h
  ·rename_i hf;simp only[gn,aKJ,aKN] at h;simp only[jp,hf];exact⟨h.1.1,La h.1.2,h.2⟩
  ·exact h.elim
 ·simp only[gn,aKJ,aKN] at h;exact⟨h.1.1,La h.1.2,h.2⟩
 ·exact h.elim
theorem Xs {base c:Nat}{B:fd}{tk:dr}{D:aQ}{r:List Z}{K:dr->aQ->List Z->Prop}(h:B9 fi P call base c B tk D r K):gZ P base c B tk D r K:=by
 unfold B9 at h;unfold gZ;split at h
 ·rename_i aV;simp only[aV];rw[gn] at h;exact⟨K9 h.1,asI h.2⟩
 ·rename_i aV;simp only[aV];split at h
  ·rename_i dL;simp only[dL];exact Xr ad h
  ·rename_i dL;simp only[dL];exact asH ad h
  ·rename_i d G;split
   ·rename_i f hf;exact absurd hf (d f)
   ·rename_i hf;exact absurd hf G
   ·rw[gn] at h;exact⟨K9 h.1,Xk h.2⟩
theorem G7 {base:Nat}:∀{ds:List (Nat×fd)} {ag:List Nat} {K:aQ->List Z->Prop} {tk:dr} {D:aQ} {r:List Z},uS fi P call base ds ag K tk D r->oi P base ds ag K tk D r
 | [],_,_,_,_,_,h=>h
 | (c,B)::ds,ag,K,tk,D,r,h=>by
  rw[uS] at h;rw[oi];split at h
  ·rename_i aw;simp only[aw];exact KS (λ_ _ _ O=>G7 O) (Xs ad h)
  ·rename_i aw;simp only[aw,ru];split at h
   ·rename_i ao;simp only[ao,tn];split at h
    ·rename_i af;rw[Rc af];exact KS (λ_ _ _ O=>G7 O) (Xs ad h)
    ·rename_i af;rw[S af];exact G7 h
   ·rename_i ao;simp only[ao];exact G7 h
   ·exact h.elim
omit ad in
theorem Xt {p:Nat->Prop}(h:∃n,p n):∃n,p n/\ ∀m,p m->n<=m:=by
 obtain⟨n,aH⟩:=h
 induction n using Nat.strongRecOn with
 |ind n ih=>
  by_cases hm:∃m,m<n/\p m
  ·obtain⟨m,d,G⟩:=hm;exact ih m d G
  ·exact⟨n,aH,λm h=>Nat.le_of_not_lt λhl=>hm ⟨m,hl,h⟩⟩
omit ad in
open Classical in
noncomputable def Ex (p:Nat->Prop):Nat:=if h:∃n,p n then (Xt h).choose else 0
omit ad in
theorem Xu {p:Nat->Prop}(h:∃n,p n):p (Ex p)/\ ∀m,p m->Ex p<=m:=by
 unfold Ex;rw[aN0 h];exact (Xt h).choose_spec
def zK.p (K:zK Prop):oh:=⟨K.n,K.x,K.z⟩
theorem Ca {bb:Nat}:∀(J:gd) (m:Nat) (K:zK Prop) (D:aQ) (r:List Z),lr fi P call m J K D r->fh P bb J K.p D r
 |_,0,_,_,_,h=>h.elim
 | .skip,m+1,K,D,r,h=>h
 | .region bq ag,m+1,K,D,r,h=>Xq ad h
 | .tq bq fo ag,m+1,K,D,r,h=>G7 ad h
 | .seq a b,m+1,K,D,r,h=>by
  rw[lr] at h;rw[fh];exact uP a (K:=⟨lr fi P call m b K,K.x,K.z⟩) (λe z O=>Ca b m K e z O) (λ_ _ _ O=>O) (λ_ _ O=>O) (Ca a m _ D r h)
 | .cond J a b,m+1,K,D,r,h=>by
  simp only[lr] at h;rw[fh];split at h
  ·rename_i af;simp only[af,rm];exact⟨λ_=>Ca a m K D r h,λe=>(by cases e)⟩
  ·rename_i af;simp only[af,rm];exact⟨λe=>(by cases e),λ_=>Ca b m K D r h⟩
  ·exact h.elim
 | .block id J,m+1,K,D,r,h=>by
  rw[lr] at h;rw[fh];exact uP J (λ_ _ O=>O) (λj e z O=>by
   simp only[zK.p] at O ⊢;split
   ·rename_i hj;rw[Rc hj] at O;exact O
   ·rename_i hj;rw[S hj] at O;exact O) (λ_ _ O=>O) (Ca J m _ D r h)
 | .loop J,m+1,K,D,r,h=>by
  rw[fh];refine⟨λe z=> ∃f,lr fi P call f (.loop J) K e z,λe z=>Ex λf=>lr fi P call f (.loop J) K e z,i ⟨m+1,h⟩,?_⟩;intro e z hX;have hl:=Xu hX;generalize hf:Ex (λf=>lr fi P call f (.loop J) K e z)=f at hl;cases f with
  |zero=>exact hl.1.elim
  |succ g=>
   have d:=hl.1;rw[lr] at d;refine uP J (K:=⟨lr fi P call g (.loop J) K,K.x,K.z⟩) (λcO cG O=>i ⟨⟨g,O⟩,?_⟩) (λ_ _ _ O=>O) (λ_ _ O=>O) (Ca J g _ e z d);exact Nat.lt_of_le_of_lt ((Xu (p:=λf=>lr fi P call f (.loop J) K cO cG) ⟨g,O⟩).2 g O) (by show g<Ex (λf=>lr fi P call f (.loop J) K e z);omega)
 | .exit id,m+1,K,D,r,h=>h
 | .ret,m+1,K,D,r,h=>h
omit ad in
theorem asJ {r:List Z}{x:F}{K aL:F->Prop}(O:∀v,K v->aL v)(h:qu r x K):qu r x aL:=by
 unfold qu at h ⊢;split at h
 ·split at h
  ·rename_i N;first|exact⟨h.1,h.2.1,O _ h.2.2⟩| (simp only[N];exact⟨h.1,h.2.1,O _ h.2.2⟩)
  ·exact h.elim
 ·exact⟨h.1,O _ h.2⟩
 ·exact h.elim
omit ad in
theorem asK {r:List Z}{n:Nat}{x:F}{K aL:F->Prop}(O:∀v,K v->aL v)(h:oW r n x K):oW r n x aL:=by
 unfold oW at h ⊢;split at h
 ·split at h
  ·rename_i N;first|exact⟨h.1,h.2.1,O _ h.2.2⟩| (simp only[N];exact⟨h.1,h.2.1,O _ h.2.2⟩)
  ·exact h.elim
 ·exact⟨h.1,O _ h.2⟩
 ·exact h.elim
omit ad in
theorem Lb {r:List Z}{D:aQ}:∀{rs:List uL} {K aL:List F->Prop},(∀vs,K vs->aL vs)->ya fi r D rs K->mU r D rs aL
 | [],_,_,O,h=>O _ h
 | .tmp t::rs,K,aL,O,h=>Lb (rs:=rs) (λvs=>O _) h
 | .GQ t::rs,K,aL,O,h=>by
  rw[ya] at h;rw[mU];exact asJ (λv an=>Lb (λvs=>O _) an) (Xi h)
 | .uM t n::rs,K,aL,O,h=>by
  rw[ya] at h;rw[mU];exact asK (λv an=>Lb (λvs=>O _) an) (Xj h)
end
end Go.Abs
namespace Go.Abs
def qz (t:Nat):Nat:=Nat.shiftLeft 1 t
def Xv:Operand->Nat
 | .tmp t=>qz t
 |_=>0
def Xw:List Operand->Nat
 | []=>0
 |x::aq=>Nat.lor (Xv x) (Xw aq)
def asR (all:Array Oper)(j:Nat):Nat:=
 match all[j]? with
 |some V=>match V.dst with|some I=>qz I|none=>0
 |none=>0
def Qk (all:Array Oper):List Oper->Nat->Nat
 | [],ea=>ea
 |V::os,ea=>Nat.lor (Nat.lor (match V.dst with|some B=>Nat.xor (Nat.lor (Qk all os ea) (qz B)) (qz B)|none=>Qk all os ea) (Xw V.op.operands.toList)) (match V.guard with|some (j,_)=>asR all j|none=>0)
def Xx (id:Nat):List (Nat×Nat)->Nat
 | []=>0
 |p::aa=>match Nat.beq p.1 id with|true=>p.2|false=>Xx id aa
def wn (dM:Nat):Code->(gH:List (Nat×Nat))->(ea:Nat)->Nat
 | .skip,_,ea=>ea
 | .region _ bq _,_,ea=>Qk bq bq.toList ea
 | .seq a b,gH,ea=>wn dM a gH (wn dM b gH ea)
 | .cond J a b,gH,ea=>Nat.lor (Nat.lor (wn dM a gH ea) (wn dM b gH ea)) (Xv J)
 | .block id J,gH,ea=>wn dM J ((id,ea)::gH) ea
 | .loop J,gH,_=>wn dM J gH 0
 | .exit id,gH,_=>Xx id gH
 | .ret,_,_=>dM
 |_,_,ea=>ea
def G8:List Edge->Nat
 | []=>0
 |e::ar=>match Region.binds .any e with|true=>Nat.lor (qz e.on) (G8 ar)|false=>G8 ar
def yd (I:Nat):Nat->Nat->List Nat
 |0,_=> []
 |k+1,c=>match Nat.land (Nat.shiftRight I c) 1 with|0=>yd I k (c+1)|_=>c::yd I k (c+1)
def asS (acc:List Nat):Nat->Nat->Nat->Nat
 |_,0,_=>0
 |I,k+1,c=>match acc with
  | []=>0
  |a::as=>Nat.lor (Nat.mul (Nat.land (Nat.shiftRight I c) 1) (Nat.lor a (qz c))) (asS as I k (c+1))
def Ql (n:Nat):List Oper->Nat->Nat->Nat
 | [],_,acc=>acc
 |V::os,c,acc=>Ql n os (c+1) (Nat.lor acc (Nat.shiftLeft (Xy n acc (G8 V.after.toList) n 0) (Nat.mul n c)))
where
 Xy (n acc I:Nat):Nat->Nat->Nat
  |0,_=>0
  |k+1,c=>Nat.lor (Nat.mul (Nat.land (Nat.shiftRight I c) 1) (Nat.lor (qz c) (Nat.mod (Nat.shiftRight acc (Nat.mul n c)) (qz n)))) (Xy n acc I k (c+1))
def Xz (n dG:Nat):Nat->Nat->List (List Nat)
 |0,_=> []
 |k+1,c=>yd (Nat.mod (Nat.shiftRight dG (Nat.mul n c)) (qz n)) n 0::Xz n dG k (c+1)
def Cb (P:Program):Nat->TypeId->List cW
 |0,_=> []
 |B+1,t=>
  match P.underlying t with
  |some (.int k)=> [.int k]
  |some .bool=> [.bool]
  |some .string=> [.str]
  |some (.struct fg)=>fg.toList.flatMap λf=>Cb P B f.type
  |_=> []
def Lc (P:Program)(t:TypeId):Bool:=match hq P t with|some b=>b|none=>false
def asT (P:Program)(V:Oper):Option (gc×List Operand):=
 match V.op with
 | .binOp op t x y _=>
  match P.underlying t with
  |some (.struct _)=>
   match op with
   | .eql=>some (.rj false (Cb P 20 t),[x,y])
   | .neq=>some (.rj true (Cb P 20 t),[x,y])
   |_=>none
  |_=>pB P V
 | .call {callee:= .value (.func f),args:=args,argTypes:=_}=>some (.call f,args.toList)
 | .makeMap t none=>
  match P.underlying t with
  |some (.map k _)=>some (.zy (Lc P k) (Cb P 20 k),[])
  |_=>none
 | .lookup t x c ok=>
  match P.underlying t with
  |some (.map k e)=>match zf P e with|some M=>some (.iw ok (Lc P k) (Cb P 20 k) M,[x,c])|none=>none
  |_=>none
 | .mapUpdate t m c v=>
  match P.underlying t with
  |some (.map k _)=>some (.pE (Lc P k) (Cb P 20 k),[m,c,v])
  |_=>none
 | .mapEntry t m c=>
  match P.underlying t with
  |some (.map k e)=>match zf P e with|some M=>some (.oU (Lc P k) (Cb P 20 k) M,[m,c])|none=>none
  |_=>none
 |_=>pB P V
def Qm (bq:Array Oper)(V:Oper):Option (Nat×Bool):=
 match V.guard with
 |none=>none
 |some (j,ej)=>
  match bq[j]? with
  |some q=>match q.dst with|some I=>some (I,ej)|none=>none
  |none=>none
def Qn (P:Program)(bq:Array Oper)(V:Oper):dU:=
 match asT P V with
 |some (op,aq)=>match vR aq with|some args=>⟨V.dst,op,args,Qm bq V⟩|none=>⟨V.dst,.qt,[],Qm bq V⟩
 |none=>⟨V.dst,.qt,[],Qm bq V⟩
def asU (dM:gc->Option (TypeId×Nat))(P:Program)(bq:Array Oper)(V:Oper):Nat:=
 match (dM (Qn P bq V).op).isSome|| !od (Qn P bq V).op with|true=>1|false=>0
def Qo (dM:gc->Option (TypeId×Nat))(P:Program)(bq:Array Oper):List Oper->Nat->Nat
 | [],_=>0
 |V::os,c=>Nat.lor (Nat.shiftLeft (asU dM P bq V) c) (Qo dM P bq os (c+1))
def XA (dZ:Nat):List Oper->Nat->Nat
 | [],_=>0
 |V::os,c=>Nat.lor (match Nat.beq (Nat.land (G8 V.after.toList) dZ) (G8 V.after.toList) with|true=>Nat.xor (Nat.lor (qz c) (Nat.land dZ (qz c))) (Nat.land dZ (qz c))|false=>0) (XA dZ os (c+1))
def XB (I:Nat):Nat:=Nat.log2 (Nat.xor I (Nat.land I (Nat.sub I 1)))
def XC (ready pJ:Nat):Nat:=match Nat.land ready pJ with|0=>XB ready|z=>XB z
def Qp (bq:List Oper)(pJ:Nat):Nat->Nat->Nat->Nat->Nat
 |0,_,_,acc=>acc
 |k+1,dZ,c,acc=>
  match XA dZ bq 0 with
  |0=>acc
  |z=>Qp bq pJ k (Nat.lor dZ (qz (XC z pJ))) (Nat.add c 10) (Nat.lor acc (Nat.shiftLeft (XC z pJ) c))
def Qq (V:Nat):Nat->Nat->List Nat
 |0,_=> []
 |k+1,c=>Nat.mod (Nat.shiftRight V c) 1024::Qq V k (c+10)
def Qr (dM:gc->Option (TypeId×Nat))(P:Program)(n:Nat)(bq:Array Oper)(ag:List Nat):pH:=
 ⟨ag,Xz bq.size (Ql bq.size bq.toList 0 0) bq.size 0,Qq (Qp bq.toList (Qo dM P bq bq.toList 0) bq.size 0 0 0) bq.size 0⟩
def Cc (P:Program)(n dM:Nat):Code->(gH:List (Nat×Nat))->(ea:Nat)->List (Nat×pH)
 | .region id _ false,_,ea=> [(id,⟨yd ea n 0,[],[]⟩)]
 | .region id bq true,_,ea=>
  match gF P n (λ_=>Qr DN P n bq []) (.region id bq true) with
  |some _=> [(id,Qr DN P n bq (yd ea n 0))]
  |none=> [(id,Qr Kr P n bq (yd ea n 0))]
 | .seq a b,gH,ea=>Cc P n dM a gH (wn dM b gH ea)++Cc P n dM b gH ea
 | .cond _ a b,gH,ea=>Cc P n dM a gH ea++Cc P n dM b gH ea
 | .block id J,gH,ea=>Cc P n dM J ((id,ea)::gH) ea
 | .loop J,gH,_=>Cc P n dM J gH (wn dM J gH 0)
 |_,_,_=> []
def Ey:List ResultVar->Nat
 | []=>0
 | .tmp t::rs=>Nat.lor (qz t) (Ey rs)
 | .cell a _::rs=>Nat.lor (qz a) (Ey rs)
def XD (P:Program)(fn:Func):List (Nat×pH):=
 match fn.body with
 |some J=>Cc P fn.ntmps (Ey fn.results.toList) J [] (Ey fn.results.toList)
 |none=> []
theorem asV {n:Nat}:Int.ofNat n=(n:Int):=rfl
theorem asW {n:Nat}{h:n<2^8}: (⟨⟨⟨n,h⟩⟩⟩:UInt8)=UInt8.ofNatLT n h:=rfl
def Ld (P:Program)(bq:Array Oper):List Oper->List dU
 | []=> []
 |V::os=>Qn P bq V::Ld P bq os
def Le:List dU->Nat->dU
 | [],_=>default
 |x::aq,c=>match c with|0=>x|c+1=>Le aq c
def Qs (dM:gc->Option (TypeId×Nat)):List dU->List (TypeId×Nat)
 | []=> []
 |x::aq=>match dM x.op with|some p=>p::Qs dM aq|none=>Qs dM aq
def Qt (dM:gc->Option (TypeId×Nat)):List dU->Nat->Nat->Option Nat
 | [],_,_=>none
 |x::aq,c,q=>match c with
  |0=>match dM x.op with|some _=>some q|none=>none
  |c+1=>match dM x.op with|some _=>Qt dM aq c (Nat.add q 1)|none=>Qt dM aq c q
def asX (x y:dU):Bool:=
 match x.op,x.guard,y.op,y.guard with
 | .iw false _ _ (.int _ _),none,.oU _ _ (.int _ _),none=>true
 |_,_,_,_=>false
def Qu (eu:List dU)(n dG j:Nat):Nat->Nat->List Nat
 |0,_=> []
 |k+1,c=>match Nat.lor (match asX (Le eu c) (Le eu j) with|true=>1|false=>0)<|Nat.lor (Nat.lor (match Nat.beq c j with|true=>1|false=>0) (Nat.land (Nat.shiftRight dG (Nat.add (Nat.mul n j) c)) 1)) (Nat.land (Nat.shiftRight dG (Nat.add (Nat.mul n c) j)) 1) with
  |0=>c::Qu eu n dG j k (c+1)
  |_=>Qu eu n dG j k (c+1)
def XE (dM:gc->Option (TypeId×Nat))(eu:List dU)(n dG:Nat):List Nat->List (Nat×fd)
 | []=> []
 |c::is=>(c,⟨Le eu c,Qt dM eu c 0,Qu eu n dG c n 0⟩)::XE dM eu n dG is
def XF (dM:gc->Option (TypeId×Nat))(P:Program)(n:Nat)(bq:Array Oper)(ag:List Nat):gd:=
 .tq (XE dM (Ld P bq bq.toList) bq.size (Ql bq.size bq.toList 0 0) (Qq (Qp bq.toList (Qo dM P bq bq.toList 0) bq.size 0 0 0) bq.size 0)) (Qs dM (Ld P bq bq.toList)) ag
def XG (id:Nat):List Nat->Bool
 | []=>false
 |x::aq=>match Nat.beq x id with|true=>true|false=>XG id aq
def Cd (P:Program)(m:List Nat)(n dM:Nat):Code->(gH:List (Nat×Nat))->(ea:Nat)->gd
 | .skip,_,_=> .skip
 | .region _ bq false,_,ea=> .region (Ld P bq bq.toList) (yd ea n 0)
 | .region id bq true,_,ea=>match XG id m with|true=>XF Kr P n bq (yd ea n 0)|false=>XF DN P n bq (yd ea n 0)
 | .seq a b,gH,ea=> .seq (Cd P m n dM a gH (wn dM b gH ea)) (Cd P m n dM b gH ea)
 | .cond J a b,gH,ea=> .cond (match sg J with|some x=>x|none=>default) (Cd P m n dM a gH ea) (Cd P m n dM b gH ea)
 | .block id J,gH,ea=> .block id (Cd P m n dM J ((id,ea)::gH) ea)
 | .loop J,gH,_=> .loop (Cd P m n dM J gH (wn dM J gH 0))
 | .exit id,_,_=> .exit id
 | .ret,_,_=> .ret
 |_,_,_=> .skip
def Qv (P:Program)(m:List Nat)(fn:Func):aN:=
 match fn.body with
 |some J=>⟨fn.ntmps,(match zB P fn.results.toList with|some l=>l|none=> []),Cd P m fn.ntmps (Ey fn.results.toList) J [] (Ey fn.results.toList)⟩
 |none=>default
structure aS (P:Program) (m:List Nat) (fn:Func) where
 aG:aN
 ok:Qv P m fn=aG
theorem aT {P:Program}{m:List Nat}{f:Func}{a:aN}(h:Qv P m f=a:=by conv=>lhs;reduce;dsimp only[asV,Int.ofNat_zero,Int.ofNat_one,Int.reduceNegSucc,Int.cast_ofNat_Int,asW,UInt8.reduceOfNatLT]):Qv P m f=a:=h
abbrev aR (P:Program)(f:Func)(a:aN):Prop:=xM P (ev (XD P f)) f=some a
theorem aU {P:Program}{f:Func}{a:aN}(h:xM P (ev (XD P f)) f=some a:=by kernel_rfl):aR P f a:=h
end Go.Abs
namespace Go.Abs
variable [dE]
structure Lf {ρ dD:Type} (A:hg ρ) (fx:hg dD) (z:ρ->dD->Prop):Prop where
 cr:∀p,z A.cr p
 all:∀(l:List Nat) (f:Nat->ρ) (g:Nat->dD),(∀c∈l,z (f c) (g c))->z (A.all (l.map f)) (fx.all (l.map g))
section
variable {ρ dD:Type} {A:hg ρ} {fx:hg dD} {z:ρ->dD->Prop} (ak:Lf A fx z)
include ak
theorem hM {b:Bool}{k:ρ}{br:dD}(h:z k br):z (cL A b k) (cL fx b br):=by
 cases b
 ·exact ak.cr _
 ·exact h
theorem asY {r:List Z}{x:F}{K:F->List Z->ρ}{aL:F->List Z->dD}(O:∀v rs,z (K v rs) (aL v rs)):z (D7 A r x K) (D7 fx r x aL):=by
 unfold D7
 repeat' split
 all_goals first|exact ak.cr _|exact hM ak (O _ _)
theorem asZ {op:BinOp}{x y:F}{K:F->ρ}{aL:F->dD}(O:∀v,z (K v) (aL v)):z (D8 A op x y K) (D8 fx op x y aL):=by
 unfold D8
 repeat' split
 all_goals first|exact ak.cr _|exact hM ak (O _)|exact O _
theorem XH {r:List Z}{x:F}{K:F->ρ}{aL:F->dD}(O:∀v,z (K v) (aL v)):z (B3 A r x K) (B3 fx r x aL):=by
 unfold B3
 repeat' split
 all_goals first|exact ak.cr _|exact hM ak (O _)|exact O _
theorem XI {r:List Z}{m:Nat}{x:F}{K:F->ρ}{aL:F->dD}(O:∀v,z (K v) (aL v)):z (B4 A r m x K) (B4 fx r m x aL):=by
 unfold B4
 repeat' split
 all_goals first|exact ak.cr _|exact hM ak (O _)|exact O _
theorem ata {r:List Z}{m:Nat}{x y:F}{K:List Z->ρ}{aL:List Z->dD}(O:∀v,z (K v) (aL v)):z (D9 A r m x y K) (D9 fx r m x y aL):=by
 unfold D9
 repeat' split
 all_goals first|exact ak.cr _|exact hM ak (O _)|exact O _
theorem atb {B:Nat}{x:F}{K:F->ρ}{aL:F->dD}(O:∀v,z (K v) (aL v)):z (Ea A B x K) (Ea fx B x aL):=by
 unfold Ea
 repeat' split
 all_goals first|exact ak.cr _|exact hM ak (O _)|exact O _
theorem atc {r:List Z}{U:Nat}{x y:F}{K:F->ρ}{aL:F->dD}(O:∀v,z (K v) (aL v)):z (Eb A r U x y K) (Eb fx r U x y aL):=by
 unfold Eb
 repeat' split
 all_goals first|exact ak.cr _|exact hM ak (O _)|exact O _
theorem atd {r:List Z}{ft av:Option F}{U:Nat}{x:F}{K:F->ρ}{aL:F->dD}(O:∀v,z (K v) (aL v)):z (xY A r ft av U x K) (xY fx r ft av U x aL):=by
 unfold xY;cases td x with
 |none=>exact ak.cr _
 |some l=>
  dsimp only
  split
  ·refine hM ak ?_
   repeat' split
   all_goals first|exact ak.cr _|exact hM ak (O _)|exact O _
  ·exact ak.cr _
theorem ate {ft av:Option F}{x:F}{K:F->ρ}{aL:F->dD}(O:∀v,z (K v) (aL v)):z (xZ A ft av x K) (xZ fx ft av x aL):=by
 unfold xZ
 repeat' split
 all_goals first|exact ak.cr _|exact hM ak (O _)|exact O _
theorem atf {r:List Z}{x:F}{K:F->ρ}{aL:F->dD}(O:∀v,z (K v) (aL v)):z (Ec A r x K) (Ec fx r x aL):=by
 unfold Ec
 repeat' split
 all_goals first|exact ak.cr _|exact hM ak (O _)|exact O _
theorem atg {r:List Z}{e:TypeId}{U b:Nat}{x y:F}{K:F->List Z->ρ}{aL:F->List Z->dD}(O:∀v rs,z (K v rs) (aL v rs)):z (Ed A r e U b x y K) (Ed fx r e U b x y aL):=by
 unfold Ed
 repeat' split
 all_goals first|exact ak.cr _|exact hM ak (O _ _)
theorem ath {r:List Z}{ok aK:Bool}{Y:List cW}{zero x k:F}{K:F->ρ}{aL:F->dD}(O:∀v,z (K v) (aL v)):z (Ee A r ok aK Y zero x k K) (Ee fx r ok aK Y zero x k aL):=by
 unfold Ee;split
 ·exact ak.cr _
 ·exact hM ak (O _)
theorem ati {r:List Z}{aK:Bool}{Y:List cW}{x k v:F}{K:List Z->ρ}{aL:List Z->dD}(O:∀v,z (K v) (aL v)):z (Ef A r aK Y x k v K) (Ef fx r aK Y x k v aL):=by
 unfold Ef
 repeat' split
 all_goals first|exact ak.cr _|exact hM ak (O _)|exact O _
theorem atj {r:List Z}{aK:Bool}{Y:List cW}{zero x k:F}{K:F->List Z->ρ}{aL:F->List Z->dD}(O:∀v rs,z (K v rs) (aL v rs)):z (Eg A r aK Y zero x k K) (Eg fx r aK Y zero x k aL):=by
 unfold Eg
 repeat' split
 all_goals first|exact ak.cr _|exact hM ak (O _ _)
theorem atk {r:List Z}{x c v:F}{K:List Z->ρ}{aL:List Z->dD}(O:∀v,z (K v) (aL v)):z (Eh A r x c v K) (Eh fx r x c v aL):=by
 unfold Eh
 repeat' split
 all_goals first|exact ak.cr _|exact hM ak (O _)|exact O _
theorem atl {r:List Z}{x:F}{K:F->List Z->ρ}{aL:F->List Z->dD}(O:∀v rs,z (K v rs) (aL v rs)):z (Ei A r x K) (Ei fx r x aL):=by
 unfold Ei
 repeat' split
 all_goals first|exact ak.cr _|exact O _ _
theorem atm {r:List Z}{x:F}{K:F->ρ}{aL:F->dD}(O:∀v,z (K v) (aL v)):z (Ej A r x K) (Ej fx r x aL):=by
 unfold Ej
 repeat' split
 all_goals first|exact ak.cr _|exact hM ak (O _)|exact O _
theorem atn {r:List Z}{U:Nat}{x y:F}{K:F->List Z->ρ}{aL:F->List Z->dD}(O:∀v rs,z (K v rs) (aL v rs)):z (Ek A r U x y K) (Ek fx r U x y aL):=by
 unfold Ek
 repeat' split
 all_goals first|exact ak.cr _|exact hM ak (O _ _)
theorem ato {r:List Z}{U:Nat}{zero:List F}{x:F}{K:List Z->ρ}{aL:List Z->dD}(O:∀v,z (K v) (aL v)):z (El A r U zero x K) (El fx r U zero x aL):=by
 unfold El
 repeat' split
 all_goals first|exact ak.cr _|exact hM ak (O _)|exact O _
theorem atp {len U:Nat}{x y:F}{K:F->ρ}{aL:F->dD}(O:∀v,z (K v) (aL v)):z (Em A len U x y K) (Em fx len U x y aL):=by
 unfold Em
 repeat' split
 all_goals first|exact ak.cr _|exact hM ak (O _)|exact O _
theorem XJ {op:gc}{args:List F}{r:List Z}{K:F->List Z->ρ}{aL:F->List Z->dD}(O:∀v rs,z (K v rs) (aL v rs)):z (B5 A op args r K) (B5 fx op args r aL):=by
 unfold B5;split
 all_goals first
  |exact ak.cr _
  |exact O _ _
  |exact hM ak (O _ _)
  |exact XH ak λ_=>O _ _
  |exact XI ak λ_=>O _ _
  |exact ata ak λ_=>O _ _
  |exact asZ ak λ_=>O _ _
  |exact atb ak λ_=>O _ _
  |exact atc ak λ_=>O _ _
  |exact atd ak λ_=>O _ _
  |exact ate ak λ_=>O _ _
  |exact atg ak O
  |exact atf ak λ_=>O _ _
  |exact asY ak O
  |exact atn ak O
  |exact atp ak λ_=>O _ _
  |exact ath ak λ_=>O _ _
  |exact ati ak λ_=>O _ _
  |exact atj ak O
  |exact atk ak λ_=>O _ _
  |exact atl ak O
  |exact atm ak λ_=>O _ _
  |exact ato ak λ_=>O _ _
  | (split<;>first|exact ak.cr _|exact O _ _|exact hM ak (O _ _))
variable {P:Program} {call:FuncId->List F->List Z->(F->List Z->ρ)->ρ} {ty:FuncId->List F->List Z->(F->List Z->dD)->dD}
 (ad:∀f args r K aL,(∀v rs,z (K v rs) (aL v rs))->z (call f args r K) (ty f args r aL))
include ad
theorem XK {ax:List Nat}{f:FuncId}{args:List F}{r:List Z}{K:F->List Z->ρ}{aL:F->List Z->dD}(O:∀v rs,z (K v rs) (aL v rs)):z (B6 A call ax f args r K) (B6 fx ty ax f args r aL):=by
 unfold B6;split
 ·exact hM ak (ad _ _ _ _ _ λ_ _=>O _ _)
 ·exact ak.cr _
theorem XL {f:FuncId}{args:List F}{r:List Z}{K:F->List Z->ρ}{aL:F->List Z->dD}(O:∀v rs,z (K v rs) (aL v rs)):z (En A call f args r K) (En fx ty f args r aL):=XK ak ad O
theorem atq {vs:List F}{r:List Z}{K:F->List Z->ρ}{aL:F->List Z->dD}(O:∀v rs,z (K v rs) (aL v rs)):z (Eo A P call vs r K) (Eo fx P ty vs r aL):=by
 unfold Eo;split
 ·exact hM ak (XL ak ad O)
 ·exact ak.cr _
omit ad in
theorem atr {r:List Z}{x:F}{K:F->List Z->ρ}{aL:F->List Z->dD}(O:∀v rs,z (K v rs) (aL v rs)):z (Ep A r x K) (Ep fx r x aL):=by
 unfold Ep;split
 ·split
  ·refine hM ak ?_;split
   ·exact O _ _
   ·exact ak.all _ _ _ λ_ _=>O _ _
  ·exact ak.cr _
 ·exact ak.cr _
theorem XM {V:dU}{D:aQ}{r:List Z}{K:aQ->List Z->ρ}{aL:aQ->List Z->dD}(O:∀e rs,z (K e rs) (aL e rs)):z (B7 A P call V D r K) (B7 fx P ty V D r aL):=by
 unfold B7;split
 ·exact XL ak ad λ_ _=>O _ _
 ·split
  ·exact atr ak λ_ _=>O _ _
  ·exact ak.cr _
 ·exact atq ak ad λ_ _=>O _ _
 ·exact XJ ak λ_ _=>O _ _
theorem ats {V:dU}{D:aQ}{r:List Z}{K:aQ->List Z->ρ}{aL:aQ->List Z->dD}(O:∀e rs,z (K e rs) (aL e rs)):z (Er A P call V D r K) (Er fx P ty V D r aL):=by
 unfold Er;split
 ·exact XM ak ad O
 ·split
  ·split
   ·exact XM ak ad O
   ·exact O _ _
  ·exact O _ _
  ·exact ak.cr _
theorem XN:∀{os:List dU} {K:aQ->List Z->ρ} {aL:aQ->List Z->dD} {D:aQ} {r:List Z},(∀e rs,z (K e rs) (aL e rs))->z (Es A P call os K D r) (Es fx P ty os aL D r)
 | [],_,_,_,_,O=>O _ _
 |_::_,_,_,_,_,O=>ats ak ad λ_ _=>XN O
theorem XO {f:FuncId}{args:List F}{bL:List Nat}{tk:dr}{r:List Z}{K:F->List Z->ρ}{aL:F->List Z->dD}(O:∀v rs,z (K v rs) (aL v rs)):z (B8 A call f args bL tk r K) (B8 fx ty f args bL tk r aL):=by
 unfold B8;split
 ·exact XK ak ad O
 ·exact hM ak (ad _ _ _ _ _ λ_ _=>hM ak (O _ _))
theorem att {vs:List F}{bL:List Nat}{tk:dr}{r:List Z}{K:F->List Z->ρ}{aL:F->List Z->dD}(O:∀v rs,z (K v rs) (aL v rs)):z (Et A P call vs bL tk r K) (Et fx P ty vs bL tk r aL):=by
 unfold Et;split
 ·exact hM ak (XO ak ad O)
 ·exact ak.cr _
omit ad in
theorem atu {op:gc}{args:List F}{k:Nat}{r:List Z}{K:F->List Z->ρ}{aL:F->List Z->dD}(O:∀v rs,z (K v rs) (aL v rs)):z (Ew A op args k r K) (Ew fx op args k r aL):=by
 unfold Ew;split
 all_goals first
  |exact ak.cr _
  |exact hM ak (O _ _)
  | (split<;>first|exact ak.cr _|exact hM ak (O _ _))
theorem XP {base c:Nat}{B:fd}{tk:dr}{D:aQ}{r:List Z}{K:dr->aQ->List Z->ρ}{aL:dr->aQ->List Z->dD}(O:∀t e rs,z (K t e rs) (aL t e rs)):z (B9 A P call base c B tk D r K) (B9 fx P ty base c B tk D r aL):=by
 unfold B9;split
 ·exact hM ak (atu ak λ_ _=>O _ _ _)
 ·split
  ·exact XO ak ad λ_ _=>O _ _ _
  ·exact att ak ad λ_ _=>O _ _ _
  ·exact hM ak (XJ ak λ_ _=>O _ _ _)
theorem G9 {base:Nat}:∀{ds:List (Nat×fd)} {ag:List Nat} {K:aQ->List Z->ρ} {aL:aQ->List Z->dD} {tk:dr} {D:aQ} {r:List Z},(∀e rs,z (K e rs) (aL e rs))->z (uS A P call base ds ag K tk D r) (uS fx P ty base ds ag aL tk D r)
 | [],_,_,_,_,_,_,O=>O _ _
 | (c,B)::ds,ag,K,aL,tk,D,r,O=>by
  rw[uS,uS];split
  ·exact XP ak ad λ_ _ _=>G9 O
  ·split
   ·split
    ·exact XP ak ad λ_ _ _=>G9 O
    ·exact G9 O
   ·exact G9 O
   ·exact ak.cr _
theorem zL:∀(m:Nat) (J:gd) (K:zK ρ) (aL:zK dD) (D:aQ) (r:List Z),(∀e rs,z (K.n e rs) (aL.n e rs))->(∀j e rs,z (K.x j e rs) (aL.x j e rs))->(∀e rs,z (K.z e rs) (aL.z e rs))->z (lr A P call m J K D r) (lr fx P ty m J aL D r)
 |0,_,_,_,_,_,_,_,_=>ak.cr _
 |m+1,J,K,aL,D,r,d,G,au=>by
  cases J with
  |skip=>exact d _ _
  |region bq ag=>exact XN ak ad λ_ _=>d _ _
  |tq bq fo ag=>exact G9 ak ad d
  |seq a b=>exact zL m a _ _ _ _ (λe rs=>zL m b _ _ _ _ d G au) G au
  |cond J a b=>
   simp only[lr];split
   ·exact zL m a _ _ _ _ d G au
   ·exact zL m b _ _ _ _ d G au
   ·exact ak.cr _
  |block id J=>
   refine zL m J _ _ _ _ d (λj e rs=> ?_) au
   dsimp only
   split
   ·exact d _ _
   ·exact G _ _ _
  |loop J=>exact zL m J _ _ _ _ (λe rs=>zL m (.loop J) _ _ _ _ d G au) G au
  |exit id=>exact G _ _ _
  |ret=>exact au _ _
omit ad in
theorem Lg {r:List Z}{D:aQ}:∀{l:List uL} {K:List F->ρ} {aL:List F->dD},(∀vs,z (K vs) (aL vs))->z (ya A r D l K) (ya fx r D l aL)
 | [],_,_,O=>O _
 | .tmp t::l,K,aL,O=>Lg (l:=l) λvs=>O _
 | .GQ t::l,K,aL,O=>XH ak λv=>Lg λvs=>O _
 | .uM t n::l,K,aL,O=>XI ak λv=>Lg λvs=>O _
end
def Lh (bb:Nat)(v:F)(r:List Z):F×List Z:=
 match v with
 | .own z n 0 k=>
  match r[z]? with
  |some (.ag e U am)=>if k<n/\bb<=z/\n=am.length then (.own r.length k 0 k,r.set z .fP++[.ag e U (am.take k)]) else (v,r)
  |_=>(v,r)
 |_=>(v,r)
theorem atv {bb:Nat}{v:F}{r:List Z}{K:aQ->List Z->Prop}(h:E bb K [(0,(Lh bb v r).1)] (Lh bb v r).2):E bb K [(0,v)] r:=by
 unfold Lh at h;split at h
 ·split at h
  ·rename_i N;split at h
   ·rename_i ad;refine E.oc (.ei 0 _ _ _ rfl N ad.2.2) (E.eW [0] ?_);exact h
   ·exact h
  ·exact h
 ·exact h
def Qw {ρ:Type}(A:hg ρ)(bb:Nat)(K:F->List Z->ρ)(p:F×List Z):ρ:=Qh A bb ((List.range bb++(zJ p.2 100000 (List.range bb++K5 p.1) []).filter λz=>decide (bb<=z)).map some) p.1 p.2 K
def ye {ρ:Type}(A:hg ρ)(bb:Nat)(aG:aN)(K:F->List Z->ρ)(D:aQ)(r:List Z):ρ:=
 ya A r D aG.results λvs=>Qw A bb K (Lh bb (mi vs) r)
theorem XQ {ρ dD:Type}{A:hg ρ}{fx:hg dD}{z:ρ->dD->Prop}(ak:Lf A fx z){bb:Nat}{aG:aN}{K:F->List Z->ρ}{aL:F->List Z->dD}(O:∀v rs,z (K v rs) (aL v rs))(D:aQ)(r:List Z):z (ye A bb aG K D r) (ye fx bb aG aL D r):=by
 unfold ye;refine Lg ak λvs=> ?_;unfold Qw Qh;split
 ·exact hM ak (O _ _)
 ·exact ak.cr _
structure uU (P:Program) where
 f:FuncId
 run:List F->List Z->Option (F×List Z)
 ok:∀args r v rs,run args r=some (v,rs)->aO P f args r λgA hs=>gA=v/\hs=rs
def Li {P:Program}:List (uU P)->FuncId->Option (uU P)
 | [],_=>none
 |x::aq,f=>if x.f=f then some x else Li aq f
theorem XR {P:Program}:∀{l:List (uU P)} {f:FuncId} {x:uU P},Li l f=some x->x.f=f
 | [],_,_,h=>by cases h
 |y::ys,f,x,h=>by
  rw[Li] at h;split at h
  ·simp at h;subst h;assumption
  ·exact XR h
def zM {ρ:Type}(A:hg ρ)(P:Program)(aW:List (yb P))(aY:List (uU P)):Nat->FuncId->List F->List Z->(F->List Z->ρ)->ρ
 |0,_,_,_,_=>A.cr
 |B+1,f,args,r,K=>
  match Li aY f with
  |some x=>
   match x.run args r with
   |some (v,rs)=>K v rs
   |none=>A.cr
  |none=>
   match K8 aW f with
   |some x=>cL A (decide (args.length<=x.aG.ntmps)) (lr A P (zM A P aW aY B) 1000000 x.aG.body ⟨ye A r.length x.aG K,λ_ _ _=>A.cr,ye A r.length x.aG K⟩ (ro args 0) r)
   |none=>A.cr
theorem XS {ρ dD:Type}{A:hg ρ}{fx:hg dD}{z:ρ->dD->Prop}(ak:Lf A fx z){P:Program}{aW:List (yb P)}{aY:List (uU P)}:∀(B:Nat) (f:FuncId) (args:List F) (r:List Z) (K:F->List Z->ρ) (aL:F->List Z->dD),(∀v rs,z (K v rs) (aL v rs))->z (zM A P aW aY B f args r K) (zM fx P aW aY B f args r aL)
 |0,_,_,_,_,_,_=>ak.cr _
 |B+1,f,args,r,K,aL,O=>by
  rw[zM,zM];split
  ·split
   ·exact O _ _
   ·exact ak.cr _
  ·split
   ·exact hM ak (zL ak (λf args r K aL h=>XS ak B f args r K aL h) _ _ _ _ _ _ (λe rs=>XQ ak O e rs) (λ_ _ _=>ak.cr _) (λe rs=>XQ ak O e rs))
   ·exact ak.cr _
theorem XT {P:Program}{aW:List (yb P)}{aY:List (uU P)}:∀(B:Nat) (f:FuncId) (args:List F) (r:List Z) (K:F->List Z->Prop),zM fi P aW aY B f args r K->aO P f args r K
 |0,_,_,_,_,h=>h.elim
 |B+1,f,args,r,K,h=>by
  rw[zM] at h;split at h
  ·rename_i x aj;split at h
   ·rename_i v rs N;have:=XR aj;subst this;exact (x.ok _ _ _ _ N).mono λgA hs an=>by obtain⟨rfl,rfl⟩:=an;exact h
   ·exact h.elim
  ·split at h
   ·rename_i x aj;rw[gn] at h;obtain⟨aH,h⟩:=h;obtain⟨fn,ag,d,G⟩:=x.ok;rw[Xm aj] at d;refine cu d G (aNc aH) ?_;have bg:∀D rs,ye fi r.length x.aG K D rs->ol r.length K [] x.aG.results D rs:=by
     intro D rs O;unfold ye at O;unfold ol;refine Lb (λvs an=> ?_) O;unfold Qw Qh at an;split at an
     ·rename_i srows aw;rw[gn,aKJ] at an;refine atv (aMd _ [] an.1.1 an.1.2 aw (i ?_));simp only[xP,aLV,aKP,aLC,bs,aK5];exact an.2
     ·exact an.elim
    exact uP _ (K:=(⟨ye fi r.length x.aG K,λ_ _ _=>fi.cr,ye fi r.length x.aG K⟩:zK Prop).p) (λe z O=>bg e z O) (λ_ _ _ O=>O) (λe z O=>bg e z O) (Ca (XT B) x.aG.body 1000000 _ (ro args 0) r h)
   ·exact h.elim
def Lj:hg (Option (List (F×List Z))):=⟨none,λl=>l.foldr (λx acc=>match x,acc with|some a,some b=>some (a++b)|_,_=>none) (some [])⟩
theorem atw (iZ:F->List Z->Prop):Lf Lj fi λx p=> ∀wo,x=some wo->(∀V∈wo,iZ V.1 V.2)->p where
 cr:=λp wo h=>by cases h
 all:=by
  intro l f g h
  induction l with
  |nil=>intro wo _ _;exact trivial
  |cons c l ih=>
   intro wo bp hG;have ih:=ih λj hj=>h j (aK1 _ hj);have e:Lj.all ((c::l).map f)=match f c,Lj.all (l.map f) with|some a,some b=>some (a++b)|_,_=>none:=rfl
   rw[e] at bp;split at bp
   ·rename_i a b aC af;simp only[aLj] at bp;subst bp;exact⟨h c aLa a aC λV hm=>hG V (aMa _ hm),ih b af λV hm=>hG V (aNb _ hm)⟩
   ·cases bp
theorem zN {P:Program}{aW:List (yb P)}{aY:List (uU P)}{f:FuncId}{args:List F}{r:List Z}{bh:F->List Z->Prop}(B:Nat)(wo:List (F×List Z))
 (h:zM Lj P aW aY B f args r (λv rs=>some [(v,rs)])=some wo) (vT:∀V∈wo,bh V.1 V.2):aO P f args r bh:=
 XT B f args r bh (XS (atw bh) B f args r _ bh (λv rs wo bp hG=>by cases bp;exact hG (v,rs) aLa) wo h vT)
end Go.Abs
