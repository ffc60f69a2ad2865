/- The abstract machine. -/
import Derived.WalkKit
set_option linter.unusedSimpArgs false
set_option linter.unusedVariables false
set_option linter.unusedSectionVars false
namespace Go.Abs
theorem Ni {bd:Type}: ∀ (a:Ask bd) (w:World),w.drawn≤(w.ask a).2.drawn
 | .done _,w=>Nat.le_refl _
 | .ask what range k,w=>by
  rw[World.ask];split
  ·exact Ni (k 0) w
  ·exact Nat.le_trans (Nat.le_succ _) (Ni _ {w with drawn:=w.drawn+1})
theorem aia (w:World)(F:Sys):w.drawn≤(w.sys F).2.drawn:=by
 have h:=Ni (Kernel.perform F w.os) w;unfold World.sys;split
 ·exact Nat.le_refl _
 ·rename_i i os w' he;rw[he] at h;exact h
theorem Iu {TI bd iF:Type}{x:Except TI bd}{f:bd→Except TI iF}{b:iF}(h: (x >>= f)= .ok b): ∃ a,x= .ok a∧f a= .ok b:=by
 cases x with
 |error e=>simp[bind,Except.bind] at h
 |ok a=>exact⟨a,rfl,by simpa[bind,Except.bind] using h⟩
theorem aib {p:Program}{w:World}{aD:Addr}{u:TypeId}{k:Addr}{v:Value}{atomic:Bool}{i:World×List Addr}(h:w.viewStore p aD u k v atomic= .ok i):i.1.drawn=w.drawn:=by
 unfold World.viewStore at h;simp only at h;split at h
 ·obtain⟨_,h1,_⟩:=Iu h;simp[MonadExcept.throw,throwThe,MonadExceptOf.throw] at h1
 obtain⟨⟨F,e,frozen,first,aHM,cells⟩,_,h⟩:=Iu h;simp only at h;split at h
 ·split at h
  ·obtain⟨_,h1,_⟩:=Iu h;simp[MonadExcept.throw,throwThe,MonadExceptOf.throw] at h1
  obtain⟨F,_,h⟩:=Iu h;simp only[pure,Except.pure,Except.ok.injEq] at h;subst h;rfl
 ·simp[MonadExcept.throw,throwThe,MonadExceptOf.throw] at h
theorem aic {p:Program}{w:World}{a:Addr}{v:Value}{atomic:Bool}{i:World×List Addr}(h:w.farStore p a v atomic= .ok i):i.1.drawn=w.drawn:=by
 unfold World.farStore at h;split at h
 ·split at h
  ·rename_i ag;simp at h;subst h;exact aib ag
  ·cases h
 ·cases h
theorem mI {bd:Type}{p:Program}: ∀ {E:Sem bd} {w w':World} {a:bd},E.run p w= .ok a w'→w.drawn≤w'.drawn
 | .pure a,w,w',_,h=>by
  rw[Sem.run] at h;cases h;exact Nat.le_refl _
 | .load m a k,w,w',_,h=>by
  rw[Sem.run] at h;split at h
  ·exact mI h
  ·split at h
   ·exact mI h
   ·cases h
 | .store m a v k,w,w',y,h=>by
  have key: (match w.cell? a with
   |some _=>if w.frozen? a then .halt (.unsupported (.unsafePointer "a write to bytes that a string shares")) w else k.run p (w.setCell a v)
   |none=>match w.farStore p a v (m== .atomic) with
    | .ok (w,_)=>k.run p w
    | .error h=> .halt h w)=Result.ok y w':=by
   cases v<;>first| (rw[Sem.run] at h;cases h;done)|exact h
  split at key
  ·split at key
   ·cases key
   ·exact mI (w:=w.setCell a v) key
  ·split at key
   ·rename_i hf;have:=aic hf;exact Nat.le_trans (Nat.le_of_eq this.symm) (mI key)
   ·cases key
 | .new L k,w,w',_,h=>by
  rw[Sem.run] at h;exact mI (w:= {w with heap:=w.heap.push L}) h
 | .shape i k,w,w',_,h=>by
  rw[Sem.run] at h;exact mI h
 | .freeze a n k,w,w',_,h=>by
  rw[Sem.run] at h;have aR: (w.freeze a n).drawn=w.drawn:=by
   unfold World.freeze
   (repeat' split)<;>rfl
  exact Nat.le_trans (Nat.le_of_eq aR.symm) (mI h)
 | .frozen a k,w,w',_,h=>by
  rw[Sem.run] at h;exact mI h
 | .getObj i k,w,w',_,h=>by
  rw[Sem.run] at h;split at h
  ·cases h
  ·exact mI h
  ·cases h
 | .setObj i L k,w,w',_,h=>by
  rw[Sem.run] at h;split at h
  ·cases h
  ·exact mI (w:= {w with heap:=w.heap.setIfInBounds i L}) h
  ·cases h
 | .choose q k,w,w',_,h=>by
  rw[Sem.run] at h;split at h
  ·exact mI h
  ·exact Nat.le_trans (Nat.le_succ _) (mI (w:= {w with drawn:=w.drawn+1}) h)
 | .sys F k,w,w',_,h=>by
  rw[Sem.run] at h;exact Nat.le_trans (aia w F) (mI h)
 | .program k,w,w',_,h=>by
  rw[Sem.run] at h;exact mI h
 | .mark m k,w,w',_,h=>by
  rw[Sem.run] at h;exact mI h
 | .halt hh,w,w',_,h=>by
  rw[Sem.run] at h;cases h
end Go.Abs
namespace Go.Abs
inductive z where
 |int (k:IntKind) (n:Int)
 |bool (b:Bool)
 |str (E:ByteArray)
 |agg (aj:List z)
 |bg (vs:List z)
 |bD
 |pure (N:Nat) (ah:List (List z))
 |own (i n off len:Nat)
 |aW (i n c off:Nat)
 |eb (cells:List z) (off:Nat)
 |jW
 |fn (f:FuncId) (aj:List z)
 |bu (i:Nat)
 |km
 |fG (i m:Nat)
 |cc
 deriving Inhabited
inductive cN where
 |int (k:IntKind)
 |bool
 |str
 deriving Inhabited,DecidableEq
inductive xS where
 |map (aE:Bool) (M:List cN) (ents:List (z×z))
 |dY (n:Nat) (bR:List Nat)
 deriving Inhabited
def cv:List cN→List z→Prop
 | .int k::M,.int bo _::aj=>k=bo∧cv M aj
 | .bool::M,.bool _::aj=>cv M aj
 | .str::M,.str _::aj=>cv M aj
 | [],[]=>True
 |_,_=>False
def cf:z→List z
 | .agg aj=>aj
 |v=> [v]
def lX:z→Bool
 | .agg _=>true
 |_=>false
def fT (aE:Bool)(M:List cN)(k:z):Prop:=lX k=aE∧cv M (cf k)
inductive R where
 |fH
 |aa (aHN:TypeId) (N:Nat) (ah:List (List z))
 |aY (L:xS)
 deriving Inhabited
structure bv where
 d:List R
 bm:List (Option (Nat×Nat))
 bS:Nat→Prop
 w:World
 bT:Bool
def bv.p (C:bv):bv:= {C with bT:=true}
def bv.jX (C:bv)(b:Nat):Prop:=b < C.w.heap.size∧ ¬C.bS b∧ ∀ i F:Nat,C.bm[i]? ≠some (some (b,F))
def nO (p:Option (Nat×Nat))(N off len:Nat)(v:Value):Prop:=
 match p with
 |none=>(∃ ct,v= .slice ct 0 0)∧off=0∧len=0
 |some (b,cap)=> ∃ a F,v= .slice (some a) len F∧len≤F∧a.spot=none∧a.block=b∧(off=0→a.off=0∧F=cap)∧(0 < len→a.off=off*N)
mutual
def Rep (C:bv):z→Value→Prop
 | .int k n,v=>v= .int k n
 | .bool b,v=>v= .bool b
 | .str E,v=>v= .string E
 | .agg aj,v=> ∃ vs:Array Value,v= .agg vs∧ay C aj vs.toList
 | .bg aj,v=> ∃ vs:Array Value,v= .tuple vs∧ay C aj vs.toList
 | .bD,v=> ∃ ct,v= .slice ct 0 0
 | .pure N ah,v=> ∃ ct cap,v= .slice ct ah.length cap∧ah.length≤cap∧(ah.length=0∨ ∃ b L,ct=some ⟨b,L,none⟩∧C.jX b∧cT C.p b L N ah)
 | .own i n off len,v=>C.bT=false∧(∃ ct F,v= .slice ct len F)∧i < C.d.length∧ ∀ e N ah,C.d[i]? =some (.aa e N ah)→n≤ah.length∧(n=ah.length→off+len≤n∧ ∃ p,C.bm[i]? =some p∧nO p N off len v)
 | .aW i n c off,v=>C.bT=false∧(∃ a,v= .pointer (some a))∧i < C.d.length∧ ∀ e N ah,C.d[i]? =some (.aa e N ah)→n≤ah.length∧(n=ah.length→c < n∧ ∃ b F,C.bm[i]? =some (some (b,F))∧v= .pointer (some ⟨b,c*N+off,none⟩))
 | .eb cells off,v=> ∃ b L,v= .pointer (some ⟨b,L+off,none⟩)∧C.jX b∧dn C.p b L cells
 | .jW,v=>v= .pointer none
 | .fn f aj,v=> ∃ vs:Array Value,v= .func (.func f) #[] vs∧ay C aj vs.toList
 | .bu i,v=>C.bT=false∧(∃ b,v= .map (some b))∧i < C.d.length∧ ∀ L,C.d[i]? =some (.aY L)→ ∃ b F,C.bm[i]? =some (some (b,F))∧v= .map (some b)
 | .km,v=>v= .map none
 | .fG i m,v=>C.bT=false∧(∃ a,v= .pointer (some a))∧i < C.d.length∧m < C.d.length∧ ∀ L eN,C.d[i]? =some (.aY L)→C.d[m]? =some (.aY eN)→
  ∃ b jn F,C.bm[i]? =some (some (b,jn))∧C.bm[m]? =some (some (jn,F))∧v= .pointer (some ⟨b,0,none⟩)
 | .cc,_=>True
def ay (C:bv):List z→List Value→Prop
 | [],vs=>vs= []
 |F::aj,vs=> ∃ v bW,vs=v::bW∧Rep C F v∧ay C aj bW
def dn (C:bv)(b:Nat)(L:Nat):List z→Prop
 | []=>True
 |F::aj=>(∃ v,C.w.cell? ⟨b,L,none⟩=some v∧v.oneCell'=true∧Rep C F v)∧dn C b (L+1) aj
def cT (C:bv)(b:Nat)(L N:Nat):List (List z)→Prop
 | []=>True
 |e::al=>e.length=N∧dn C b L e∧cT C b (L+N) N al
end
structure jo (C av:bv):Prop where
 bT:av.bT=C.bT
 nP: ∀ b,C.jX b→av.w.heap[b]? =C.w.heap[b]? ∧av.jX b
 len:C.d.length≤av.d.length
 d: ∀ i e N dl,i < C.d.length→av.d[i]? =some (.aa e N dl)→
  ∃ ah,C.d[i]? =some (.aa e N ah)∧ah.length≤dl.length∧(ah.length=dl.length→av.bm[i]? =C.bm[i]?)
 qu: ∀ i eN,i < C.d.length→av.d[i]? =some (.aY eN)→ ∃ L,C.d[i]? =some (.aY L)∧av.bm[i]? =C.bm[i]?
theorem jo.refl (C:bv):jo C C:=⟨rfl,fun _ h=>⟨rfl,h⟩,Nat.le_refl _,fun _ _ _ ah _ h=>⟨ah,h,Nat.le_refl _,fun _=>rfl⟩,fun _ L _ h=>⟨L,h,rfl⟩⟩
theorem jo.p {C av:bv}(h:jo C av):jo C.p av.p:=⟨rfl,h.nP,h.len,h.d,h.qu⟩
mutual
theorem Rep.ext {C av:bv}(h:jo C av): ∀ (a:z) (v:Value),Rep C a v→Rep av a v
 | .int ..,_,i=>by simpa[Rep] using i
 | .bool ..,_,i=>by simpa[Rep] using i
 | .str ..,_,i=>by simpa[Rep] using i
 | .bD,_,i=>by simpa[Rep] using i
 | .jW,_,i=>by simpa[Rep] using i
 | .cc,_,_=>by simp[Rep]
 | .agg aj,v,i=>by
  rw[Rep] at i ⊢;obtain⟨vs,rfl,G⟩:=i;exact⟨vs,rfl,ay.ext h aj _ G⟩
 | .bg aj,v,i=>by
  rw[Rep] at i ⊢;obtain⟨vs,rfl,G⟩:=i;exact⟨vs,rfl,ay.ext h aj _ G⟩
 | .pure N ah,v,i=>by
  rw[Rep] at i ⊢;obtain⟨ct,cap,rfl,ed,G⟩:=i;refine⟨ct,cap,rfl,ed,?_⟩;rcases G with G|⟨b,L,rfl,Z,he⟩
  ·exact .inl G
  ·exact .inr ⟨b,L,rfl,(h.nP b Z).2,cT.ext h.p b L N Z ah he⟩
 | .own i n off len,v,G=>by
  rw[Rep] at G ⊢;obtain⟨hm,h0,h1,B⟩:=G;refine⟨h.bT.trans hm,h0,Nat.lt_of_lt_of_le h1 h.len,fun e N dl ag=> ?_⟩;obtain⟨ah,cz,eT,a3⟩:=h.d i e N dl h1 ag;obtain⟨b1,eA⟩:=B e N ah cz;refine⟨by omega,fun aB=> ?_⟩;obtain⟨c1,p,c2,c3⟩:=eA (by omega);exact⟨c1,p,by rw[a3 (by omega)];exact c2,c3⟩
 | .aW i n c off,v,G=>by
  rw[Rep] at G ⊢;obtain⟨hm,h0,h1,B⟩:=G;refine⟨h.bT.trans hm,h0,Nat.lt_of_lt_of_le h1 h.len,fun e N dl ag=> ?_⟩;obtain⟨ah,cz,eT,a3⟩:=h.d i e N dl h1 ag;obtain⟨b1,eA⟩:=B e N ah cz;refine⟨by omega,fun aB=> ?_⟩;obtain⟨c1,b,F,c2,c3⟩:=eA (by omega);exact⟨c1,b,F,by rw[a3 (by omega)];exact c2,c3⟩
 | .eb cells off,v,G=>by
  rw[Rep] at G ⊢;obtain⟨b,L,rfl,Z,V⟩:=G;exact⟨b,L,rfl,(h.nP b Z).2,dn.ext h.p b L Z cells V⟩
 | .fn f aj,v,i=>by
  rw[Rep] at i ⊢;obtain⟨vs,rfl,G⟩:=i;exact⟨vs,rfl,ay.ext h aj _ G⟩
 | .km,_,i=>by simpa[Rep] using i
 | .bu i,v,G=>by
  rw[Rep] at G ⊢;obtain⟨hm,h0,h1,B⟩:=G;refine⟨h.bT.trans hm,h0,Nat.lt_of_lt_of_le h1 h.len,fun eN bi=> ?_⟩;obtain⟨L,cz,eT⟩:=h.qu i eN h1 bi;rw[eT];exact B L cz
 | .fG i m,v,G=>by
  rw[Rep] at G ⊢;obtain⟨hm,h0,h1,B,am⟩:=G;refine⟨h.bT.trans hm,h0,Nat.lt_of_lt_of_le h1 h.len,Nat.lt_of_lt_of_le B h.len,fun kI kJ tq vX=> ?_⟩;obtain⟨p1,cz,eT⟩:=h.qu i kI h1 tq;obtain⟨iG,b1,eA⟩:=h.qu m kJ B vX;rw[eT,eA];exact am p1 iG cz b1
theorem ay.ext {C av:bv}(h:jo C av): ∀ (as:List z) (vs:List Value),ay C as vs→ay av as vs
 | [],vs,i=>by simpa[ay] using i
 |a::as,vs,i=>by
  rw[ay] at i ⊢;obtain⟨v,bW,rfl,h1,B⟩:=i;exact⟨v,bW,rfl,Rep.ext h a v h1,ay.ext h as bW B⟩
theorem dn.ext {C av:bv}(h:jo C av)(b L:Nat)(Z:C.jX b): ∀ (as:List z),dn C b L as→dn av b L as
 | [],_=>by simp[dn]
 |a::as,i=>by
  rw[dn] at i ⊢;obtain⟨⟨v,h1,B,am⟩,bp⟩:=i;exact⟨⟨v,by rw[World.cell?_of_block (w:=C.w) (h.nP b Z).1];exact h1,B,Rep.ext h a v am⟩,dn.ext h b (L+1) Z as bp⟩
theorem cT.ext {C av:bv}(h:jo C av)(b L N:Nat)(Z:C.jX b): ∀ (al:List (List z)),cT C b L N al→cT av b L N al
 | [],_=>by simp[cT]
 |e::al,i=>by
  rw[cT] at i ⊢;exact⟨i.1,dn.ext h b L Z e i.2.1,cT.ext h b (L+N) N Z al i.2.2⟩
end
mutual
theorem Rep.nQ {C:bv}: ∀ (a:z) (v:Value),Rep C.p a v→Rep C a v
 | .int ..,_,i=>by simpa[Rep] using i
 | .bool ..,_,i=>by simpa[Rep] using i
 | .str ..,_,i=>by simpa[Rep] using i
 | .bD,_,i=>by simpa[Rep] using i
 | .jW,_,i=>by simpa[Rep] using i
 | .cc,_,_=>by simp[Rep]
 | .agg aj,v,i=>by
  rw[Rep] at i ⊢;obtain⟨vs,rfl,G⟩:=i;exact⟨vs,rfl,ay.nQ aj _ G⟩
 | .bg aj,v,i=>by
  rw[Rep] at i ⊢;obtain⟨vs,rfl,G⟩:=i;exact⟨vs,rfl,ay.nQ aj _ G⟩
 | .pure N ah,v,i=>by rw[Rep] at i ⊢;exact i
 | .own i n off len,v,G=>by rw[Rep] at G;cases G.1
 | .aW i n c off,v,G=>by rw[Rep] at G;cases G.1
 | .eb cells off,v,G=>by rw[Rep] at G ⊢;exact G
 | .fn f aj,v,i=>by
  rw[Rep] at i ⊢;obtain⟨vs,rfl,G⟩:=i;exact⟨vs,rfl,ay.nQ aj _ G⟩
 | .km,_,i=>by simpa[Rep] using i
 | .bu i,v,G=>by rw[Rep] at G;cases G.1
 | .fG i m,v,G=>by rw[Rep] at G;cases G.1
theorem ay.nQ {C:bv}: ∀ (as:List z) (vs:List Value),ay C.p as vs→ay C as vs
 | [],vs,i=>by simpa[ay] using i
 |a::as,vs,i=>by
  rw[ay] at i ⊢;obtain⟨v,bW,rfl,h1,B⟩:=i;exact⟨v,bW,rfl,Rep.nQ a v h1,ay.nQ as bW B⟩
end
theorem dn.nQ {C:bv}(b:Nat): ∀ (L:Nat) (as:List z),dn C.p b L as→dn C b L as
 |L,[],_=>by simp[dn]
 |L,a::as,i=>by
  rw[dn] at i ⊢;obtain⟨⟨v,h1,B,am⟩,bp⟩:=i;exact⟨⟨v,h1,B,Rep.nQ a v am⟩,dn.nQ b (L+1) as bp⟩
theorem cT.nQ {C:bv}(b N:Nat): ∀ (L:Nat) (al:List (List z)),cT C.p b L N al→cT C b L N al
 |L,[],_=>by simp[cT]
 |L,e::al,i=>by
  rw[cT] at i ⊢;exact⟨i.1,dn.nQ b L e i.2.1,cT.nQ b N (L+N) al i.2.2⟩
def dA (C:bv)(i:Nat):R→Prop
 | .fH=>C.bm[i]? =some none
 | .aa e N ah=> ∃ p,C.bm[i]? =some p∧
  match p with
  |none=>ah= []
  |some (b,cap)=> ¬C.bS b∧ ∃ aj,C.w.heap[b]? =some (.cells aj e (0,0))∧aj.size=cap*N∧cap≤maxLen∧ah.length≤cap∧cT C b 0 N ah
 | .aY (.map aE M ents)=> ∃ b F al,C.bm[i]? =some (some (b,F))∧ ¬C.bS b∧C.w.heap[b]? =some (.map al al.size)∧(∀ (c:Nat) (e:MapEntry),al[c]? =some e→e.born=c)∧
  ay C (ents.map (·.1)) (al.toList.map (·.key))∧ay C (ents.map (·.2)) (al.toList.map (·.val))∧ ∀ p∈ents,fT aE M p.1
 | .aY (.dY n bR)=> ∃ b jn,C.bm[i]? =some (some (b,jn))∧ ¬C.bS b∧C.w.heap[b]? =some (.mapIter (some jn) n bR.toArray n)
structure cb (C:bv):Prop where
 bT:C.bT=false
 dm:C.bm.length=C.d.length
 d: ∀ i bz,C.d[i]? =some bz→dA C i bz
 inj: ∀ i cy b F dH:Nat,C.bm[i]? =some (some (b,F))→C.bm[cy]? =some (some (b,dH))→i=cy
 bS: ∀ b,C.bS b→b < C.w.heap.size
class Dr where
 o:Prop:=True
variable [Dr]
structure cd (n:Nat) (C av:bv):Prop where
 os:av.w.os=C.w.os
 tape:av.w.tape=C.w.tape
 output:av.w.output=C.w.output
 size:C.w.heap.size≤av.w.heap.size
 block: ∀ b,b < C.w.heap.size→(∀ i F:Nat,C.bm[i]? ≠some (some (b,F)))→av.w.heap[b]? =C.w.heap[b]?
 uG: ∀ i b F:Nat,av.bm[i]? =some (some (b,F))→(∃ cy dH:Nat,C.bm[cy]? =some (some (b,dH)))∨C.w.heap.size≤b
 bS:av.bS=C.bS
 bT:av.bT=C.bT
 len:n≤av.d.length
 d: ∀ i e N dl,i < n→av.d[i]? =some (.aa e N dl)→
  ∃ ah,C.d[i]? =some (.aa e N ah)∧ah.length≤dl.length∧(ah.length=dl.length→av.bm[i]? =C.bm[i]?)
 qu: ∀ i eN,i < n→av.d[i]? =some (.aY eN)→ ∃ L,C.d[i]? =some (.aY L)∧av.bm[i]? =C.bm[i]?
 drawn:Dr.o→C.w.drawn≤av.w.drawn
theorem cd.refl (C:bv):cd C.d.length C C:=
 ⟨rfl,rfl,rfl,Nat.le_refl _,fun _ _ _=>rfl,fun i _ F h=> .inl ⟨i,F,h⟩,rfl,rfl,Nat.le_refl _,fun _ _ _ ah _ h=>⟨ah,h,Nat.le_refl _,fun _=>rfl⟩,fun _ L _ h=>⟨L,h,rfl⟩,fun _=>Nat.le_refl _⟩
theorem cd.trans {n m:Nat}{A cZ C:bv}(h:cd n A cZ)(k:cd m cZ C)(aB:n≤m):cd n A C:=by
 refine⟨k.os.trans h.os,k.tape.trans h.tape,k.output.trans h.output,Nat.le_trans h.size k.size,fun b Z bi=> ?_,fun i b F V=> ?_,k.bS.trans h.bS,k.bT.trans h.bT,Nat.le_trans aB k.len,fun i e N dl G ag=> ?_,fun i eN G bi=> ?_,fun o=>Nat.le_trans (h.drawn o) (k.drawn o)⟩
 ·rw[←h.block b Z bi];refine k.block b (Nat.lt_of_lt_of_le Z h.size) fun i F V=> ?_;rcases h.uG i b F V with ⟨cy,dH,cJ⟩|cJ
  ·exact bi cy dH cJ
  ·omega
 ·rcases k.uG i b F V with ⟨cy,dH,cJ⟩|cJ
  ·exact h.uG cy b dH cJ
  ·exact .inr (Nat.le_trans h.size cJ)
 ·obtain⟨v1,cz,eT,a3⟩:=k.d i e N dl (by omega) ag;obtain⟨re,b1,eA,ls⟩:=h.d i e N v1 G cz;exact⟨re,b1,by omega,fun hh=>by rw[a3 (by omega),ls (by omega)]⟩
 ·obtain⟨kI,cz,eT⟩:=k.qu i eN (by omega) bi;obtain⟨kJ,b1,eA⟩:=h.qu i kI G cz;exact⟨kJ,b1,eT.trans eA⟩
theorem cd.nP {n:Nat}{C av:bv}(h:cd n C av)(b:Nat)(Z:C.jX b):av.w.heap[b]? =C.w.heap[b]? ∧av.jX b:=by
 obtain⟨h1,B,am⟩:=Z;refine⟨h.block b h1 am,Nat.lt_of_lt_of_le h1 h.size,by rw[h.bS];exact B,fun i F V=> ?_⟩;rcases h.uG i b F V with ⟨cy,dH,cJ⟩|cJ
 ·exact am cy dH cJ
 ·omega
theorem cd.ext {C av:bv}(h:cd C.d.length C av):jo C av:=⟨h.bT,h.nP,h.len,h.d,h.qu⟩
end Go.Abs
namespace Go.Abs
theorem ay.length {C:bv}: ∀ {as:List z} {vs:List Value},ay C as vs→vs.length=as.length
 | [],vs,h=>by rw[ay] at h;simp[h]
 |a::as,vs,h=>by
  rw[ay] at h;obtain⟨v,bW,rfl,_,B⟩:=h;simp[ay.length B]
theorem ay.nS {C:bv}: ∀ {as:List z} {vs:List Value} (c:Nat),ay C as vs→c < as.length→ ∃ v,vs[c]? =some v∧Rep C (as.getD c .cc) v
 | [],_,c,_,an=>by simp at an
 |a::as,vs,c,h,an=>by
  rw[ay] at h;obtain⟨v,bW,rfl,h1,B⟩:=h;cases c with
  |zero=>exact⟨v,rfl,h1⟩
  |succ c=>simpa using ay.nS c B (by simpa using an)
theorem ay.append {C:bv}: ∀ {as dc:List z} {vs af:List Value},ay C as vs→ay C dc af→ay C (as++dc) (vs++af)
 | [],dc,vs,af,h,k=>by rw[ay] at h;subst h;exact k
 |a::as,dc,vs,af,h,k=>by
  rw[ay] at h;obtain⟨v,bW,rfl,h1,B⟩:=h;show ay C (a::(as++dc)) (v::(bW++af));rw[ay];exact⟨v,_,rfl,h1,ay.append B k⟩
theorem ay.take {C:bv}: ∀ {as:List z} {vs:List Value} (n:Nat),ay C as vs→ay C (as.take n) (vs.take n)
 |as,vs,0,_=>by simp[ay]
 | [],vs,n+1,h=>by rw[ay] at h;subst h;simp[ay]
 |a::as,vs,n+1,h=>by
  rw[ay] at h;obtain⟨v,bW,rfl,h1,B⟩:=h;show ay C (a::as.take n) (v::bW.take n);rw[ay];exact⟨v,_,rfl,h1,ay.take n B⟩
theorem ay.drop {C:bv}: ∀ {as:List z} {vs:List Value} (n:Nat),ay C as vs→ay C (as.drop n) (vs.drop n)
 |as,vs,0,h=>by simpa using h
 | [],vs,n+1,h=>by rw[ay] at h;subst h;simp[ay]
 |a::as,vs,n+1,h=>by
  rw[ay] at h;obtain⟨v,bW,rfl,h1,B⟩:=h;simpa using ay.drop n B
def Cx (w:World)(b L:Nat)(vs:List Value):Prop:= ∀ (j:Nat) (u:Value),vs[j]? =some u→w.cell? ⟨b,L+j,none⟩=some u
def iH (vs:List Value):Prop:= ∀ v∈vs,v.oneCell'=true
theorem pM {C:bv}{b:Nat}: ∀ {L:Nat} {cells:List z},dn C b L cells↔ ∃ vs,ay C cells vs∧Cx C.w b L vs∧iH vs
 |L,[]=>by
  simp only[dn,ay,true_iff];exact⟨[],rfl,fun j u h=>by simp at h,fun v h=>by simp at h⟩
 |L,F::aj=>by
  rw[dn,pM];constructor
  ·rintro⟨⟨v,h1,B,am⟩,vs,bI,ca,fc⟩;refine⟨v::vs,by rw[ay];exact⟨v,vs,rfl,am,bI⟩,fun j u aT=> ?_,fun u aZ=> ?_⟩
   ·cases j with
    |zero=>simp at aT;subst aT;exact h1
    |succ j=>have:=ca j u (by simpa using aT);rw[show L+(j+1)=L+1+j from by omega];exact this
   ·rcases List.mem_cons.1 aZ with rfl|aZ
    ·exact B
    ·exact fc u aZ
  ·rintro⟨vs,bI,ca,fc⟩;rw[ay] at bI;obtain⟨v,bW,rfl,h1,B⟩:=bI;refine⟨⟨v,by simpa using ca 0 v rfl,fc v (by simp),h1⟩,bW,B,fun j u aT=> ?_,fun u aZ=>fc u (by simp[aZ])⟩;have:=ca (j+1) u (by simpa using aT);rw[show L+1+j=L+(j+1) from by omega];exact this
theorem dn.drop {C:bv}{b L:Nat}{cells:List z}(n:Nat)(h:dn C b L cells):dn C b (L+n) (cells.drop n):=by
 obtain⟨vs,h1,B,am⟩:=pM.1 h;refine pM.2 ⟨vs.drop n,h1.drop n,fun j u aT=> ?_,fun u aZ=>am u (List.mem_of_mem_drop aZ)⟩;rw[List.getElem?_drop] at aT;rw[Nat.add_assoc];exact B _ _ aT
theorem dn.take {C:bv}{b L:Nat}{cells:List z}(n:Nat)(h:dn C b L cells):dn C b L (cells.take n):=by
 obtain⟨vs,h1,B,am⟩:=pM.1 h;refine pM.2 ⟨vs.take n,h1.take n,fun j u aT=> ?_,fun u aZ=>am u (List.mem_of_mem_take aZ)⟩;rw[List.getElem?_take] at aT;split at aT
 ·exact B _ _ aT
 ·cases aT
theorem dn.append {C:bv}{b L:Nat}{ai ys:List z}(h:dn C b L ai)(k:dn C b (L+ai.length) ys):dn C b L (ai++ys):=by
 obtain⟨vs,h1,B,am⟩:=pM.1 h;obtain⟨af,bI,ca,fc⟩:=pM.1 k;refine pM.2 ⟨vs++af,h1.append bI,fun j u aT=> ?_,fun u aZ=> ?_⟩
 ·rw[List.getElem?_append] at aT;split at aT
  ·exact B _ _ aT
  ·have:=ca _ _ aT;rw[h1.length] at this;rename_i aC;rw[h1.length] at aC;rw[show L+j=L+ai.length+(j-ai.length) from by omega];exact this
 ·rcases List.mem_append.1 aZ with aZ|aZ
  ·exact am u aZ
  ·exact fc u aZ
theorem Ar {C:bv}{b N:Nat}: ∀ {L:Nat} {al:List (List z)},cT C b L N al↔(∀ e∈al,e.length=N)∧dn C b L al.flatten
 |L,[]=>by simp[cT,dn]
 |L,e::al=>by
  rw[cT,Ar];constructor
  ·rintro⟨h1,B,am,bp⟩;refine⟨fun x ad=> ?_,?_⟩
   ·rcases List.mem_cons.1 ad with rfl|ad
    ·exact h1
    ·exact am x ad
   ·rw[List.flatten_cons];exact B.append (by rw[h1];exact bp)
  ·rintro⟨h1,B⟩;have he:=h1 e (by simp);rw[List.flatten_cons] at B;refine⟨he,?_,fun x ad=>h1 x (by simp[ad]),?_⟩
   ·simpa using B.take e.length
   ·simpa[he] using B.drop e.length
theorem cT.nS {C:bv}{b N:Nat}: ∀ {L:Nat} {al:List (List z)} (c:Nat),cT C b L N al→c < al.length→(al.getD c []).length=N∧dn C b (L+c*N) (al.getD c [])
 |L,[],c,_,an=>by simp at an
 |L,e::al,c,h,an=>by
  rw[cT] at h;cases c with
  |zero=>exact⟨h.1,by simpa using h.2.1⟩
  |succ c=>
   have:=cT.nS c h.2.2 (by simpa using an);refine⟨by simpa using this.1,?_⟩;rw[show L+(c+1)*N=L+N+c*N from by rw[Nat.add_mul];omega];simpa using this.2
theorem cT.drop {C:bv}{b N:Nat}: ∀ {L:Nat} {al:List (List z)} (n:Nat),cT C b L N al→cT C b (L+n*N) N (al.drop n)
 |L,al,0,h=>by simpa using h
 |L,[],n+1,h=>by simp[cT]
 |L,e::al,n+1,h=>by
  rw[cT] at h;have:=cT.drop n h.2.2;rw[show L+(n+1)*N=L+N+n*N from by rw[Nat.add_mul];omega];simpa using this
theorem cT.take {C:bv}{b N:Nat}: ∀ {L:Nat} {al:List (List z)} (n:Nat),cT C b L N al→cT C b L N (al.take n)
 |L,al,0,h=>by simp[cT]
 |L,[],n+1,h=>by simp[cT]
 |L,e::al,n+1,h=>by
  rw[cT] at h;show cT C b L N (e::al.take n);rw[cT];exact⟨h.1,h.2.1,cT.take n h.2.2⟩
theorem dn.move {C av:bv}{b L:Nat}{cells:List z}(h:jo C av)(aR: ∀ j,j < cells.length→av.w.cell? ⟨b,L+j,none⟩=C.w.cell? ⟨b,L+j,none⟩)(i:dn C b L cells):dn av b L cells:=by
 obtain⟨vs,h1,B,am⟩:=pM.1 i;refine pM.2 ⟨vs,ay.ext h _ _ h1,fun j u aT=> ?_,am⟩;have hl:j < cells.length:=by
  rw[←h1.length];rcases Nat.lt_or_ge j vs.length with h|h
  ·exact h
  ·rw[List.getElem?_eq_none h] at aT;cases aT
 rw[aR j hl];exact B j u aT
theorem cT.move {C av:bv}{b L N:Nat}{al:List (List z)}(h:jo C av)(aR:av.w.heap[b]? =C.w.heap[b]?)(i:cT C b L N al):cT av b L N al:=by
 obtain⟨h1,B⟩:=Ar.1 i;exact Ar.2 ⟨h1,B.move h fun j _=>World.cell?_of_block (w:=C.w) aR⟩
theorem xY {N:Nat}: ∀ {al:List (List z)},(∀ e∈al,e.length=N)→al.flatten.length=al.length*N
 | [],_=>by simp
 |e::al,h=>by
  simp only[List.flatten_cons,List.length_append,List.length_cons];rw[xY fun x ad=>h x (by simp[ad]),h e (by simp),Nat.add_mul];omega
def cM:z→Bool
 | .agg _| .bg _| .cc=>false
 |_=>true
theorem UO {C:bv}{a:z}{v:Value}(h:Rep C a v)(h1:cM a=true):v.oneCell'=true:=by
 cases a<;>simp[cM] at h1<;>simp only[Rep] at h
 case int=>subst h;rfl
 case bool=>subst h;rfl
 case str=>subst h;rfl
 case bD=>obtain⟨ct,rfl⟩:=h;rfl
 case jW=>subst h;rfl
 case pure=>obtain⟨ct,cap,rfl,_⟩:=h;rfl
 case eb=>obtain⟨b,L,rfl,_⟩:=h;rfl
 case own=>obtain⟨_,⟨ct,F,rfl⟩,_⟩:=h;rfl
 case aW=>obtain⟨_,⟨ct,rfl⟩,_⟩:=h;rfl
 case fn=>obtain⟨vs,rfl,_⟩:=h;rfl
 case bu=>obtain⟨_,⟨b,rfl⟩,_⟩:=h;rfl
 case km=>subst h;rfl
 case fG=>obtain⟨_,⟨a,rfl⟩,_⟩:=h;rfl
theorem uH {C:bv}: ∀ {as:List z} {vs:List Value},ay C as vs→as.all cM=true→iH vs
 | [],vs,h,_=>by rw[ay] at h;subst h;intro v ag;simp at ag
 |a::as,vs,h,h1=>by
  rw[ay] at h;obtain⟨v,bW,rfl,bI,ca⟩:=h;simp only[List.all_cons,Bool.and_eq_true] at h1;intro u aZ;rcases List.mem_cons.1 aZ with rfl|aZ
  ·exact UO bI h1.1
  ·exact uH ca h1.2 u aZ
theorem Cy {C:bv}{a:z}{v:Value}(h:Rep C a v)(h1: (cf a).all cM=true):ay C (cf a) v.cells.toList∧iH v.cells.toList:=by
 have key: ∀ (v:Value),v.oneCell'=true→v.cells.toList= [v]:=by
  intro v ag;cases v<;>first|rfl|simp[Value.oneCell'] at ag
 by_cases aw: ∃ aj,a= .agg aj
 ·obtain⟨aj,rfl⟩:=aw;rw[Rep] at h;obtain⟨vs,rfl,G⟩:=h;exact⟨G,uH G h1⟩
 ·have V:cf a= [a]:=by
   cases a<;>first|rfl| (exfalso;exact aw ⟨_,rfl⟩)
  rw[V] at h1 ⊢;have B:cM a=true:=by simpa using h1
  have am:=UO h B;rw[key v am];refine⟨?_,fun u aZ=>by simp at aZ;subst aZ;exact am⟩;rw[ay];exact⟨v,[],rfl,h,by rw[ay]⟩
end Go.Abs
namespace Go.Abs
variable [Dr]
theorem dA.move {C av:bv}{i:Nat}{bz:R}(h:jo C av)(bi:av.bS=C.bS)(ae:av.bm[i]? =C.bm[i]?)
 (aR: ∀ b F,C.bm[i]? =some (some (b,F))→av.w.heap[b]? =C.w.heap[b]?) (k:dA C i bz):dA av i bz:=by
 cases bz with
 |fH=>rw[dA] at k ⊢;rw[ae];exact k
 |aa e N ah=>
  rw[dA] at k ⊢;obtain⟨p,h1,B⟩:=k;refine⟨p,ae.trans h1,?_⟩;cases p with
  |none=>exact B
  |some q=>
   obtain⟨b,cap⟩:=q;obtain⟨bI,aj,ca,fc,hi,jr,js⟩:=B;have:=aR b cap h1;exact⟨by rw[bi];exact bI,aj,by rw[this];exact ca,fc,hi,jr,js.move h this⟩
 |aY L=>
  cases L with
  |map aE M ents=>
   rw[dA] at k ⊢;obtain⟨b,F,al,h1,B,am,bp,cn,dj,mM⟩:=k;exact⟨b,F,al,ae.trans h1,by rw[bi];exact B,by rw[aR b F h1];exact am,bp,ay.ext h _ _ cn,ay.ext h _ _ dj,mM⟩
  |dY n bR=>
   rw[dA] at k ⊢;obtain⟨b,jn,h1,B,am⟩:=k;exact⟨b,jn,ae.trans h1,by rw[bi];exact B,by rw[aR b jn h1];exact am⟩
theorem cb.lt {C:bv}(h:cb C){i b F:Nat}(ae:C.bm[i]? =some (some (b,F))):b < C.w.heap.size:=by
 have G:i < C.d.length:=by
  rw[←h.dm];rcases Nat.lt_or_ge i C.bm.length with h|h
  ·exact h
  ·rw[List.getElem?_eq_none h] at ae;cases ae
 have:=h.d i _ (List.getElem?_eq_getElem G);cases hrow:C.d[i] with
 |fH=>rw[hrow,dA,ae] at this;cases this
 |aa e N ah=>
  rw[hrow,dA,ae] at this;obtain⟨p,hC,B⟩:=this;cases hC;obtain⟨_,aj,ca,_⟩:=B;exact (Array.getElem?_eq_some_iff.1 ca).1
 |aY L=>
  cases L with
  |map aE M ents=>
   rw[hrow,dA,ae] at this;obtain⟨eu,dH,al,h1,_,am,_⟩:=this;simp at h1;obtain⟨rfl,rfl⟩:=h1;exact (Array.getElem?_eq_some_iff.1 am).1
  |dY n bR=>
   rw[hrow,dA,ae] at this;obtain⟨eu,dH,h1,_,am⟩:=this;simp at h1;obtain⟨rfl,rfl⟩:=h1;exact (Array.getElem?_eq_some_iff.1 am).1
theorem cb.aa {C:bv}(h:cb C){i:Nat}{e:TypeId}{N:Nat}{ah:List (List z)}(G:C.d[i]? =some (.aa e N ah)):
 (C.bm[i]? =some none∧ah= [])∨ ∃ b cap aj,C.bm[i]? =some (some (b,cap))∧ ¬C.bS b∧C.w.heap[b]? =some (.cells aj e (0,0))∧aj.size=cap*N∧cap≤maxLen∧ah.length≤cap∧cT C b 0 N ah:=by
 have:=h.d i _ G;rw[dA] at this;obtain⟨p,h1,B⟩:=this;cases p with
 |none=>exact .inl ⟨h1,B⟩
 |some q=>
  obtain⟨b,cap⟩:=q;obtain⟨bI,aj,ca⟩:=B;exact .inr ⟨b,cap,aj,h1,bI,ca⟩
structure fj (C:bv) (N:Nat) (ah:List (List z)) (vs:List Value):Prop where
 iW: ∀ e∈ah,e.length=N
 ks:ay C ah.flatten vs
 cM:iH vs
theorem fj.length {C:bv}{N:Nat}{ah:List (List z)}{vs:List Value}(h:fj C N ah vs):vs.length=ah.length*N:=by
 rw[h.ks.length,xY h.iW]
theorem fj.ext {C av:bv}{N:Nat}{ah:List (List z)}{vs:List Value}(h:fj C N ah vs)(k:jo C av):fj av N ah vs:=
 ⟨h.iW,ay.ext k _ _ h.ks,h.cM⟩
theorem fj.wu {C:bv}{N b L:Nat}{ah:List (List z)}{vs:List Value}(h:fj C N ah vs)(V:Cx C.w b L vs):cT C b L N ah:=
 Ar.2 ⟨h.iW,pM.2 ⟨vs,h.ks,V,h.cM⟩⟩
theorem cT.sm {C:bv}{N b L:Nat}{ah:List (List z)}(h:cT C b L N ah): ∃ vs,fj C N ah vs∧Cx C.w b L vs:=by
 obtain⟨h1,B⟩:=Ar.1 h;obtain⟨vs,bI,ca,fc⟩:=pM.1 B;exact⟨vs,⟨h1,bI,fc⟩,ca⟩
theorem fj.nil (C:bv)(N:Nat):fj C N [] []:=⟨by simp,by simp[ay],by intro v ag;simp at ag⟩
theorem fj.append {C:bv}{N:Nat}{ai ys:List (List z)}{vs af:List Value}(h:fj C N ai vs)(k:fj C N ys af):fj C N (ai++ys) (vs++af):=by
 refine⟨fun e he=> ?_,by rw[List.flatten_append];exact h.ks.append k.ks,fun v ag=> ?_⟩
 ·rcases List.mem_append.1 he with he|he
  ·exact h.iW e he
  ·exact k.iW e he
 ·rcases List.mem_append.1 ag with ag|ag
  ·exact h.cM v ag
  ·exact k.cM v ag
theorem Jy {w:World}{b:Nat}{aj:Array Value}{e:TypeId}{vs:List Value}(ao:w.heap[b]? =some (.cells aj e (0,0)))(h:aj.toList.take vs.length=vs):Cx w b 0 vs:=by
 intro j u aT;rw[Nat.zero_add,cell_of_row w b j aj e (0,0) ao];rw[←h,List.getElem?_take] at aT;split at aT
 ·simpa using aT
 ·cases aT
theorem Fd {w:World}{b:Nat}{aj:Array Value}{e:TypeId}{vs:List Value}(ao:w.heap[b]? =some (.cells aj e (0,0)))(h:Cx w b 0 vs):aj.toList.take vs.length=vs:=by
 refine List.ext_getElem? fun j=> ?_;rw[List.getElem?_take];split
 ·rename_i aT;obtain⟨u,aZ⟩: ∃ u,vs[j]? =some u:=⟨_,List.getElem?_eq_getElem aT⟩;have:=h j u aZ;rw[Nat.zero_add,cell_of_row w b j aj e (0,0) ao] at this;rw[aZ];simpa using this
 ·rename_i aT;rw[List.getElem?_eq_none (by omega)]
theorem Ab {C:bv}(h:cb C)(e:TypeId)(N cap:Nat)(aj:Array Value)(ah:List (List z))(vs:List Value)(w':World)
 (aR:w'.os=C.w.os∧w'.tape=C.w.tape∧w'.output=C.w.output∧w'.heap=C.w.heap.push (.cells aj e (0,0)))
 (ak:aj.size=cap*N) (hm:cap≤maxLen) (ag:ah.length≤cap) (he:fj C N ah vs) (ht:aj.toList.take vs.length=vs) (aq:C.w.drawn≤w'.drawn:=by first|exact Nat.le_refl _|exact Nat.le_succ _|exact mI (by assumption)|assumption):
 cb ⟨C.d++ [.aa e N ah],C.bm++ [some (C.w.heap.size,cap)],C.bS,w',C.bT⟩∧
 cd C.d.length C ⟨C.d++ [.aa e N ah],C.bm++ [some (C.w.heap.size,cap)],C.bS,w',C.bT⟩:=by
 obtain⟨jt,ju,oV,mQ⟩:=aR;have mf: ∀ b,b < C.w.heap.size→w'.heap[b]? =C.w.heap[b]? :=fun b Z=>by rw[mQ,Array.getElem?_push,if_neg (by omega)]
 have gb:w'.heap[C.w.heap.size]? =some (.cells aj e (0,0)):=by rw[mQ];simp
 have later:cd C.d.length C ⟨C.d++ [.aa e N ah],C.bm++ [some (C.w.heap.size,cap)],C.bS,w',C.bT⟩:=by
  refine⟨jt,ju,oV,by simp[mQ],fun b Z _=>mf b Z,fun i b F G=> ?_,rfl,rfl,by simp,fun i cA bt dl G db=> ?_,fun i eN G db=> ?_,fun _=>aq⟩
  ·simp only[List.getElem?_append] at G;split at G
   ·exact .inl ⟨i,F,G⟩
   ·right
    rename_i aC;cases I:i-C.bm.length with
    |zero=>rw[I] at G;simp at G;omega
    |succ k=>rw[I] at G;simp at G
  ·simp only[List.getElem?_append,G,if_true] at db;refine⟨dl,db,Nat.le_refl _,fun _=> ?_⟩;simp only[List.getElem?_append];rw[if_pos (by rw[h.dm];exact G)]
  ·simp only[List.getElem?_append,G,if_true] at db;refine⟨eN,db,?_⟩;simp only[List.getElem?_append];rw[if_pos (by rw[h.dm];exact G)]
 have mO:=later.ext;refine⟨⟨h.bT,by simp[h.dm],fun i bz G=> ?_,fun i cy b F dH h1 B=> ?_,fun b Z=>Nat.lt_of_lt_of_le (h.bS b Z) later.size⟩,later⟩
 ·simp only[List.getElem?_append] at G;split at G
  ·rename_i aC;refine dA.move mO rfl ?_ (fun b F Z=>mf b (h.lt Z)) (h.d i bz G);simp only[List.getElem?_append];rw[if_pos (by rw[h.dm];exact aC)]
  ·rename_i aC;have I:i=C.d.length:=by
    cases I:i-C.d.length with
    |zero=>omega
    |succ k=>rw[I] at G;simp at G
   subst I;simp at G;subst G;rw[dA];refine⟨some (C.w.heap.size,cap),?_,fun bi=> ?_,aj,gb,ak,hm,ag,(he.ext mO).wu (Jy gb ht)⟩
   ·simp[h.dm.symm]
   ·have:=h.bS _ bi;omega
 ·simp only[List.getElem?_append] at h1 B;have last: ∀ {i:Nat} {b F:Nat},¬i < C.bm.length→ [some (C.w.heap.size,cap)][i-C.bm.length]? =some (some (b,F))→i=C.bm.length∧b=C.w.heap.size:=by
   intro i b F G hh;cases I:i-C.bm.length with
   |zero=>rw[I] at hh;simp at hh;exact⟨by omega,hh.1.symm⟩
   |succ k=>rw[I] at hh;simp at hh
  split at h1<;>split at B
  ·exact h.inj i cy b F dH h1 B
  ·rename_i ch;obtain⟨_,Z⟩:=last ch B;have:=h.lt h1;omega
  ·rename_i G _;obtain⟨_,Z⟩:=last G h1;have:=h.lt B;omega
  ·rename_i G ch;rw[(last G h1).1,(last ch B).1]
theorem aiW {C:bv}(h:cb C)(L:Obj):cb ⟨C.d,C.bm,C.bS,C.w.alloc L,C.bT⟩∧cd C.d.length C ⟨C.d,C.bm,C.bS,C.w.alloc L,C.bT⟩:=by
 have mf: ∀ b,b < C.w.heap.size→(C.w.alloc L).heap[b]? =C.w.heap[b]? :=fun b Z=>heap_alloc_old C.w L Z;have later:cd C.d.length C ⟨C.d,C.bm,C.bS,C.w.alloc L,C.bT⟩:=
  ⟨rfl,rfl,rfl,by simp,fun b Z _=>mf b Z,fun i _ F h=> .inl ⟨i,F,h⟩,rfl,rfl,Nat.le_refl _,fun _ _ _ ah _ h=>⟨ah,h,Nat.le_refl _,fun _=>rfl⟩,fun _ L _ h=>⟨L,h,rfl⟩,fun _=>Nat.le_refl _⟩
 refine⟨⟨h.bT,h.dm,fun i bz G=> ?_,h.inj,fun b Z=>Nat.lt_of_lt_of_le (h.bS b Z) later.size⟩,later⟩;exact dA.move later.ext rfl rfl (fun b F Z=>mf b (h.lt Z)) (h.d i bz G)
theorem Ft {C:bv}(h:cb C)(e:TypeId)(N:Nat):
 cb ⟨C.d++ [.aa e N []],C.bm++ [none],C.bS,C.w,C.bT⟩∧cd C.d.length C ⟨C.d++ [.aa e N []],C.bm++ [none],C.bS,C.w,C.bT⟩:=by
 have pG: ∀ {i:Nat} {q:Nat×Nat},(C.bm++ [none])[i]? =some (some q)→C.bm[i]? =some (some q):=by
  intro i q G;simp only[List.getElem?_append] at G;split at G
  ·exact G
  ·cases I:i-C.bm.length with
   |zero=>rw[I] at G;simp at G
   |succ k=>rw[I] at G;simp at G
 have later:cd C.d.length C ⟨C.d++ [.aa e N []],C.bm++ [none],C.bS,C.w,C.bT⟩:=by
  refine⟨rfl,rfl,rfl,Nat.le_refl _,fun b Z _=>rfl,fun i b F G=> .inl ⟨i,F,pG G⟩,rfl,rfl,by simp,fun i cA bt dl G db=> ?_,fun i eN G db=> ?_,fun _=>Nat.le_refl _⟩
  ·simp only[List.getElem?_append,G,if_true] at db;refine⟨dl,db,Nat.le_refl _,fun _=> ?_⟩;simp only[List.getElem?_append];rw[if_pos (by rw[h.dm];exact G)]
  ·simp only[List.getElem?_append,G,if_true] at db;refine⟨eN,db,?_⟩;simp only[List.getElem?_append];rw[if_pos (by rw[h.dm];exact G)]
 refine⟨⟨h.bT,by simp[h.dm],fun i bz G=> ?_,fun i cy b F dH h1 B=>h.inj i cy b F dH (pG h1) (pG B),h.bS⟩,later⟩;simp only[List.getElem?_append] at G;split at G
 ·rename_i aC;refine dA.move later.ext rfl ?_ (fun b F Z=>rfl) (h.d i bz G);simp only[List.getElem?_append];rw[if_pos (by rw[h.dm];exact aC)]
 ·rename_i aC;have I:i=C.d.length:=by
   cases I:i-C.d.length with
   |zero=>omega
   |succ k=>rw[I] at G;simp at G
  subst I;simp at G;subst G;rw[dA];exact⟨none,by simp[h.dm.symm],rfl⟩
theorem ya {C:bv}(h:cb C){i:Nat}{e:TypeId}{N:Nat}{ah:List (List z)}(G:C.d[i]? =some (.aa e N ah))
 {p:Option (Nat×Nat)} (ae:C.bm[i]? =some p) (eu gQ:Nat) (fX:Array Value) (dl:List (List z)) (Cc:List Value) (w':World)
 (ao:C.w.grownBy w' (p.map (·.1))) (Z:p.map (·.1)=some eu∨C.w.heap.size≤eu) (hh:w'.heap[eu]? =some (.cells fX e (0,0)))
 (ak:fX.size=gQ*N) (hm:gQ≤maxLen) (ag:dl.length≤gQ) (he:fj C N dl Cc) (ht:fX.toList.take Cc.length=Cc)
 (apm:ah.length≤dl.length) (AL:ah.length=dl.length→p=some (eu,gQ)) (aq:C.w.drawn≤w'.drawn:=by first|exact Nat.le_refl _|exact Nat.le_succ _|exact mI (by assumption)|assumption):
 cb ⟨C.d.set i (.aa e N dl),C.bm.set i (some (eu,gQ)),C.bS,w',C.bT⟩∧
 cd C.d.length C ⟨C.d.set i (.aa e N dl),C.bm.set i (some (eu,gQ)),C.bS,w',C.bT⟩:=by
 have fo:i < C.d.length:=(List.getElem?_eq_some_iff.1 G).1;have Ap:i < C.bm.length:=by rw[h.dm];exact fo
 have bT: ∀ {b:Nat},p.map (·.1)=some b→ ∃ F,C.bm[i]? =some (some (b,F)):=by
  intro b Z;cases p with
  |none=>simp at Z
  |some q=>obtain⟨x,y⟩:=q;simp at Z;subst Z;exact⟨y,ae⟩
 have oM: ∀ {cy:Nat},cy≠i→(C.bm.set i (some (eu,gQ)))[cy]? =C.bm[cy]? :=fun hne=>by rw[List.getElem?_set,if_neg (fun e=>hne e.symm)]
 have Aq: (C.bm.set i (some (eu,gQ)))[i]? =some (some (eu,gQ)):=by rw[List.getElem?_set,if_pos rfl,if_pos Ap]
 have later:cd C.d.length C ⟨C.d.set i (.aa e N dl),C.bm.set i (some (eu,gQ)),C.bS,w',C.bT⟩:=by
  refine⟨ao.os,ao.tape,ao.output,ao.size,fun b jH bi=>ao.block b jH fun lB=> ?_,fun cy b F ch=> ?_,rfl,rfl,by simp,fun cy cA bt ma ch db=> ?_,fun cy eN ch db=> ?_,fun _=>aq⟩
  ·obtain⟨F,V⟩:=bT lB.symm;exact bi i F V
  ·by_cases hne:cy=i
   ·subst hne;rw[Aq] at ch;simp at ch;obtain⟨rfl,rfl⟩:=ch;rcases Z with Z|Z
    ·obtain⟨F,V⟩:=bT Z;exact .inl ⟨cy,F,V⟩
    ·exact .inr Z
   ·rw[oM hne] at ch;exact .inl ⟨cy,F,ch⟩
  ·by_cases hne:cy=i
   ·subst hne;simp only[List.getElem?_set,if_true,fo] at db;simp at db;obtain⟨rfl,rfl,rfl⟩:=db;exact⟨ah,G,apm,fun lB=>by rw[ae,AL lB];exact Aq⟩
   ·simp only[List.getElem?_set] at db;rw[if_neg (fun e=>hne e.symm)] at db;exact⟨ma,db,Nat.le_refl _,fun _=>oM hne⟩
  ·by_cases hne:cy=i
   ·subst hne;simp only[List.getElem?_set,if_true,fo] at db;simp at db
   ·simp only[List.getElem?_set] at db;rw[if_neg (fun e=>hne e.symm)] at db;exact⟨eN,db,oM hne⟩
 refine⟨⟨h.bT,by simp[h.dm],fun cy bz ch=> ?_,fun r1 cO b F dH h1 B=> ?_,fun b Z=>Nat.lt_of_lt_of_le (h.bS b Z) later.size⟩,later⟩
 ·by_cases hne:cy=i
  ·subst hne;simp only[List.getElem?_set,if_true,fo] at ch;simp at ch;subst ch;rw[dA];refine⟨some (eu,gQ),Aq,fun bi=> ?_,fX,hh,ak,hm,ag,(he.ext later.ext).wu (Jy hh ht)⟩;rcases Z with Z|Z
   ·obtain⟨F,V⟩:=bT Z;rcases h.aa G with ⟨hl,_⟩|⟨eA,aH1,aH2,hl,bI,_⟩
    ·rw[V] at hl;simp at hl
    ·rw[V] at hl;simp at hl;obtain⟨rfl,rfl⟩:=hl;exact bI bi
   ·have:=h.bS _ bi;omega
  ·simp only[List.getElem?_set] at ch;rw[if_neg (fun e=>hne e.symm)] at ch;refine dA.move later.ext rfl (oM hne) (fun b F jH=>ao.block b (h.lt jH) fun lB=> ?_) (h.d cy bz ch);obtain⟨dH,ky⟩:=bT lB.symm;exact hne (h.inj _ _ _ _ _ jH ky)
 ·have key: ∀ {r1 cO b F dH:Nat},r1≠i→cO=i→(C.bm.set i (some (eu,gQ)))[r1]? =some (some (b,F))→(C.bm.set i (some (eu,gQ)))[cO]? =some (some (b,dH))→False:=by
   intro r1 cO b F dH aB he h1 B;subst he;rw[Aq] at B;rw[oM aB] at h1;simp at B;obtain⟨rfl,rfl⟩:=B;rcases Z with Z|Z
   ·obtain⟨c2,Vx⟩:=bT Z;exact aB (h.inj _ _ _ _ _ h1 Vx)
   ·have:=h.lt h1;omega
  by_cases bF:r1=i<;>by_cases bJ:cO=i
  ·rw[bF,bJ]
  ·exact (key bJ bF B h1).elim
  ·exact (key bF bJ h1 B).elim
  ·refine h.inj r1 cO b F dH ?_ ?_
   ·simpa[oM bF] using h1
   ·simpa[oM bJ] using B
theorem T3 {C:bv}(h:cb C)(L:xS)(apn:Obj)(F:Nat)(w':World)
 (aR:w'.os=C.w.os∧w'.tape=C.w.tape∧w'.output=C.w.output∧w'.heap=C.w.heap.push apn)
 (cU: ∀ av:bv,jo C av→av.bS=C.bS→av.w=w'→av.bm[C.d.length]? =some (some (C.w.heap.size,F))→dA av C.d.length (.aY L)) (aq:C.w.drawn≤w'.drawn:=by first|exact Nat.le_refl _|exact Nat.le_succ _|exact mI (by assumption)|assumption):
 cb ⟨C.d++ [.aY L],C.bm++ [some (C.w.heap.size,F)],C.bS,w',C.bT⟩∧
 cd C.d.length C ⟨C.d++ [.aY L],C.bm++ [some (C.w.heap.size,F)],C.bS,w',C.bT⟩:=by
 obtain⟨jt,ju,oV,mQ⟩:=aR;have mf: ∀ b,b < C.w.heap.size→w'.heap[b]? =C.w.heap[b]? :=fun b Z=>by rw[mQ,Array.getElem?_push,if_neg (by omega)]
 have later:cd C.d.length C ⟨C.d++ [.aY L],C.bm++ [some (C.w.heap.size,F)],C.bS,w',C.bT⟩:=by
  refine⟨jt,ju,oV,by simp[mQ],fun b Z _=>mf b Z,fun i b F G=> ?_,rfl,rfl,by simp,fun i cA bt dl G db=> ?_,fun i eN G db=> ?_,fun _=>aq⟩
  ·simp only[List.getElem?_append] at G;split at G
   ·exact .inl ⟨i,F,G⟩
   ·right
    rename_i aC;cases I:i-C.bm.length with
    |zero=>rw[I] at G;simp at G;omega
    |succ k=>rw[I] at G;simp at G
  ·simp only[List.getElem?_append,G,if_true] at db;refine⟨dl,db,Nat.le_refl _,fun _=> ?_⟩;simp only[List.getElem?_append];rw[if_pos (by rw[h.dm];exact G)]
  ·simp only[List.getElem?_append,G,if_true] at db;refine⟨eN,db,?_⟩;simp only[List.getElem?_append];rw[if_pos (by rw[h.dm];exact G)]
 have mO:=later.ext;refine⟨⟨h.bT,by simp[h.dm],fun i bz G=> ?_,fun i cy b c1 dH h1 B=> ?_,fun b Z=>Nat.lt_of_lt_of_le (h.bS b Z) later.size⟩,later⟩
 ·simp only[List.getElem?_append] at G;split at G
  ·rename_i aC;refine dA.move mO rfl ?_ (fun b F Z=>mf b (h.lt Z)) (h.d i bz G);simp only[List.getElem?_append];rw[if_pos (by rw[h.dm];exact aC)]
  ·rename_i aC;have I:i=C.d.length:=by
    cases I:i-C.d.length with
    |zero=>omega
    |succ k=>rw[I] at G;simp at G
   subst I;simp at G;subst G;exact cU _ mO rfl rfl (by simp[h.dm.symm])
 ·simp only[List.getElem?_append] at h1 B;have last: ∀ {i:Nat} {b o:Nat},¬i < C.bm.length→ [some (C.w.heap.size,F)][i-C.bm.length]? =some (some (b,o))→i=C.bm.length∧b=C.w.heap.size:=by
   intro i b o G hh;cases I:i-C.bm.length with
   |zero=>rw[I] at hh;simp at hh;exact⟨by omega,hh.1.symm⟩
   |succ k=>rw[I] at hh;simp at hh
  split at h1<;>split at B
  ·exact h.inj i cy b _ dH h1 B
  ·rename_i ch;obtain⟨_,Z⟩:=last ch B;have:=h.lt h1;omega
  ·rename_i G _;obtain⟨_,Z⟩:=last G h1;have:=h.lt B;omega
  ·rename_i G ch;rw[(last G h1).1,(last ch B).1]
theorem IE {C:bv}(h:cb C){i:Nat}{L:xS}(G:C.d[i]? =some (.aY L)){b F:Nat}(ae:C.bm[i]? =some (some (b,F)))(eN:xS)(w':World)(ao:C.w.grownBy w' (some b))
 (cU: ∀ av:bv,jo C av→av.bS=C.bS→av.w=w'→av.bm[i]? =some (some (b,F))→dA av i (.aY eN)) (aq:C.w.drawn≤w'.drawn:=by first|exact Nat.le_refl _|exact Nat.le_succ _|exact mI (by assumption)|assumption):
 cb ⟨C.d.set i (.aY eN),C.bm,C.bS,w',C.bT⟩∧cd C.d.length C ⟨C.d.set i (.aY eN),C.bm,C.bS,w',C.bT⟩:=by
 have fo:i < C.d.length:=(List.getElem?_eq_some_iff.1 G).1;have later:cd C.d.length C ⟨C.d.set i (.aY eN),C.bm,C.bS,w',C.bT⟩:=by
  refine⟨ao.os,ao.tape,ao.output,ao.size,fun eu jH bi=>ao.block eu jH fun lB=> ?_,fun cy b F ch=> .inl ⟨cy,F,ch⟩,rfl,rfl,by simp,fun cy cA bt ma ch db=> ?_,fun cy kJ ch db=> ?_,fun _=>aq⟩
  ·simp at lB;subst lB;exact bi i F ae
  ·by_cases hne:cy=i
   ·subst hne;simp only[List.getElem?_set,if_true,fo] at db;simp at db
   ·simp only[List.getElem?_set] at db;rw[if_neg (fun e=>hne e.symm)] at db;exact⟨ma,db,Nat.le_refl _,fun _=>rfl⟩
  ·by_cases hne:cy=i
   ·subst hne;exact⟨L,G,rfl⟩
   ·simp only[List.getElem?_set] at db;rw[if_neg (fun e=>hne e.symm)] at db;exact⟨kJ,db,rfl⟩
 refine⟨⟨h.bT,by simp[h.dm],fun cy bz ch=> ?_,h.inj,fun b Z=>Nat.lt_of_lt_of_le (h.bS b Z) later.size⟩,later⟩
 by_cases hne:cy=i
 ·subst hne;simp only[List.getElem?_set,if_true,fo] at ch;simp at ch;subst ch;exact cU _ later.ext rfl rfl ae
 ·simp only[List.getElem?_set] at ch;rw[if_neg (fun e=>hne e.symm)] at ch;refine dA.move later.ext rfl rfl (fun eu dH jH=>ao.block eu (h.lt jH) fun lB=> ?_) (h.d cy bz ch);simp at lB;subst lB;exact hne (h.inj _ _ _ _ _ jH ae)
end Go.Abs
namespace Go.Abs
mutual
def bE:z→Bool
 | .own .. | .aW .. =>false
 | .bu _| .fG .. =>false
 | .agg aj=>bP aj
 | .bg aj=>bP aj
 | .fn _ aj=>bP aj
 |_=>true
def bP:List z→Bool
 | []=>true
 |F::aj=>bE F&&bP aj
end
def eg:List (List z)→Bool
 | []=>true
 |e::al=>bP e&&eg al
mutual
theorem Rep.pH {C:bv}: ∀ (a:z) (v:Value),bE a=true→Rep C a v→Rep C.p a v
 | .int ..,_,_,i=>by simpa[Rep] using i
 | .bool ..,_,_,i=>by simpa[Rep] using i
 | .str ..,_,_,i=>by simpa[Rep] using i
 | .bD,_,_,i=>by simpa[Rep] using i
 | .jW,_,_,i=>by simpa[Rep] using i
 | .cc,_,_,_=>by simp[Rep]
 | .agg aj,v,h,i=>by
  rw[bE] at h;rw[Rep] at i ⊢;obtain⟨vs,rfl,G⟩:=i;exact⟨vs,rfl,ay.pH aj _ h G⟩
 | .bg aj,v,h,i=>by
  rw[bE] at h;rw[Rep] at i ⊢;obtain⟨vs,rfl,G⟩:=i;exact⟨vs,rfl,ay.pH aj _ h G⟩
 | .pure N ah,v,_,i=>by rw[Rep] at i ⊢;exact i
 | .own ..,v,h,_=>by simp[bE] at h
 | .aW ..,v,h,_=>by simp[bE] at h
 | .eb cells off,v,_,G=>by rw[Rep] at G ⊢;exact G
 | .fn f aj,v,h,i=>by
  rw[bE] at h;rw[Rep] at i ⊢;obtain⟨vs,rfl,G⟩:=i;exact⟨vs,rfl,ay.pH aj _ h G⟩
 | .km,_,_,i=>by simpa[Rep] using i
 | .bu _,v,h,_=>by simp[bE] at h
 | .fG ..,v,h,_=>by simp[bE] at h
theorem ay.pH {C:bv}: ∀ (as:List z) (vs:List Value),bP as=true→ay C as vs→ay C.p as vs
 | [],vs,_,i=>by simpa[ay] using i
 |a::as,vs,h,i=>by
  simp only[bP,Bool.and_eq_true] at h;rw[ay] at i ⊢;obtain⟨v,bW,rfl,h1,B⟩:=i;exact⟨v,bW,rfl,Rep.pH a v h.1 h1,ay.pH as bW h.2 B⟩
end
theorem dn.pH {C:bv}(b:Nat): ∀ (L:Nat) (as:List z),bP as=true→dn C b L as→dn C.p b L as
 |L,[],_,_=>by simp[dn]
 |L,a::as,h,i=>by
  simp only[bP,Bool.and_eq_true] at h;rw[dn] at i ⊢;obtain⟨⟨v,h1,B,am⟩,bp⟩:=i;exact⟨⟨v,h1,B,Rep.pH a v h.1 am⟩,dn.pH b (L+1) as h.2 bp⟩
theorem cT.pH {C:bv}(b N:Nat): ∀ (L:Nat) (al:List (List z)),eg al=true→cT C b L N al→cT C.p b L N al
 |L,[],_,_=>by simp[cT]
 |L,e::al,h,i=>by
  simp only[eg,Bool.and_eq_true] at h;rw[cT] at i ⊢;exact⟨i.1,dn.pH b L e h.1 i.2.1,cT.pH b N (L+N) al h.2 i.2.2⟩
inductive fV where
 |pK
 |pick
 |alloc (e:TypeId) (zero:List z)
 |box (e:TypeId) (N:Nat)
 |build (zero:List z) (rm:List (Nat×Nat))
 |rx (e:TypeId) (N:Nat) (zero:List z) (len:Nat) (ja:List Nat)
 |CE
 |ym (e:TypeId) (N bytes:Nat) (zero:List z)
 |oS
 |oT (N:Nat)
 |store (N:Nat)
 |sy
 |jc (op:BinOp)
 |qA (neg:Bool) (M:List cN)
 |Fh (neg:Bool)
 |not
 |neg
 |conv (k:IntKind)
 |fieldAddr (off:Nat)
 |O1 (off:Nat)
 |O2 (off N:Nat)
 |indexAddr (N:Nat)
 |index
 |slice (fk an:Bool) (N:Nat)
 |wN (fk an:Bool)
 |len
 |CF
 |append (e:TypeId) (N bytes:Nat)
 |extract (c:Nat)
 |yu (max:Bool)
 |I8
 |kc
 |copy (N:Nat)
 |uZ (len N:Nat)
 |O3 (len:Nat)
 |O4 (len N:Nat)
 |O5 (f:FuncId)
 |yn (aE:Bool) (M:List cN)
 |ib (ok aE:Bool) (M:List cN) (zero:z)
 |oR (aE:Bool) (M:List cN)
 |oa (aE:Bool) (M:List cN) (zero:z)
 |rv
 |I9
 |dY
 |next
 |entry
 |cap
 |yl (N:Nat) (neg:Bool)
 |AD (e:TypeId) (N bytes:Nat) (zero:List z)
 |clear (N:Nat) (zero:List z)
 |wx
 |call (f:FuncId)
 deriving Inhabited
section
variable (d:List R)
def jb (d:List R)(N:Nat):z→Option (List (List z))
 | .pure bt ah=>if bt=N then some ah else none
 | .bD=>some []
 | .own i n off len=>
  match d[i]? with
  |some (.aa _ bt ah)=>if bt=N∧n=ah.length∧off+len≤n then some ((ah.drop off).take len) else none
  |_=>none
 |_=>none
def yb:List (List z)→Option (List Int)
 | []=>some []
 | [.int .u8 n]::al=>
  match yb al with
  |some hk=>some (n::hk)
  |none=>none
 |_::_=>none
def strOf (hk:List Int):ByteArray:=hk.foldl (fun i n=>i.push (UInt8.ofNat n.toNat)) ByteArray.empty
def yc (x:z)(K:z→Prop):Prop:=
 match jb d 1 x with
 |none=>False
 |some ys=>
  match yb ys with
  |some hk=>K (.str (strOf hk))
  |none=>False
def yd (x:z)(K:z→List R→Prop):Prop:=
 match x with
 | .own i n off len=>
  match d[i]? with
  |some (.aa _ N ah)=>n=ah.length∧off=0∧len=n∧0 < n∧eg ah=true∧K (.pure N ah) (d.set i .fH)
  |_=>False
 |_=>False
def sk:z→Option Nat
 | .pure _ ah=>some ah.length
 | .bD=>some 0
 | .own _ _ _ len=>some len
 |_=>none
def me (op:BinOp)(x y:z)(K:z→Prop):Prop:=
 match x,y with
 | .int k a,.int bo b=>
  match op with
  | .shl=>0≤b∧K (.int k (k.wrap (a*2^(min b.toNat k.bits))))
  | .shr=>0≤b∧K (.int k (a.fdiv (2^(min b.toNat k.bits))))
  | .add=>k=bo∧K (.int k (k.wrap (a+b)))
  | .sub=>k=bo∧K (.int k (k.wrap (a-b)))
  | .mul=>k=bo∧K (.int k (k.wrap (a*b)))
  | .quo=>k=bo∧b≠0∧K (.int k (k.wrap (a.tdiv b)))
  | .rem=>k=bo∧b≠0∧K (.int k (a.tmod b))
  | .and=>k=bo∧K (.int k (k.wrap (BitVec.ofInt k.bits a&&& BitVec.ofInt k.bits b).toNat))
  | .or=>k=bo∧K (.int k (k.wrap (BitVec.ofInt k.bits a|||BitVec.ofInt k.bits b).toNat))
  | .xor=>k=bo∧K (.int k (k.wrap (BitVec.ofInt k.bits a ^^^ BitVec.ofInt k.bits b).toNat))
  | .eql=>k=bo∧K (.bool (a==b))
  | .neq=>k=bo∧K (.bool (a != b))
  | .lss=>k=bo∧K (.bool (a < b))
  | .leq=>k=bo∧K (.bool (a≤b))
  | .gtr=>k=bo∧K (.bool (a>b))
  | .geq=>k=bo∧K (.bool (a≥b))
  |_=>False
 | .str a,.str b=>
  match op with
  | .eql=>K (.bool (a.toList==b.toList))
  | .neq=>K (.bool !(a.toList==b.toList))
  | .lss=>K (.bool (Op.bytesLess a.toList b.toList))
  | .leq=>K (.bool (Op.bytesLess a.toList b.toList||a.toList==b.toList))
  | .gtr=>K (.bool !(Op.bytesLess a.toList b.toList||a.toList==b.toList))
  | .geq=>K (.bool !(Op.bytesLess a.toList b.toList))
  | .add=>((a.size+b.size:Nat):Int)≤IntKind.i64.max∧K (.str (a++b))
  |_=>False
 |_,_=>False
def dU:List z→List z→Bool
 | .int _ a::aj,.int _ b::ds=>a==b&&dU aj ds
 | .bool a::aj,.bool b::ds=>a==b&&dU aj ds
 | .str a::aj,.str b::ds=>a.toList==b.toList&&dU aj ds
 |_,_=>true
def eO (l:List z)(off:Nat)(aj:List z):List z:=l.take off++aj++l.drop (off+aj.length)
def nX:List z→List (Nat×Nat)→List z→Option (List z)
 |cells,(off,N)::O,v::vs=>if (cf v).length=N∧off+N≤cells.length then nX (eO cells off (cf v)) O vs else none
 |cells,[],[]=>some cells
 |_,_,_=>none
def ob:List (List z)→Nat→List Nat→List z→Option (List (List z))
 |al,N,c::is,v::vs=>if (cf v).length=N∧c < al.length then ob (al.set c (cf v)) N is vs else none
 |al,_,[],[]=>some al
 |_,_,_,_=>none
def pL (x:z)(K:z→Prop):Prop:=
 match x with
 | .aW i n c off=>
  match d[i]? with
  |some (.aa _ N ah)=>n=ah.length∧off < N∧K ((ah.getD c []).getD off .cc)
  |_=>False
 | .eb cells off=>off < cells.length∧K (cells.getD off .cc)
 |_=>False
def oc (m:Nat)(x:z)(K:z→Prop):Prop:=
 match x with
 | .aW i n c off=>
  match d[i]? with
  |some (.aa _ N ah)=>n=ah.length∧off+m≤N∧K (.agg (((ah.getD c []).drop off).take m))
  |_=>False
 | .eb cells off=>off+m≤cells.length∧K (.agg ((cells.drop off).take m))
 |_=>False
def wC (m:Nat)(x y:z)(K:List R→Prop):Prop:=
 match x with
 | .aW i n c off=>
  match d[i]? with
  |some (.aa e N ah)=>n=ah.length∧off+m≤N∧(cf y).length=m∧(cf y).all cM=true∧
   K (d.set i (.aa e N (ah.set c (eO (ah.getD c []) off (cf y)))))
  |_=>False
 |_=>False
def Fj (o:Nat)(x:z)(K:z→Prop):Prop:=
 match x with
 | .aW i n c off=>K (.aW i n c (off+o))
 | .eb cells off=>K (.eb cells (off+o))
 |_=>False
def vZ (N:Nat)(x y:z)(K:z→Prop):Prop:=
 match x,y with
 | .pure bt ah,.int _ c=>bt=N∧0≤c∧c < ah.length∧K (.eb (ah.getD c.toNat []) 0)
 | .own i n off len,.int _ c=>
  match d[i]? with
  |some (.aa _ bt ah)=>bt=N∧n=ah.length∧0≤c∧c < len∧K (.aW i n (off+c.toNat) 0)
  |_=>False
 |_,_=>False
def pA (fk an:Option z)(N:Nat)(x:z)(K:z→Prop):Prop:=
 match sk x with
 |none=>False
 |some l=>
  match fk.getD (.int .i64 0),an.getD (.int .i64 l) with
  | .int _ a,.int _ b=>0≤a∧a≤b∧b≤l∧
   match x with
   | .pure bt ah=>bt=N∧K (.pure bt ((ah.drop a.toNat).take (b.toNat-a.toNat)))
   | .bD=>K .bD
   | .own i n off _=>
    match d[i]? with
    |some (.aa _ bt ah)=>bt=N∧n=ah.length∧K (.own i n (off+a.toNat) (b.toNat-a.toNat))
    |_=>False
   |_=>False
  |_,_=>False
def tt (fk an:Option z)(x:z)(K:z→Prop):Prop:=
 match x with
 | .str E=>
  match fk.getD (.int .i64 0),an.getD (.int .i64 E.size) with
  | .int _ a,.int _ b=>0≤a∧a≤b∧b≤E.size∧K (.str (E.extract a.toNat b.toNat))
  |_,_=>False
 |_=>False
def tI (e:TypeId)(N bytes:Nat)(x y:z)(K:z→List R→Prop):Prop:=
 match jb d N y with
 |none=>False
 |some ys=>
  match x with
  | .bD=>ys.length*bytes≤140737488355328∧K (.own d.length ys.length 0 ys.length) (d++ [.aa e N ys])
  | .own i n off len=>
   match d[i]? with
   |some (.aa cA bt ah)=>cA=e∧bt=N∧n=ah.length∧off=0∧len=n∧(n+ys.length)*bytes≤140737488355328∧
    K (.own i (n+ys.length) 0 (n+ys.length)) (d.set i (.aa e N (ah++ys)))
   |_=>False
  |_=>False
def yt (aE:Bool)(M:List cN)(ents:List (z×z)):Prop:= ∀ p∈ents,fT aE M p.1
def pE (d:List R)(aE:Bool)(M:List cN):z→Option (List (z×z))
 | .bu i=>
  match d[i]? with
  |some (.aY (.map gt fM ents))=>if gt=aE∧fM=M then some ents else none
  |_=>none
 | .km=>some []
 |_=>none
def fp (k bo:z):Bool:=dU (cf k) (cf bo)
def gr (k:z):List (z×z)→Option Nat
 | []=>none
 |p::O=>if fp k p.1 then some 0 else (gr k O).map (·+1)
def dd (k:z):List (z×z)→Option z
 | []=>none
 |p::O=>if fp k p.1 then some p.2 else dd k O
def dp (k v:z):List (z×z)→List (z×z)
 | []=> [(k,v)]
 |p::O=>if fp k p.1 then (k,v)::O else p::dp k v O
def tx (ok aE:Bool)(M:List cN)(zero x k:z)(K:z→Prop):Prop:=
 match pE d aE M x with
 |none=>False
 |some ents=>fT aE M k∧K (if ok then .bg [(dd k ents).getD zero,.bool (dd k ents).isSome] else (dd k ents).getD zero)
def wh (aE:Bool)(M:List cN)(x k v:z)(K:List R→Prop):Prop:=
 match x with
 | .bu i=>
  match d[i]? with
  |some (.aY (.map gt fM ents))=>(gt=aE∧fM=M)∧fT aE M k∧K (d.set i (.aY (.map aE M (dp k v ents))))
  |_=>False
 |_=>False
def uJ (aE:Bool)(M:List cN)(zero x k:z)(K:z→List R→Prop):Prop:=
 match x with
 | .bu i=>
  match d[i]? with
  |some (.aY (.map gt fM ents))=>(gt=aE∧fM=M)∧(fT aE M k∧yt aE M ents)∧
   K (.bg [(dd k ents).getD zero,.int .i64 ((gr k ents).getD ents.length)]) (d.set i (.aY (.map aE M (dp k ((dd k ents).getD zero) ents))))
  |_=>False
 |_=>False
def wi (x c v:z)(K:List R→Prop):Prop:=
 match x,c with
 | .bu i,.int _ n=>
  match d[i]? with
  |some (.aY (.map aE M ents))=>0≤n∧n < ents.length∧K (d.set i (.aY (.map aE M (ents.set n.toNat ((ents.getD n.toNat (.cc,.cc)).1,v)))))
  |_=>False
 |_,_=>False
def wj (x:z)(K:z→List R→Prop):Prop:=
 match x with
 | .bu m=>
  match d[m]? with
  |some (.aY (.map _ _ ents))=>K (.fG d.length m) (d++ [.aY (.dY ents.length [])])
  |_=>False
 |_=>False
def rk (x:z)(K:z→List R→Prop):Prop:=
 match x with
 | .fG i m=>
  match d[i]?,d[m]? with
  |some (.aY (.dY n bR)),some (.aY (.map _ _ ents))=>n=ents.length∧i≠m∧((∀ c,c < n→c∈bR)→K (.bg [.bool false]) d)∧
   ∀ c,c < n→c∉bR→K (.bg [.bool true,(ents.getD c (.cc,.cc)).1,(ents.getD c (.cc,.cc)).2]) (d.set i (.aY (.dY n (bR++ [c]))))
  |_,_=>False
 |_=>False
def wk (x:z)(K:z→Prop):Prop:=
 match x with
 | .fG i m=>
  match d[i]?,d[m]? with
  |some (.aY (.dY n bR)),some (.aY (.map _ _ ents))=>n=ents.length∧0 < bR.length∧bR.getLastD 0 < n∧
   K (.bg [(ents.getD (bR.getLastD 0) (.cc,.cc)).1,(ents.getD (bR.getLastD 0) (.cc,.cc)).2])
  |_,_=>False
 |_=>False
def jZ (ah:List (List z))(off:Nat)(ys:List (List z)):List (List z):=ah.take off++ys++ah.drop (off+ys.length)
def xZ (N:Nat)(x y:z)(K:z→List R→Prop):Prop:=
 match jb d N y with
 |none=>False
 |some ys=>
  match x with
  | .own i n off len=>
   match d[i]? with
   |some (.aa e bt ah)=>bt=N∧n=ah.length∧off+len≤n∧
    K (.int .i64 ((min ys.length len:Nat):Int)) (d.set i (.aa e N (jZ ah off (ys.take (min ys.length len)))))
   |_=>False
  |_=>False
def wo (N:Nat)(zero:List z)(x:z)(K:List R→Prop):Prop:=
 match x with
 | .own i n off len=>
  match d[i]? with
  |some (.aa e bt ah)=>bt=N∧n=ah.length∧off+len≤n∧K (d.set i (.aa e N (jZ ah off (List.replicate len zero))))
  |_=>False
 |_=>False
def Am (len N:Nat)(x y:z)(K:z→Prop):Prop:=
 match x,y with
 | .aW i n c off,.int _ j=>0≤j∧j < len∧K (.aW i n c (off+j.toNat*N))
 | .eb cells off,.int _ j=>0≤j∧j < len∧K (.eb cells (off+j.toNat*N))
 |_,_=>False
def An (N:Nat)(neg:Bool)(x:z)(K:z→Prop):Prop:=
 match jb d N x with
 |some ys=>0 < ys.length∧K (.bool neg)
 |none=>False
end
def aI (op:fV)(args:List z)(d:List R)(K:z→List R→Prop):Prop:=
 match op,args with
 | .pK,[x]=>K x d
 | .pick,[.bool F,a,b]=>K (if F then a else b) d
 | .alloc e zero,[]=>K (.aW d.length 1 0 0) (d++ [.aa e zero.length [zero]])
 | .box e N,[x]=>(cf x).length=N∧(cf x).all cM=true∧K (.aW d.length 1 0 0) (d++ [.aa e N [cf x]])
 | .build zero O,vs=>
  match nX zero O vs with
  |some aj=>(vs.all fun v=>(cf v).all cM)=true∧K (.agg aj) d
  |none=>False
 | .rx e N zero len ja,vs=>
  match ob (List.replicate len zero) N ja vs with
  |some al=>(vs.all fun v=>(cf v).all cM)=true∧K (.own d.length len 0 len) (d++ [.aa e N al])
  |none=>False
 | .CE,[]=>K .bD d
 | .ym e N bytes zero,[.int _ l,.int _ F]=>0≤l∧l≤F∧F*bytes≤140737488355328∧F≤140737488355328∧
  K (.own d.length l.toNat 0 l.toNat) (d++ [.aa e N (List.replicate l.toNat zero)])
 | .oS,[x]=>pL d x fun v=>K v d
 | .oT n,[x]=>oc d n x fun v=>K v d
 | .store n,[x,y]=>wC d n x y fun d=>K (.bg []) d
 | .sy,[.aW i n c L]=>K (.aW i n c L) d
 | .sy,[.eb F L]=>K (.eb F L) d
 | .jc op,[x,y]=>me op x y fun v=>K v d
 | .qA neg M,[.agg ai,.agg ys]=>cv M ai∧cv M ys∧K (.bool (dU ai ys != neg)) d
 | .Fh neg,[.bool a,.bool b]=>K (.bool ((a==b) != neg)) d
 | .not,[.bool b]=>K (.bool !b) d
 | .neg,[.int k n]=>K (.int k (k.wrap (0-n))) d
 | .conv k,[.int _ n]=>K (.int k (k.wrap n)) d
 | .fieldAddr o,[x]=>Fj o x fun v=>K v d
 | .O1 off,[.agg aj]=>off < aj.length∧K (aj.getD off .cc) d
 | .O2 off N,[.agg aj]=>off+N≤aj.length∧K (.agg ((aj.drop off).take N)) d
 | .indexAddr N,[x,y]=>vZ d N x y fun v=>K v d
 | .index,[.str E,.int _ c]=>0≤c∧c < E.size∧K (.int .u8 ((E.data.getD c.toNat 0).toNat)) d
 | .slice true true N,[x,a,b]=>pA d (some a) (some b) N x fun v=>K v d
 | .slice true false N,[x,a]=>pA d (some a) none N x fun v=>K v d
 | .slice false true N,[x,b]=>pA d none (some b) N x fun v=>K v d
 | .slice false false N,[x]=>pA d none none N x fun v=>K v d
 | .wN true true,[x,a,b]=>tt (some a) (some b) x fun v=>K v d
 | .wN true false,[x,a]=>tt (some a) none x fun v=>K v d
 | .wN false true,[x,b]=>tt none (some b) x fun v=>K v d
 | .wN false false,[x]=>tt none none x fun v=>K v d
 | .CF,[.str E]=>K (.int .i64 E.size) d
 | .len,[x]=>
  match sk x with
  |some l=>K (.int .i64 l) d
  |none=>False
 | .append e N bytes,[x,y]=>tI d e N bytes x y K
 | .extract c,[.bg vs]=>c < vs.length∧K (vs.getD c .cc) d
 | .yu O6,[.int k a,.int bo b]=>k=bo∧K (.int k (if O6 then max a b else min a b)) d
 | .I8,[x]=>yc d x fun v=>K v d
 | .kc,[x]=>yd d x K
 | .copy N,[x,y]=>xZ d N x y K
 | .uZ len N,[x,y]=>Am len N x y fun v=>K v d
 | .O3 len,[.agg aj,.int _ j]=>(0≤j∧j < len)∧j.toNat < aj.length∧K (aj.getD j.toNat .cc) d
 | .O4 len N,[.agg aj,.int _ j]=>(0≤j∧j < len)∧j.toNat*N+N≤aj.length∧K (.agg ((aj.drop (j.toNat*N)).take N)) d
 | .O5 f,aj=>K (.fn f aj) d
 | .yn aE M,[]=>K (.bu d.length) (d++ [.aY (.map aE M [])])
 | .ib ok aE M zero,[x,k]=>tx d ok aE M zero x k fun v=>K v d
 | .oR aE M,[x,k,v]=>wh d aE M x k v fun d=>K (.bg []) d
 | .oa aE M zero,[x,k]=>uJ d aE M zero x k K
 | .rv,[x,c,v]=>wi d x c v fun d=>K (.bg []) d
 | .I9,[.bu i]=>
  match d[i]? with
  |some (.aY (.map _ _ ents))=>K (.int .i64 ents.length) d
  |_=>False
 | .dY,[x]=>wj d x K
 | .entry,[x]=>wk d x fun v=>K v d
 | .cap,[.bD]=>K (.int .i64 0) d
 | .AD e N bytes zero,[.bD,.int _ n]=>0 < n∧n*bytes≤140737488355328∧K (.own d.length n.toNat 0 n.toNat) (d++ [.aa e N (List.replicate n.toNat zero)])
 | .clear N zero,[x]=>wo d N zero x fun d=>K (.bg []) d
 | .yl N neg,[x]=>An d N neg x fun v=>K v d
 |_,_=>False
end Go.Abs
namespace Go.Abs
theorem ND {bd:Type}(l af:List bd)(n L:Nat)(h:L+af.length≤n)(aB:n≤l.length):
 (l.take L++af++l.drop (L+af.length)).take n=(l.take n).take L++af++(l.take n).drop (L+af.length):=by
 refine List.ext_getElem? fun j=> ?_;simp only[List.getElem?_take,List.getElem?_append,List.getElem?_drop,List.length_append,List.length_take];have h1:min L l.length=L:=by omega
 have B:min n l.length=n:=by omega
 have am:min L (min n l.length)=L:=by omega
 simp only[h1,am]
 by_cases a:j < n
 ·by_cases b:j < L
  ·have F:j < L+af.length:=by omega
   simp[a,b,F]
  ·by_cases F:j < L+af.length
   ·simp[a,b,F]
   ·simp only[a,F,if_true,if_false];rw[if_pos (by omega)]
 ·have b: ¬j < L+af.length:=by omega
  have F: ¬L+af.length+(j-(L+af.length)) < n:=by omega
  simp[a,b,F]
theorem I2 {N:Nat}(F:List z)(off:Nat): ∀ (ah:List (List z)) (c:Nat),(∀ e∈ah,e.length=N)→c < ah.length→off+F.length≤N→
 (ah.set c (eO (ah.getD c []) off F)).flatten=eO ah.flatten (c*N+off) F
 | [],c,_,h,_=>by simp at h
 |e::al,0,ak,_,bi=>by
  have he:=ak e (by simp);simp only[List.set_cons_zero,List.getD_cons_zero,List.flatten_cons,Nat.zero_mul,Nat.zero_add,eO];rw[List.take_append_of_le_length (by omega),List.drop_append_of_le_length (by omega)];simp
 |e::al,c+1,ak,an,bi=>by
  have he:=ak e (by simp);have ih:=I2 F off al c (fun x ad=>ak x (by simp[ad])) (by simpa using an) bi;simp only[List.set_cons_succ,List.getD_cons_succ,List.flatten_cons,ih];simp only[eO];have bF: (c+1)*N+off=e.length+(c*N+off):=by rw[he,Nat.add_mul];omega
  rw[bF,List.take_length_add_append,Nat.add_assoc e.length,List.drop_length_add_append];simp
theorem UG {l F:List z}{off:Nat}(h:off+F.length≤l.length): (eO l off F).length=l.length:=by
 simp only[eO,List.length_append,List.length_take,List.length_drop];omega
theorem ay.eO {C:bv}{ai F:List z}{vs af:List Value}{L:Nat}(h:ay C ai vs)(k:ay C F af):
 ay C (Abs.eO ai L F) (vs.take L++af++vs.drop (L+af.length)):=by
 unfold Abs.eO;rw[←k.length];exact ((h.take L).append k).append (h.drop _)
theorem iH.eO {vs af:List Value}{L k:Nat}(h:iH vs)(cJ:iH af):iH (vs.take L++af++vs.drop k):=by
 intro v ag;rcases List.mem_append.1 ag with ag|ag
 ·rcases List.mem_append.1 ag with ag|ag
  ·exact h v (List.mem_of_mem_take ag)
  ·exact cJ v ag
 ·exact h v (List.mem_of_mem_drop ag)
theorem WU (off:Nat): ∀ (af:List Value) (k:Nat) (cells:Array Value),off+k+af.length≤cells.size→
 ((af.zipIdx k).foldl (fun aj (x:Value×Nat)=>aj.setIfInBounds (off+x.2) x.1) cells).toList=cells.toList.take (off+k)++af++cells.toList.drop (off+k+af.length)
 | [],k,cells,_=>by simp
 |v::bW,k,cells,h=>by
  simp only[List.zipIdx_cons,List.foldl_cons];rw[WU off bW (k+1) _ (by simp at h ⊢;omega)];have e:=list_seg_step cells.toList (off+k) v bW (by simp at h ⊢;omega);simpa[Array.toList_setIfInBounds,Nat.add_assoc] using e
theorem arN (cells:Array Value)(off:Nat)(v:Value)(h:off+v.cells.size≤cells.size):
 (v.cells.zipIdx.foldl (fun aj (x:Value×Nat)=>aj.setIfInBounds (off+x.2) x.1) cells).toList=cells.toList.take off++v.cells.toList++cells.toList.drop (off+v.cells.toList.length):=by
 have:=WU off v.cells.toList 0 cells (by simpa using h);simp only[Nat.add_zero] at this;rw[←this,←Array.foldl_toList];simp
theorem Fg {C:bv}(J5:Nat→Option (Nat×Nat)): ∀ (ja:List Nat) (O:List (Nat×Nat)) (vs:List z) (af:List Value) (aj fX:List z) (cells:Array Value),
 O=ja.filterMap J5→ja.all (fun c=>(J5 c).isSome)=true→ay C vs af→nX aj O vs=some fX→(vs.all fun v=>(cf v).all cM)=true→ay C aj cells.toList→
 ∃ i,Instr.fill J5 cells (ja.zip af)=some i∧ay C fX i.toList∧(iH cells.toList→iH i.toList)
 | [],O,vs,af,aj,fX,cells,ae,_,ag,hf,h1,V=>by
  simp at ae;subst ae;cases vs with
  |nil=>simp[nX] at hf;subst hf;exact⟨cells,by simp[Instr.fill],V,fun h=>h⟩
  |cons v vs=>simp[nX] at hf
 |c::ja,O,vs,af,aj,fX,cells,ae,aw,ag,hf,h1,V=>by
  simp only[List.all_cons,Bool.and_eq_true] at aw;obtain⟨q,aQ⟩:=Option.isSome_iff_exists.1 aw.1;obtain⟨off,N⟩:=q;simp only[List.filterMap_cons,aQ] at ae;subst ae;cases vs with
  |nil=>simp[nX] at hf
  |cons v vs=>
   rw[ay] at ag;obtain⟨u,bW,rfl,aZ,E7⟩:=ag;simp only[List.all_cons,Bool.and_eq_true] at h1;simp only[nX] at hf;split at hf
   ·rename_i Iw;obtain⟨bI,ca⟩:=Cy aZ h1.1;have cB:u.cells.toList.length=(cf v).length:=bI.length;have gB:=V.length;simp only[Array.length_toList] at cB gB;have ce:=arN cells off u (by omega);have dk:ay C (eO aj off (cf v)) (u.cells.zipIdx.foldl (fun aj (x:Value×Nat)=>aj.setIfInBounds (off+x.2) x.1) cells).toList:=by
     rw[ce];exact V.eO bI
    obtain⟨i,r1,cO,fN⟩:=Fg J5 ja _ vs bW _ fX _ rfl aw.2 E7 hf h1.2 dk;refine⟨i,?_,cO,fun Ff=>fN ?_⟩
    ·simp only[List.zip_cons_cons,Instr.fill,aQ];rw[if_neg (by simp;omega)];exact r1
    ·rw[ce];exact Ff.eO ca
   ·cases hf
theorem Aa (D:Array Value): ∀ (n:Nat),((Array.range (n*D.size)).map (D[·%D.size]!)).toList=(List.replicate n D.toList).flatten
 |0=>by simp
 |n+1=>by
  rw[List.replicate_succ',List.flatten_append,←Aa D n];refine List.ext_getElem? fun j=> ?_;simp only[Array.toList_map,Array.toList_range,List.getElem?_map,List.getElem?_append,List.length_map,List.length_range,List.flatten_cons,List.flatten_nil,List.append_nil]
  by_cases h:j < n*D.size
  ·rw[if_pos h,List.getElem?_range h,List.getElem?_range (by rw[Nat.add_mul];omega)]
  ·rw[if_neg h]
   by_cases B:j < (n+1)*D.size
   ·have am:j-n*D.size < D.size:=by rw[Nat.add_mul] at B;omega
    rw[List.getElem?_range B];have:j%D.size=j-n*D.size:=by
     rw[Nat.mod_eq_sub_mul_div];have:j / D.size=n:=by
      refine Nat.div_eq_of_lt_le ?_ ?_
      ·omega
      ·exact B
     rw[this,Nat.mul_comm]
    simp[this,am]
   ·rw[Nat.add_mul] at B;rw[List.getElem?_eq_none (by simp[Nat.add_mul];omega),List.getElem?_eq_none (by simp;omega)];rfl
theorem OF {N:Nat}: ∀ (ja:List Nat) (vs:List z) (al md:List (List z)),ob al N ja vs=some md→(∀ e∈al,e.length=N)→
 nX al.flatten (ja.map fun c=>(c*N,N)) vs=some md.flatten∧(∀ e∈md,e.length=N)∧md.length=al.length
 | [],[],al,md,h,ak=>by simp[ob] at h;subst h;exact⟨by simp[nX],ak,rfl⟩
 | [],v::vs,al,md,h,ak=>by simp[ob] at h
 |c::ja,[],al,md,h,ak=>by simp[ob] at h
 |c::ja,v::vs,al,md,h,ak=>by
  simp only[ob] at h;split at h
  ·rename_i V;have eI:al.getD c []∈al:=by
    rw[List.getD_eq_getElem?_getD,List.getElem?_eq_getElem V.2];simp
   have gT:eO (al.getD c []) 0 (cf v)=cf v:=by
    have:=ak _ eI;simp only[eO,List.take_zero,List.nil_append,Nat.zero_add];rw[List.drop_eq_nil_of_le (by omega)];simp
   have hf:=I2 (N:=N) (cf v) 0 al c ak V.2 (by omega);rw[gT,Nat.add_zero] at hf;have yh: ∀ e∈al.set c (cf v),e.length=N:=by
    intro e he;rcases List.mem_or_eq_of_mem_set he with he|rfl
    ·exact ak e he
    ·exact V.1
   obtain⟨bI,ca,fc⟩:=OF ja vs _ md h yh;refine⟨?_,ca,by simpa using fc⟩;simp only[List.map_cons,nX];have ed:c*N+N≤al.flatten.length:=by
    rw[xY ak];have: (c+1)*N≤al.length*N:=Nat.mul_le_mul_right _ V.2;rw[Nat.add_mul] at this;omega
   rw[if_pos ⟨V.1,ed⟩,←hf];exact bI
  ·cases h
def AA:Value→Option z
 | .int k n=>some (.int k n)
 | .bool b=>some (.bool b)
 | .string E=>some (.str E)
 | .slice none 0 0=>some .bD
 | .pointer none=>some .jW
 | .map none=>some .km
 |_=>none
theorem I6 {C:bv}{v:Value}{a:z}(h:AA v=some a):Rep C a v∧cM a=true:=by
 unfold AA at h;split at h<;>simp at h<;>subst h<;>simp[Rep,cM]
def yE:List Value→Option (List z)
 | []=>some []
 |v::vs=>
  match AA v,yE vs with
  |some a,some as=>some (a::as)
  |_,_=>none
theorem rf {C:bv}: ∀ {vs:List Value} {as:List z},yE vs=some as→ay C as vs∧as.all cM=true
 | [],as,h=>by simp[yE] at h;subst h;simp[ay]
 |v::vs,as,h=>by
  simp only[yE] at h;split at h
  ·rename_i a dc aw Z;simp at h;subst h;obtain⟨h1,B⟩:=I6 (C:=C) aw;obtain⟨bI,ca⟩:=rf (C:=C) Z;refine⟨?_,by simp only[List.all_cons,B,ca,Bool.and_self]⟩;rw[ay];exact⟨v,vs,rfl,h1,bI⟩
  ·cases h
def mJ (P:Program)(t:TypeId):Option (List z):=
 match P.info? t with
 |some c=>
  match c.zero with
  |some D=>
   match yE D.cells.toList with
   |some aj=>if aj.length=c.size∧0 < c.size then some aj else none
   |none=>none
  |none=>none
 |none=>none
theorem sd {P:Program}{t:TypeId}{aj:List z}(h:mJ P t=some aj):
 ∃ c D,P.info? t=some c∧c.zero=some D∧yE D.cells.toList=some aj∧aj.length=c.size∧0 < c.size∧D.cells.size=c.size:=by
 unfold mJ at h;split at h
 ·rename_i c an;split at h
  ·rename_i D aS;split at h
   ·rename_i fX V;split at h
    ·rename_i hl;simp at h;subst h;have:=(rf (C:=⟨[],[],fun _=>False,default,false⟩) V).1.length;simp only[Array.length_toList] at this;exact⟨c,D,an,aS,V,hl.1,hl.2,by omega⟩
    ·cases h
   ·cases h
  ·cases h
 ·cases h
def gW (P:Program)(t:TypeId):Option Bool:=
 match P.underlying t with
 |some (.struct _)|some (.array _ _)=>some true
 |some _=>some false
 |none=>none
def hN (P:Program)(t:TypeId):Option Nat:=(P.info? t).map (·.size)
def Ag (P:Program)(sub:TypeId→Option (List cN)):List Field→Nat→Option (List cN)
 | [],_=>some []
 |f::eU,off=>
  if f.name≠ "_" ∧f.offset=off then
   match sub f.type with
   |some M=>
    if hN P f.type=some M.length then
     match Ag P sub eU (off+M.length) with
     |some bW=>some (M++bW)
     |none=>none
    else none
   |none=>none
  else none
def flatK (P:Program):Nat→TypeId→Option (List cN)
 |0,_=>none
 |o+1,t=>
  match P.underlying t with
  |some (.int k)=>some [.int k]
  |some .bool=>some [.bool]
  |some .string=>some [.str]
  |some (.struct eU)=>if P.stoodInHeld t then none else Ag P (flatK P o) eU.toList 0
  |_=>none
def xU (P:Program)(t:TypeId):Option z:=
 match P.info? t with
 |some c=>
  match c.zero with
  |some (.agg aj)=>(yE aj.toList).map .agg
  |some D=>AA D
  |none=>none
 |none=>none
theorem TX {P:Program}{t:TypeId}{a:z}(h:xU P t=some a): ∃ c D,P.info? t=some c∧c.zero=some D∧ ∀ C,Rep C a D:=by
 unfold xU at h;split at h
 ·rename_i c an;split at h
  ·rename_i aj aS;cases ag:yE aj.toList with
   |none=>rw[ag] at h;simp at h
   |some as=>
    rw[ag] at h;simp at h;subst h;exact⟨c,_,an,aS,fun C=>by rw[Rep];exact⟨aj,rfl,(rf ag).1⟩⟩
  ·rename_i D _ aS;exact⟨c,D,an,aS,fun C=>(I6 h).1⟩
  ·cases h
 ·cases h
def sl (P:Program)(t:TypeId):Option (Bool×List cN):=
 match gW P t,flatK P 20 t with
 |some aE,some M=>some (aE,M)
 |_,_=>none
def oN (P:Program)(L:Oper):Option (fV×List Operand):=
 match L.op with
 | .move x| .assign x=>some (.pK,[x])
 | .pick F a b=>some (.pick,[F,a,b])
 | .alloc t=>
  match mJ P t with
  |some D=>some (.alloc t D,[])
  |none=>none
 | .box t x=>
  match hN P t with
  |some n=>some (.box t n,[x])
  |none=>none
 | .build t ef=>
  match mJ P t,P.underlying t with
  |some D,some (.struct oL)=>
   match oL.toList.mapM (fun f=>(hN P f.type).map fun n=>(f.offset,n)) with
   |some rm=>
    if (ef.toList.map (·.1)).all (fun c=>(rm[c]?).isSome) then some (.build D ((ef.toList.map (·.1)).filterMap (rm[·]?)),ef.toList.map (·.2)) else none
   |none=>none
  |some D,some (.array _ e)=>
   match hN P e with
   |some n=>some (.build D ((ef.toList.map (·.1)).map fun c=>(c*n,n)),ef.toList.map (·.2))
   |none=>none
  |_,_=>none
 | .buildSlice t len ef=>
  match P.underlying t with
  |some (.slice e)=>
   match mJ P e with
   |some D=>if len=0∧ef.size=0 then some (.CE,[]) else if len*D.length≤16777216 then some (.rx e D.length D len (ef.toList.map (·.1)),ef.toList.map (·.2)) else none
   |none=>none
  |_=>none
 | .makeSlice t l F=>
  match P.underlying t with
  |some (.slice e)=>
   match mJ P e,(P.info? e).map (·.bytes) with
   |some D,some jG=>if jG=0 then none else some (.ym e D.length jG D,[l,F])
   |_,_=>none
  |_=>none
 | .load t x=>
  match gW P t,hN P t with
  |some true,some n=>some (.oT n,[x])
  |some false,_=>some (.oS,[x])
  |_,_=>none
 | .store t x y=>
  match hN P t with
  |some n=>some (.store n,[x,y])
  |none=>none
 | .nilCheck x=>some (.sy,[x])
 | .binOp op t x y _=>
  match P.underlying t with
  |some (.int _)|some .string=>some (.jc op,[x,y])
  |some .bool=>
   match op with
   | .eql=>some (.Fh false,[x,y])
   | .neq=>some (.Fh true,[x,y])
   |_=>none
  |some (.struct _)=>
   match flatK P 20 t with
   |some M=>
    if P.eqGuardType P.depth t then none else
    match op with
    | .eql=>some (.qA false M,[x,y])
    | .neq=>some (.qA true M,[x,y])
    |_=>none
   |none=>none
  |some (.slice e)=>
   match hN P e,op,y with
   |some n,.eql,.const (.slice none 0 0)=>some (.yl n false,[x])
   |some n,.neq,.const (.slice none 0 0)=>some (.yl n true,[x])
   |_,_,_=>none
  |_=>none
 | .unOp .not _ x=>some (.not,[x])
 | .unOp .neg _ x=>some (.neg,[x])
 | .convert E o x=>
  match P.underlying E,P.underlying o with
  |some (.int _),some (.int k)=>some (.conv k,[x])
  |some (.slice e),some .string=>
   match P.underlying e with
   |some (.int .u8)=>some (.I8,[x])
   |_=>none
  |some (.slice e),some (.slice _)=>
   if E=o then
    match P.underlying e with
    |some (.int .u8)=>some (.kc,[x])
    |_=>none
   else none
  |_,_=>none
 | .fieldAddr E x f=>
  match P.underlying E with
  |some (.struct oL)=>
   match oL[f]? with
   |some oO=>
    match hN P oO.type with
    |some n=>if n=0 then none else some (.fieldAddr oO.offset,[x])
    |none=>none
   |none=>none
  |_=>none
 | .field E x f=>
  match P.underlying E with
  |some (.struct oL)=>
   match oL[f]? with
   |some oO=>
    match gW P oO.type,hN P oO.type with
    |some true,some n=>some (.O2 oO.offset n,[x])
    |some false,_=>some (.O1 oO.offset,[x])
    |_,_=>none
   |none=>none
  |_=>none
 | .indexAddr t x c=>
  match P.underlying t with
  |some (.slice e)=>
   match hN P e with
   |some n=>some (.indexAddr n,[x,c])
   |none=>none
  |some (.array len e)=>
   match hN P e with
   |some n=>if 1 < len then some (.uZ len n,[x,c]) else none
   |none=>none
  |_=>none
 | .index t x c=>
  match P.underlying t with
  |some .string=>some (.index,[x,c])
  |some (.array len e)=>
   match gW P e,hN P e with
   |some true,some n=>some (.O4 len n,[x,c])
   |some false,some 1=>some (.O3 len,[x,c])
   |_,_=>none
  |_=>none
 | .slice t x fk an none=>
  match P.underlying t with
  |some (.slice e)=>
   match hN P e with
   |some n=>some (.slice fk.isSome an.isSome n,x::(fk.toList++an.toList))
   |none=>none
  |some .string=>some (.wN fk.isSome an.isSome,x::(fk.toList++an.toList))
  |_=>none
 | .extract x c=>some (.extract c,[x])
 | .call {callee:= .builtin .len,args:=⟨[x]⟩,argTypes:=⟨[t]⟩}=>
  match P.underlying t with
  |some (.slice _)=>some (.len,[x])
  |some .string=>some (.CF,[x])
  |some (.map _ _)=>some (.I9,[x])
  |_=>none
 | .call {callee:= .builtin .append,args:=⟨[x,y]⟩,argTypes:=⟨[t,u]⟩}=>
  if t=u then
   match P.underlying t with
   |some (.slice e)=>
    match mJ P e,(P.info? e).map (·.bytes) with
    |some D,some jG=>if jG=0 then none else some (.append e D.length jG,[x,y])
    |_,_=>none
   |_=>none
  else
   match P.underlying t,P.underlying u with
   |some (.slice e),some (.int .i64)=>
    match mJ P e,(P.info? e).map (·.bytes) with
    |some D,some jG=>if jG=0 then none else some (.AD e D.length jG D,[x,y])
    |_,_=>none
   |_,_=>none
 | .call {callee:= .builtin .min,args:=⟨[x,y]⟩,argTypes:=_}=>some (.yu false,[x,y])
 | .call {callee:= .builtin .max,args:=⟨[x,y]⟩,argTypes:=_}=>some (.yu true,[x,y])
 | .call {callee:= .value (.func f),args:=args,argTypes:=_}=>
  match P.funcs[f]? with
  |some fn=>if fn.body.isSome&&fn.name != "runtime.NumGoroutine" then some (.call f,args.toList) else none
  |none=>none
 | .call {callee:= .builtin .copy,args:=⟨[x,y]⟩,argTypes:=⟨[t,u]⟩}=>
  if t=u then
   match P.underlying t with
   |some (.slice e)=>
    match hN P e with
    |some n=>some (.copy n,[x,y])
    |none=>none
   |_=>none
  else none
 | .makeFunc (.func f) ⟨[]⟩ NI=>some (.O5 f,NI.toList)
 | .makeMap t none=>
  match P.underlying t with
  |some (.map k _)=>
   match sl P k with
   |some (aE,M)=>some (.yn aE M,[])
   |none=>none
  |_=>none
 | .lookup t x c ok=>
  match P.underlying t with
  |some (.map k e)=>
   match sl P k,xU P e with
   |some (aE,M),some D=>some (.ib ok aE M D,[x,c])
   |_,_=>none
  |_=>none
 | .mapUpdate t m c v=>
  match P.underlying t with
  |some (.map k _)=>
   match sl P k with
   |some (aE,M)=>some (.oR aE M,[m,c,v])
   |none=>none
  |_=>none
 | .mapEntry t m c=>
  match P.underlying t with
  |some (.map k e)=>
   match sl P k,xU P e with
   |some (aE,M),some D=>some (.oa aE M D,[m,c])
   |_,_=>none
  |_=>none
 | .entryStore _ m E v=>some (.rv,[m,E,v])
 | .range t x=>
  match P.underlying t with
  |some (.map _ _)=>some (.dY,[x])
  |_=>none
 | .next x false=>some (.next,[x])
 | .entry x=>some (.entry,[x])
 | .call {callee:= .builtin .cap,args:=⟨[x]⟩,argTypes:=⟨[t]⟩}=>
  match P.underlying t with
  |some (.slice _)=>some (.cap,[x])
  |_=>none
 | .call {callee:= .builtin .clear,args:=⟨[x]⟩,argTypes:=⟨[t]⟩}=>
  match P.underlying t with
  |some (.slice e)=>
   match mJ P e with
   |some D=>some (.clear D.length D,[x])
   |none=>none
  |_=>none
 | .call {callee:= .value (.tmp t),args:=args,argTypes:=_}=>some (.wx,.tmp t::args.toList)
 |_=>none
end Go.Abs
namespace Go.Abs
variable [Dr]
def dN (P:Program)(C:bv)(E:Sem Next)(K:z→List R→Prop):Prop:=
 ∃ n aV v av,E.run P C.w= .ok n av.w∧(n= .value aV∨(n= .skip∧aV=undef))∧Rep av v aV∧cb av∧cd C.d.length C av∧K v av.d
theorem Fi {C:bv}{as:List z}(h:ay C as []):as= []:=by
 have:=h.length;simp at this;exact List.eq_nil_of_length_eq_zero this.symm
theorem ia {C:bv}{as:List z}{v:Value}(h:ay C as [v]): ∃ a,as= [a]∧Rep C a v:=by
 cases as with
 |nil=>rw[ay] at h;cases h
 |cons a as=>
  rw[ay] at h;obtain⟨u,bW,he,h1,B⟩:=h;simp at he;obtain⟨rfl,rfl⟩:=he;rw[Fi B];exact⟨a,rfl,h1⟩
theorem lA {C:bv}{as:List z}{v w:Value}(h:ay C as [v,w]): ∃ a b,as= [a,b]∧Rep C a v∧Rep C b w:=by
 cases as with
 |nil=>rw[ay] at h;cases h
 |cons a as=>
  rw[ay] at h;obtain⟨u,bW,he,h1,B⟩:=h;simp at he;obtain⟨rfl,rfl⟩:=he;obtain⟨b,rfl,Z⟩:=ia B;exact⟨a,b,rfl,h1,Z⟩
theorem NG {C:bv}{as:List z}{v w x:Value}(h:ay C as [v,w,x]): ∃ a b F,as= [a,b,F]∧Rep C a v∧Rep C b w∧Rep C F x:=by
 cases as with
 |nil=>rw[ay] at h;cases h
 |cons a as=>
  rw[ay] at h;obtain⟨u,bW,he,h1,B⟩:=h;simp at he;obtain⟨rfl,rfl⟩:=he;obtain⟨b,F,rfl,Z,V⟩:=lA B;exact⟨a,b,F,rfl,h1,Z,V⟩
section
variable {P:Program} {C:bv} {K:z→List R→Prop}
theorem dN.aiL (ar:cb C){E:Sem Value}{v:z}{aV:Value}(ak:E.run P C.w= .ok aV C.w)(G:Rep C v aV)(I:K v C.d):
 dN P C (do pure (.value (←E))) K:=
 ⟨.value aV,aV,v,C,by simp[ak],.inl rfl,G,ar,cd.refl C,I⟩
theorem dN.aiM {av:bv}(ar:cb av)(hl:cd C.d.length C av){E:Sem Value}{v:z}{aV:Value}(ak:E.run P C.w= .ok aV av.w)(G:Rep av v aV)(I:K v av.d):
 dN P C (do pure (.value (←E))) K:=
 ⟨.value aV,aV,v,av,by simp[ak],.inl rfl,G,ar,hl,I⟩
theorem dN.unit {av:bv}(ar:cb av)(hl:cd C.d.length C av){E:Sem Unit}(ak:E.run P C.w= .ok () av.w)(I:K (.bg []) av.d):
 dN P C (do E;pure .skip) K:=
 ⟨.skip,undef,.bg [],av,by simp[ak],.inr ⟨rfl,rfl⟩,by rw[Rep];exact⟨#[],rfl,by simp[ay]⟩,ar,hl,I⟩
theorem dn.nS {b L:Nat}{cells:List z}(j:Nat)(h:dn C b L cells)(aT:j < cells.length):
 ∃ v,C.w.cell? ⟨b,L+j,none⟩=some v∧Rep C (cells.getD j .cc) v:=by
 obtain⟨vs,h1,B,_⟩:=pM.1 h;obtain⟨v,bI,ca⟩:=h1.nS j aT;exact⟨v,B j v bI,ca⟩
theorem sg (b L n:Nat): (⟨b,L,none⟩:Addr).add n=⟨b,L+n,none⟩:=by
 unfold Addr.add;split<;>simp_all
theorem Ae {t:TypeId}{x:Bool}(h:gW P t=some x)(w:World): (isAgg t).run P w= .ok x w:=by
 unfold gW at h;cases aq:P.underlying t with
 |none=>rw[aq] at h;simp at h
 |some o=>
  rw[aq] at h;unfold isAgg;simp only[Sem.run_bind,run_underlying aq,Result.andThen_ok];cases o<;>simp at h<;>subst h<;>simp
theorem lZ {t:TypeId}{n:Nat}(h:hN P t=some n)(w:World): (sizeOf t).run P w= .ok n w:=by
 unfold hN at h;cases an:P.info? t with
 |none=>rw[an] at h;simp at h
 |some c=>rw[an] at h;simp at h;subst h;simp[sizeOf,typeInfo,an]
theorem sf {t:TypeId}{c:TypeInfo}{D:Value}(an:P.info? t=some c)(aS:c.zero=some D)(w:World): (zeroValue t).run P w= .ok D w:=by
 simp[zeroValue,typeInfo,an,aS]
theorem arO {b L:Nat}{vs:List Value}{w:World}(h:Cx w b L vs): (loadCells ⟨b,L,none⟩ vs.length).run P w= .ok vs.toArray w:=
 run_loadCells_list w ⟨b,L,none⟩ vs fun j v aT=>by rw[sg];exact h j v aT
theorem Uf (ar:cb C){t:TypeId}{x:z}{cq:Value}(G:Rep C x cq)(aw:gW P t=some false)
 (h:pL C.d x fun v=>K v C.d): ∃ aV v,(Instr.loadAt t cq).run P C.w= .ok aV C.w∧Rep C v aV∧K v C.d:=by
 cases x<;>simp only[pL] at h
 case aW i n c off=>
  split at h
  ·rename_i e N ah hrow;obtain⟨aB,oH,I⟩:=h;rw[Rep] at G;obtain⟨_,_,fo,G⟩:=G;obtain⟨an,b,F,ae,rfl⟩:=(G e N ah hrow).2 aB;rcases ar.aa hrow with ⟨hl,_⟩|⟨eu,cap,aj,hl,h1,B,am,bp,cn,dj⟩
   ·rw[ae] at hl;simp at hl
   ·rw[ae] at hl;simp at hl;obtain⟨rfl,rfl⟩:=hl;obtain⟨bI,ca⟩:=dj.nS c (by omega);obtain⟨v,c1,c2⟩:=ca.nS off (by omega);refine⟨v,_,?_,c2,I⟩;simp only[Nat.zero_add] at c1;simp[Instr.loadAt,Instr.sureAddr,loadVar,Ae aw,c1]
  ·exact h.elim
 case eb cells off=>
  rw[Rep] at G;obtain⟨b,L,rfl,Z,V⟩:=G;have V:=dn.nQ b L cells V;obtain⟨v,c1,c2⟩:=V.nS off h.1;refine⟨v,_,?_,c2,h.2⟩;simp[Instr.loadAt,Instr.sureAddr,loadVar,Ae aw,c1]
theorem Ue (ar:cb C){t:TypeId}{m:Nat}{x:z}{cq:Value}(G:Rep C x cq)(aw:gW P t=some true)(ak:hN P t=some m)
 (h:oc C.d m x fun v=>K v C.d): ∃ aV v,(Instr.loadAt t cq).run P C.w= .ok aV C.w∧Rep C v aV∧K v C.d:=by
 have key: ∀ {b L:Nat} {cells:List z},dn C b L cells→cells.length=m→ ∃ aV,(Instr.loadAt t (.pointer (some ⟨b,L,none⟩))).run P C.w= .ok aV C.w∧Rep C (.agg cells) aV:=by
  intro b L cells V hl;obtain⟨vs,h1,B,_⟩:=pM.1 V;have:=h1.length;refine⟨.agg vs.toArray,?_,by rw[Rep];exact⟨_,rfl,by simpa using h1⟩⟩;have Fc:=arO (P:=P) B;rw[show vs.length=m from by omega] at Fc;simp[Instr.loadAt,Instr.sureAddr,loadVar,Ae aw,lZ ak,Fc]
 cases x<;>simp only[oc] at h
 case aW i n c off=>
  split at h
  ·rename_i e N ah hrow;obtain⟨aB,oH,I⟩:=h;rw[Rep] at G;obtain⟨_,_,fo,G⟩:=G;obtain⟨an,b,F,ae,rfl⟩:=(G e N ah hrow).2 aB;rcases ar.aa hrow with ⟨hl,_⟩|⟨eu,cap,aj,hl,h1,B,am,bp,cn,dj⟩
   ·rw[ae] at hl;simp at hl
   ·rw[ae] at hl;simp at hl;obtain⟨rfl,rfl⟩:=hl;obtain⟨bI,ca⟩:=dj.nS c (by omega);have fc:=(ca.drop off).take m;rw[Nat.zero_add] at fc;obtain⟨aV,c1,c2⟩:=key fc (by rw[List.length_take,List.length_drop];omega);exact⟨aV,_,c1,c2,I⟩
  ·exact h.elim
 case eb cells off=>
  rw[Rep] at G;obtain⟨b,L,rfl,Z,V⟩:=G;have V:=dn.nQ b L cells V;obtain⟨aV,c1,c2⟩:=key ((V.drop off).take m) (by rw[List.length_take,List.length_drop];omega);exact⟨aV,_,c1,c2,h.2⟩
theorem aiY (ar:cb C){t:TypeId}{m:Nat}{x y:z}{cq fI:Value}(G:Rep C x cq)(bl:Rep C y fI)(ak:hN P t=some m){K:List R→Prop}
 (h:wC C.d m x y K): ∃ av,(Instr.storeAt t cq fI).run P C.w= .ok () av.w∧cb av∧cd C.d.length C av∧K av.d:=by
 cases x<;>simp only[wC] at h
 case aW i n c off=>
  split at h
  ·rename_i e N ah hrow;obtain⟨aB,oH,cB,Ff,I⟩:=h;rw[Rep] at G;obtain⟨_,_,fo,G⟩:=G;obtain⟨an,b,F,ae,rfl⟩:=(G e N ah hrow).2 aB;rcases ar.aa hrow with ⟨hl,_⟩|⟨eu,cap,aj,hl,h1,B,am,bp,cn,dj⟩
   ·rw[ae] at hl;simp at hl
   ·rw[ae] at hl;simp at hl;obtain⟨rfl,rfl⟩:=hl;obtain⟨vs,he,nT⟩:=dj.sm;have oE:=Fd B nT;have wm:=he.length;obtain⟨c1,c2⟩:=Cy bl Ff;have gB:=c1.length;have jY: (c+1)*N≤ah.length*N:=Nat.mul_le_mul_right _ (by omega);have tA:ah.length*N≤F*N:=Nat.mul_le_mul_right _ cn;rw[Nat.add_mul] at jY;have ce:=run_storeCells_at P b (c*N+off) e fI.cells.toList 0 aj C.w B (by omega) c2;simp only[Nat.add_zero] at ce;have dt:fI.cells.size=m:=by have:=gB;simp only[Array.length_toList] at this;omega
    have gb:=ya ar hrow ae b F (aj.toList.take (c*N+off)++fI.cells.toList++aj.toList.drop (c*N+off+fI.cells.toList.length)).toArray
     (ah.set c (eO (ah.getD c []) off (cf y))) (vs.take (c*N+off)++fI.cells.toList++vs.drop (c*N+off+fI.cells.toList.length))
     (C.w.setRow b (aj.toList.take (c*N+off)++fI.cells.toList++aj.toList.drop (c*N+off+fI.cells.toList.length)).toArray)
     ⟨rfl,rfl,rfl,by simp,fun k _ gc=>setRow_other C.w b k _ (fun e=>gc (by simp[e]))⟩ (.inl rfl) (setRow_heap C.w b aj _ e _ B)
     (by simp only[List.size_toArray,List.length_append,List.length_take,List.length_drop,Array.length_toList];simp only[Array.length_toList] at gB;omega)
     bp (by simpa using cn)
     ⟨fun x ad=> ?_,?_,he.cM.eO c2⟩ ?_ (by simp) (fun _=>rfl)
    ·refine⟨⟨C.d.set i (.aa e N (ah.set c (eO (ah.getD c []) off (cf y)))),C.bm.set i (some (b,F)),C.bS,C.w.setRow b (aj.toList.take (c*N+off)++fI.cells.toList++aj.toList.drop (c*N+off+fI.cells.toList.length)).toArray,C.bT⟩,?_,gb.1,gb.2,I⟩;simp only[Instr.storeAt,Instr.sureAddr,storeVar,Sem.run_bind,Sem.run_pure,Result.andThen_ok,lZ ak];rw[if_neg (by simpa using dt)];simp only[Sem.run_bind,Sem.run_pure,Result.andThen_ok,ce]
    ·rcases List.mem_or_eq_of_mem_set ad with ad|rfl
     ·exact he.iW x ad
     ·have bV:ah.getD c []∈ah:=by
       rw[List.getD_eq_getElem?_getD,List.getElem?_eq_getElem (by omega)];simp
      have kO:=he.iW _ bV;rw[UG (by omega)];exact kO
    ·rw[I2 (N:=N) (cf y) off ah c he.iW (by omega) (by omega)];exact he.ks.eO c1
    ·simp only[List.length_append,List.length_take,List.length_drop];have Fe:vs.length≤aj.toList.length:=by simp only[Array.length_toList];omega
     have bF:min (c*N+off) vs.length+fI.cells.toList.length+(vs.length-(c*N+off+fI.cells.toList.length))=vs.length:=by omega
     rw[bF];show List.take vs.length (aj.toList.take (c*N+off)++fI.cells.toList++aj.toList.drop (c*N+off+fI.cells.toList.length))=_;rw[ND aj.toList fI.cells.toList vs.length (c*N+off) (by omega) Fe,oE]
  ·exact h.elim
end
end Go.Abs
namespace Go.Abs
variable [Dr]
section
variable {P:Program} {C:bv} {K:z→List R→Prop}
theorem J6 {d:List R}{bm:List (Option (Nat×Nat))}{bS:Nat→Prop}{w:World}{e:TypeId}{N b cap:Nat}{cells:List z}(hl:bm.length=d.length):
 Rep ⟨d++ [.aa e N [cells]],bm++ [some (b,cap)],bS,w,false⟩ (.aW d.length 1 0 0) (.pointer (some ⟨b,0,none⟩)):=by
 rw[Rep];refine⟨rfl,⟨_,rfl⟩,by simp,fun cA bt ah h=> ?_⟩;simp at h;obtain⟨rfl,rfl,rfl⟩:=h;exact⟨by simp,fun _=>⟨by simp,b,cap,by simp[←hl],by simp⟩⟩
theorem Ix {d:List R}{bm:List (Option (Nat×Nat))}{bS:Nat→Prop}{w:World}{e:TypeId}{N b cap:Nat}{ah:List (List z)}(hl:bm.length=d.length)(V:ah.length≤cap):
 Rep ⟨d++ [.aa e N ah],bm++ [some (b,cap)],bS,w,false⟩ (.own d.length ah.length 0 ah.length) (.slice (some ⟨b,0,none⟩) ah.length cap):=by
 rw[Rep];refine⟨rfl,⟨_,_,rfl⟩,by simp,fun cA bt dl h=> ?_⟩;simp at h;obtain⟨rfl,rfl,rfl⟩:=h;exact⟨by simp,fun _=>⟨by simp,some (b,cap),by simp[←hl],⟨b,0,none⟩,cap,rfl,V,rfl,rfl,fun _=>⟨rfl,rfl⟩,fun _=>by simp⟩⟩
theorem CJ {N:Nat}{cells:List z}{vs:List Value}(hl:cells.length=N)(h:ay C cells vs)(h1:iH vs):fj C N [cells] vs:=
 ⟨by simp[hl],by simpa using h,h1⟩
theorem II {C:bv}(ar:cb C){N:Nat}{y:z}{fI:Value}{ys:List (List z)}(G:Rep C y fI)(h:jb C.d N y=some ys):
 ∃ ct F,fI= .slice ct ys.length F∧((ct=none∧ys= [])∨ ∃ a vs,ct=some a∧fj C N ys vs∧ ∀ (j:Nat) (u:Value),vs[j]? =some u→C.w.cell? (a.add j)=some u):=by
 cases y
 case bD=>
  simp only[jb] at h;simp at h;subst h;rw[Rep] at G;obtain⟨ct,rfl⟩:=G;cases ct with
  |none=>exact⟨none,0,rfl,.inl ⟨rfl,rfl⟩⟩
  |some a=>exact⟨some a,0,rfl,.inr ⟨a,[],rfl,fj.nil C N,fun j u aT=>by simp at aT⟩⟩
 case pure bt ah=>
  simp only[jb] at h;split at h
  ·rename_i ak;simp at h;subst h;subst ak;rw[Rep] at G;obtain⟨ct,cap,rfl,_,G⟩:=G;refine⟨ct,cap,rfl,?_⟩;rcases G with G|⟨b,L,rfl,_,he⟩
   ·have:ah= []:=List.eq_nil_of_length_eq_zero G;subst this;cases ct with
    |none=>exact .inl ⟨rfl,rfl⟩
    |some a=>exact .inr ⟨a,[],rfl,fj.nil C bt,fun j u aT=>by simp at aT⟩
   ·obtain⟨vs,h1,B⟩:=(cT.nQ b bt L ah he).sm;exact .inr ⟨_,vs,rfl,h1,fun j u aT=>by rw[sg];exact B j u aT⟩
  ·cases h
 case own i n off len=>
  simp only[jb] at h;split at h
  ·rename_i e bt ah hrow;split at h
   ·rename_i V;obtain⟨rfl,aB,sh⟩:=V;simp at h;rw[Rep] at G;obtain⟨_,_,_,G⟩:=G;obtain⟨_,p,ae,ag⟩:=(G e bt ah hrow).2 aB;have PA:ys.length=len:=by rw[←h,List.length_take,List.length_drop];omega
    rcases ar.aa hrow with ⟨hl,iq⟩|⟨b,cap,aj,hl,h1,B,am,bp,cn,dj⟩
    ·rw[ae] at hl;simp at hl;subst hl;simp only[nO] at ag;obtain⟨⟨ct,rfl⟩,_,rfl⟩:=ag;have kS:ys= []:=List.eq_nil_of_length_eq_zero PA;subst kS;cases ct with
     |none=>exact⟨none,0,rfl,.inl ⟨rfl,rfl⟩⟩
     |some a=>exact⟨some a,0,rfl,.inr ⟨a,[],rfl,fj.nil C bt,fun j u aT=>by simp at aT⟩⟩
    ·rw[ae] at hl;simp at hl;subst hl;simp only[nO] at ag;obtain⟨a,F,rfl,_,gT,Z,_,bi⟩:=ag;rw[PA];refine⟨some a,F,rfl,.inr ⟨a,?_⟩⟩
     by_cases aS:len=0
     ·have:ys= []:=List.eq_nil_of_length_eq_zero (by omega);subst this;exact⟨[],rfl,fj.nil C bt,fun j u aT=>by simp at aT⟩
     ·obtain⟨vs,bI,ca⟩:=((dj.drop off).take len).sm;rw[h] at bI;refine⟨vs,rfl,bI,fun j u aT=> ?_⟩;have:=ca j u aT;have aw:a=⟨b,off*bt,none⟩:=by
       obtain⟨x,y,D⟩:=a;simp only at gT Z bi;rw[gT,Z,bi (by omega)]
      rw[aw,sg];simpa using this
   ·cases h
  ·cases h
 all_goals (simp only[jb] at h;cases h)
theorem WV (w:World)(t gM e:TypeId)(c:TypeInfo)(D:Value)(ht:P.underlying t=some (.slice e))(an:P.info? e=some c)(aS:c.zero=some D)(Dk:D.cells.size=c.size)(se:c.bytes≠0)
 (p:Option (Nat×Nat)) (n:Nat) (ai:List Value) (aj:Array Value) (v:Value)
 (ae:match p with|none=>(∃ ct,v= .slice ct 0 0)∧n=0∧ai= []|some (g,cap)=>v= .slice (some ⟨g,0,none⟩) n cap∧w.heap[g]? =some (.cells aj e (0,0))∧aj.size=cap*c.size∧n≤cap∧cap≤maxLen∧aj.toList.take ai.length=ai∧ai.length=n*c.size)
 (a:Addr) (m F:Nat) (vl:List Value) (hl:vl.length=m*c.size) (nW: ∀ j u,vl[j]? =some u→w.cell? (a.add j)=some u) (h1: ∀ u∈vl,u.oneCell'=true) (sD:p=none→0 < m)
 (J7: (n+m)*c.bytes≤140737488355328):
 ∃ eu gQ fX w',(Builtin.append_ #[t,t] gM #[v,.slice (some a) m F]).run P w= .ok (.slice (some ⟨eu,0,none⟩) (n+m) gQ) w'∧w.grownBy w' (p.map (·.1))∧(p.map (·.1)=some eu∨w.heap.size≤eu)∧
  w'.heap[eu]? =some (.cells fX e (0,0))∧fX.size=gQ*c.size∧gQ≤maxLen∧n+m≤gQ∧fX.toList.take (ai++vl).length=ai++vl∧(m=0→p=some (eu,gQ)):=by
 have TJ:n+m≤140737488355328:=Nat.le_trans (Nat.le_mul_of_pos_right _ (by omega)) J7;have arP:n+m≤maxLen:=by simp only[maxLen];omega
 cases p with
 |none=>
  obtain⟨⟨ct,rfl⟩,rfl,rfl⟩:=ae;have hm:=sD rfl;cases ct with
  |some b=>
   have G:=run_append_grow (P:=P) w t gM e c D ht an aS b 0 0 [] (by simp) (by simp) a m F vl hl nW (by omega) (by omega) (growslice_fits (by omega) J7);have Ad:=grownCap_ge w (0+m) 0 e;refine⟨w.heap.size,grownCap w (0+m) 0 e,_,_,G,⟨rfl,rfl,rfl,by simp,fun k I _=> ?_⟩,.inr (Nat.le_refl _),heap_alloc_new w.drew _,?_,grownCap_le_maxLen w (0+m) 0 e (by omega),by omega,?_,fun h=>by omega⟩
   ·exact heap_alloc_old w.drew _ I
   ·simp only[Array.size_append,List.size_toArray,size_zeroCells,Dk,hl,List.length_nil];rw[show 0+m*c.size+(grownCap w (0+m) 0 e-(0+m))*c.size=(m+(grownCap w (0+m) 0 e-(0+m)))*c.size from by rw[Nat.add_mul];omega];congr 1;omega
   ·simp
  |none=>
  have G:=run_append_nil (P:=P) w t gM e c D ht an aS a m F vl hl nW hm (by omega) (by simp only[Nat.zero_add] at J7;omega);have Ad:=grownCap_ge w m 0 e;rw[Nat.zero_add];refine⟨w.heap.size,grownCap w m 0 e,_,_,G,⟨rfl,rfl,rfl,by simp,fun k I _=> ?_⟩,.inr (Nat.le_refl _),heap_alloc_new w.drew _,?_,grownCap_le_maxLen w m 0 e (by omega),by omega,?_,fun h=>by omega⟩
  ·exact heap_alloc_old w.drew _ I
  ·simp only[Array.size_append,List.size_toArray,size_zeroCells,Dk,hl,←Nat.add_mul];congr 1;omega
  ·simp
 |some q=>
  obtain⟨g,cap⟩:=q;obtain⟨rfl,ao,es,I7,Dl,oE,wn⟩:=ae
  by_cases PB:n+m≤cap
  ·have rl:n*c.size+vl.length≤aj.size:=by rw[hl,es,←Nat.add_mul];exact Nat.mul_le_mul_right _ PB
   have G:=run_append_room (P:=P) w t gM e c ht an g n cap aj ao a m F vl hl nW h1 PB rl;refine⟨g,cap,_,_,G,⟨rfl,rfl,rfl,by simp,fun k _ I=>setRow_other w g k _ (fun e=>I (by simp[e]))⟩,.inl rfl,setRow_heap w g aj _ e _ ao,?_,Dl,PB,?_,fun _=>rfl⟩
   ·simp only[List.size_toArray,List.length_append,List.length_take,List.length_drop,Array.length_toList];omega
   ·rw[←wn,oE];exact List.take_left
  ·have holds: ∀ j u,ai[j]? =some u→w.cell? ((⟨g,0,none⟩:Addr).add j)=some u:=fun j u aT=>by
    rw[sg];exact Jy ao oE j u aT
   have G:=run_append_grow (P:=P) w t gM e c D ht an aS ⟨g,0,none⟩ n cap ai wn holds a m F vl hl nW (by omega) (by omega) (growslice_fits (by omega) J7);have Ad:=grownCap_ge w (n+m) cap e;refine⟨w.heap.size,grownCap w (n+m) cap e,_,_,G,⟨rfl,rfl,rfl,by simp,fun k I _=> ?_⟩,.inr (Nat.le_refl _),heap_alloc_new w.drew _,?_,grownCap_le_maxLen w (n+m) cap e arP,Ad,?_,fun h=>by omega⟩
   ·exact heap_alloc_old w.drew _ I
   ·simp only[Array.size_append,List.size_toArray,size_zeroCells,Dk,hl,wn,←Nat.add_mul];congr 1;omega
   ·simp only[Array.toList_append,List.append_assoc];rw[←List.append_assoc];exact List.take_left
theorem WW (w:World)(t gM e:TypeId)(c:TypeInfo)(ht:P.underlying t=some (.slice e))(an:P.info? e=some c)(ct:Option Addr)(n cap F:Nat)(aB:n≤cap):
 (Builtin.append_ #[t,t] gM #[.slice ct n cap,.slice none 0 F]).run P w= .ok (.slice ct n cap) w:=by
 cases ct<;>simp[Builtin.append_,run_underlying ht,sizeOf,typeInfo,an,Builtin.lenOf,aB,Builtin.firstCells,storeCells]
theorem aiZ (ar:cb C){t gM e:TypeId}{c:TypeInfo}{D:Value}(ht:P.underlying t=some (.slice e))(an:P.info? e=some c)(aS:c.zero=some D)(Dk:D.cells.size=c.size)(se:c.bytes≠0)
 {x y:z} {cq fI:Value} (ad:Rep C x cq) (bl:Rep C y fI) (h:tI C.d e c.size c.bytes x y K):
 ∃ aV v av,(Builtin.append_ #[t,t] gM #[cq,fI]).run P C.w= .ok aV av.w∧Rep av v aV∧cb av∧cd C.d.length C av∧K v av.d:=by
 unfold tI at h;split at h
 ·exact h.elim
 rename_i ys kr;obtain⟨ct,F,rfl,wl⟩:=II ar bl kr;split at h
 ·
  obtain⟨Z,I⟩:=h;rw[Rep] at ad;obtain⟨iU,rfl⟩:=ad
  by_cases jq:ys= []
  ·subst jq;have iq:=Ft ar e c.size;refine⟨.slice iU 0 0,_,⟨C.d++ [.aa e c.size []],C.bm++ [none],C.bS,C.w,C.bT⟩,?_,?_,iq.1,iq.2,I⟩
   ·rcases wl with ⟨rfl,_⟩|⟨a,vs,rfl,he,V⟩
    ·exact WW C.w t gM e c ht an iU 0 0 F (Nat.le_refl _)
    ·cases iU<;>simp[Builtin.append_,run_underlying ht,sizeOf,typeInfo,an,Builtin.lenOf,Builtin.firstCells,loadCells,loadCellsFrom,storeCells]
   ·rw[Rep];refine⟨ar.bT,⟨_,_,rfl⟩,by simp,fun cA bt dl h=> ?_⟩;simp at h;obtain⟨rfl,rfl,rfl⟩:=h;exact⟨by simp,fun _=>⟨by simp,none,by simp[←ar.dm],⟨_,rfl⟩,rfl,rfl⟩⟩
  ·rcases wl with ⟨rfl,iq⟩|⟨a,vs,rfl,he,V⟩
   ·exact (jq iq).elim
   ·have ip:0 < ys.length:=List.length_pos_iff.2 jq;obtain⟨eu,gQ,fX,w',r1,cO,fN,eG,rn,F7,vm,J8,WX⟩:=WV (P:=P) C.w t gM e c D ht an aS Dk se none 0 [] #[] (.slice iU 0 0) ⟨⟨_,rfl⟩,rfl,rfl⟩ a ys.length F vs he.length V he.cM (fun _=>ip) (by simpa using Z);rw[Nat.zero_add] at r1 vm;rw[List.nil_append] at J8;simp only[Option.map_none] at cO fN;have J9:C.w.heap.size≤eu:=by rcases fN with fN|fN;cases fN;exact fN
    have iq:=Ft ar e c.size;have hrow: (C.d++ [R.aa e c.size []])[C.d.length]? =some (.aa e c.size []):=by simp
    have oP: (C.bm++ [none])[C.d.length]? =some (none:Option (Nat×Nat)):=by simp[←ar.dm]
    have ly:=ya iq.1 (i:=C.d.length) hrow oP eu gQ fX ys vs w' (by simpa using cO) (.inr J9) eG rn F7 vm (he.ext iq.2.ext) J8 (by simp) (fun h=>by simp at h;omega);refine⟨_,.own C.d.length ys.length 0 ys.length,_,r1,?_,ly.1,(iq.2.trans ly.2 (by simp)),?_⟩
    ·rw[Rep];refine⟨ar.bT,⟨_,_,rfl⟩,by simp,fun cA bt dl h=> ?_⟩;simp at h;obtain⟨rfl,rfl,rfl⟩:=h;exact⟨by simp,fun _=>⟨by simp,some (eu,gQ),by simp[←ar.dm],⟨eu,0,none⟩,gQ,rfl,vm,rfl,rfl,fun _=>⟨rfl,rfl⟩,fun _=>by simp⟩⟩
    ·simpa using I
 ·
  rename_i i n off len;split at h
  ·rename_i cA bt ah hrow;obtain⟨rfl,rfl,aB,rfl,rfl,Z,I⟩:=h;rw[Rep] at ad;obtain⟨_,_,fo,ad⟩:=ad;obtain⟨_,p,ae,ag⟩:=(ad cA c.size ah hrow).2 aB;have gm:i < C.bm.length:=by rw[ar.dm];exact fo
   have nB: ∃ aj ai,fj C c.size ah ai∧(match p with|none=>(∃ ct,cq= .slice ct 0 0)∧len=0∧ai= []|some (g,cap)=>cq= .slice (some ⟨g,0,none⟩) len cap∧C.w.heap[g]? =some (.cells aj cA (0,0))∧aj.size=cap*c.size∧len≤cap∧cap≤maxLen∧aj.toList.take ai.length=ai∧ai.length=len*c.size):=by
    rcases ar.aa hrow with ⟨hl,iq⟩|⟨b,cap,aj,hl,h1,B,am,bp,cn,dj⟩
    ·rw[ae] at hl;simp at hl;subst hl;subst iq;simp only[nO] at ag;exact⟨#[],[],fj.nil C _,ag.1,ag.2.2,rfl⟩
    ·rw[ae] at hl;simp at hl;subst hl;simp only[nO] at ag;obtain⟨a,dH,rfl,aJc,gT,gU,oH,_⟩:=ag;obtain⟨vs,bI,ca⟩:=dj.sm;obtain⟨bi,rfl⟩:=oH trivial;have aw:a=⟨b,0,none⟩:=by
      obtain⟨x,y,D⟩:=a;simp only at gT gU bi;rw[gT,gU,bi]
     subst aw;exact⟨aj,vs,bI,rfl,B,am,aJc,bp,Fd B ca,by rw[bI.length,aB]⟩
   obtain⟨aj,ai,arQ,ce⟩:=nB;have F8: ∃ iU A8,cq= .slice iU len A8∧len≤A8:=by
    cases p with
    |none=>obtain⟨⟨ct,e⟩,bJ,_⟩:=ce;exact⟨ct,0,by rw[e,bJ],by omega⟩
    |some q=>exact⟨_,_,ce.1,ce.2.2.2.1⟩
   obtain⟨iU,A8,F8⟩:=F8;have nothing:ys= []→(Builtin.append_ #[t,t] gM #[cq,.slice ct ys.length F]).run P C.w= .ok cq C.w→ ∃ aV v av,(Builtin.append_ #[t,t] gM #[cq,.slice ct ys.length F]).run P C.w= .ok aV av.w∧Rep av v aV∧cb av∧cd C.d.length C av∧K v av.d:=by
    intro kS qv;subst kS;refine⟨cq,.own i len 0 len,C,qv,?_,ar,cd.refl C,?_⟩
    ·rw[Rep];exact⟨ar.bT,⟨_,_,F8.1⟩,fo,ad⟩
    ·have ly:C.d.set i (.aa cA c.size (ah++ []))=C.d:=by
      rw[List.append_nil];have Ka:C.d[i]= .aa cA c.size ah:=by
       rw[List.getElem?_eq_getElem fo] at hrow;exact Option.some.inj hrow
      rw[←Ka];exact List.set_getElem_self fo
     rw[ly] at I;simpa using I
   rcases wl with ⟨rfl,kS⟩|⟨a,vs,rfl,he,V⟩
   ·refine nothing kS ?_;rw[F8.1,kS];exact WW C.w t gM cA c ht an _ _ _ _ F8.2
   ·by_cases WY:p=none∧ys= []
    ·obtain⟨Dm,kS⟩:=WY;refine nothing kS ?_;subst Dm;subst kS;obtain⟨⟨ct,e⟩,_⟩:=ce;rw[e];cases ct<;>simp[Builtin.append_,run_underlying ht,sizeOf,typeInfo,an,Builtin.lenOf,Builtin.firstCells,loadCells,loadCellsFrom,storeCells]
    ·obtain⟨eu,gQ,fX,w',r1,cO,fN,eG,rn,F7,vm,J8,WX⟩:=WV (P:=P) C.w t gM cA c D ht an aS Dk se p len ai aj cq ce a ys.length F vs he.length V he.cM
      (fun Dm=>List.length_pos_iff.2 fun kS=>WY ⟨Dm,kS⟩) Z
     have ly:=ya ar hrow ae eu gQ fX (ah++ys) (ai++vs) w' cO fN eG rn F7 (by rw[List.length_append,←aB];exact vm) (arQ.append he) J8 (by simp)
      (fun h=>WX (by simp at h;simp[h]))
     refine⟨_,.own i (len+ys.length) 0 (len+ys.length),_,r1,?_,ly.1,ly.2,I⟩;rw[Rep];refine⟨ar.bT,⟨_,_,rfl⟩,by simpa using fo,fun bJ oF ma B=> ?_⟩;simp only[List.getElem?_set,if_true,fo] at B;simp at B;obtain⟨rfl,rfl,rfl⟩:=B;refine⟨by simp[aB],fun _=>⟨by simp,some (eu,gQ),?_,⟨eu,0,none⟩,gQ,rfl,vm,rfl,rfl,fun _=>⟨rfl,rfl⟩,fun _=>by simp⟩⟩;show (C.bm.set i (some (eu,gQ)))[i]? =_;rw[List.getElem?_set,if_pos rfl,if_pos gm]
  ·exact h.elim
 ·exact h.elim
end
end Go.Abs
namespace Go.Abs
variable [Dr]
section
variable {P:Program} {C:bv} {K:z→List R→Prop}
theorem aiT (ar:cb C){t:TypeId}{D:List z}(aS:mJ P t=some D)(h:K (.aW C.d.length 1 0 0) (C.d++ [.aa t D.length [D]])):
 ∃ aV v av,(Instr.alloc t true (.tuple #[])).run P C.w= .ok aV av.w∧Rep av v aV∧cb av∧cd C.d.length C av∧K v av.d:=by
 obtain⟨c,cu,an,jp,lu,hl,ip,dt⟩:=sd aS;obtain⟨bI,ca⟩:=rf (C:=C) lu;have cB:=bI.length;have ae:=Ab ar t D.length 1 cu.cells [D] cu.cells.toList (C.w.alloc (.cells cu.cells t)) ⟨rfl,rfl,rfl,rfl⟩ (by omega) (by simp[maxLen]) (by simp) (CJ rfl bI (uH bI ca)) List.take_length;refine⟨.pointer (some ⟨C.w.heap.size,0,none⟩),_,_,?_,(ar.bT▸J6 ar.dm),ae.1,ae.2,h⟩;simp[Instr.alloc,sf an jp,newVar,newRow]
theorem aiU (ar:cb C){t:TypeId}{n:Nat}{x:z}{cq:Value}(ad:Rep C x cq)(h1: (cf x).length=n)(B: (cf x).all cM=true)
 (h:K (.aW C.d.length 1 0 0) (C.d++ [.aa t n [cf x]])):
 ∃ aV v av,(Instr.box t cq).run P C.w= .ok aV av.w∧Rep av v aV∧cb av∧cd C.d.length C av∧K v av.d:=by
 obtain⟨bI,ca⟩:=Cy ad B;have cB:=bI.length;simp only[Array.length_toList] at cB;have ae:=Ab ar t n 1 cq.cells [cf x] cq.cells.toList (C.w.alloc (.cells cq.cells t)) ⟨rfl,rfl,rfl,rfl⟩ (by omega) (by simp[maxLen]) (by simp) (CJ h1 bI ca) List.take_length;refine⟨.pointer (some ⟨C.w.heap.size,0,none⟩),_,_,?_,(ar.bT▸J6 ar.dm),ae.1,ae.2,h⟩;simp[Instr.box,newVar,newRow]
theorem WZ {w:World}: ∀ (eU:List Field) (O:List (Nat×Nat)),eU.mapM (fun f=>(hN P f.type).map fun n=>(f.offset,n))=some O→
 (eU.mapM (m:=Sem) fun f=>do pure (f.offset,←sizeOf f.type)).run P w= .ok O w
 | [],O,h=>by simp at h;subst h;simp
 |f::eU,O,h=>by
  simp only[List.mapM_cons] at h;cases ak:hN P f.type with
  |none=>simp[ak] at h
  |some n=>
   cases G:eU.mapM (fun f=>(hN P f.type).map fun n=>(f.offset,n)) with
   |none=>simp[ak,G] at h
   |some bW=>
    simp[ak,G] at h;subst h;have ih:=WZ (w:=w) eU bW G;simp only[List.mapM_cons,Sem.run_bind,lZ ak,Result.andThen_ok,Sem.run_pure,ih]
theorem IK (ef:List (Nat×Operand))(ρ:Operand→Value): (ef.map fun p=>(p.1,ρ p.2))=(ef.map (·.1)).zip ((ef.map (·.2)).map ρ):=by
 induction ef with
 |nil=>rfl
 |cons p O ih=>simp[ih]
theorem aiV {t:TypeId}{D:List z}{oL:Array Field}{rm:List (Nat×Nat)}{ef:Array (Nat×Operand)}{ρ:Operand→Value}{vs aj:List z}{w:World}
 (aS:mJ P t=some D) (aZ:P.underlying t=some (.struct oL)) (ae:oL.toList.mapM (fun f=>(hN P f.type).map fun n=>(f.offset,n))=some rm)
 (aw: (ef.toList.map (·.1)).all (fun c=>(rm[c]?).isSome)=true) (G:ay C vs ((ef.toList.map (·.2)).map ρ))
 (hf:nX D ((ef.toList.map (·.1)).filterMap (rm[·]?)) vs=some aj) (h1: (vs.all fun v=>(cf v).all cM)=true):
 ∃ aV,(Instr.build t (ef.map fun (c,x)=>(c,ρ x))).run P w= .ok aV w∧Rep C (.agg aj) aV:=by
 obtain⟨c,cu,an,jp,lu,hl,ip,dt⟩:=sd aS;obtain⟨bI,ca⟩:=rf (C:=C) lu;obtain⟨i,r1,cO,_⟩:=Fg (C:=C) (fun (c:Nat)=>rm[c]?) (ef.toList.map (·.1)) _ vs _ D aj cu.cells rfl aw G hf h1 bI;refine⟨.agg i,?_,by rw[Rep];exact⟨i,rfl,cO⟩⟩;have hm:=WZ (P:=P) (w:=w) oL.toList rm ae;have PC: (oL.mapM (m:=Sem) fun f=>do pure (f.offset,←sizeOf f.type)).run P w= .ok rm.toArray w:=by
  rw[Array.mapM_eq_mapM_toList];simp only[Sem.run_map,hm,Result.andThen_ok]
 have sn: (ef.map fun (c,x)=>(c,ρ x)).toList=(ef.toList.map (·.1)).zip ((ef.toList.map (·.2)).map ρ):=by
  rw[Array.toList_map];exact IK _ _
 simp only[Instr.build,Sem.run_bind,sf an jp,Result.andThen_ok,run_underlying aZ,PC];have: (fun (x:Nat)=>rm.toArray[x]?)=fun (c:Nat)=>rm[c]? :=by funext x;simp
 rw[sn,this,r1];simp
theorem aiX (ar:cb C){t e:TypeId}{D:List z}{len:Nat}{ef:Array (Nat×Operand)}{ρ:Operand→Value}{vs:List z}{al:List (List z)}
 (aZ:P.underlying t=some (.slice e)) (aS:mJ P e=some D) (cB:len*D.length≤16777216)
 (G:ay C vs ((ef.toList.map (·.2)).map ρ)) (hf:ob (List.replicate len D) D.length (ef.toList.map (·.1)) vs=some al) (h1: (vs.all fun v=>(cf v).all cM)=true)
 (h:K (.own C.d.length len 0 len) (C.d++ [.aa e D.length al])):
 ∃ aV v av,(Instr.buildSlice t len (ef.map fun (c,x)=>(c,ρ x))).run P C.w= .ok aV av.w∧Rep av v aV∧cb av∧cd C.d.length C av∧K v av.d:=by
 obtain⟨c,cu,an,jp,lu,hl,ip,dt⟩:=sd aS;obtain⟨bI,ca⟩:=rf (C:=C) lu;have bi:=uH bI ca;obtain⟨et,hO,f3⟩:=OF _ vs _ al hf (by intro x ad;rw[List.eq_of_mem_replicate ad]);rw[List.length_replicate] at f3;have jq:ay C (List.replicate len D).flatten (List.replicate len cu.cells.toList).flatten∧iH (List.replicate len cu.cells.toList).flatten:=by
  clear hf et f3 cB h
  induction len with
  |zero=>simp[ay,iH]
  |succ n ih=>
   rw[List.replicate_succ,List.replicate_succ,List.flatten_cons,List.flatten_cons];refine⟨bI.append ih.1,fun v ag=> ?_⟩;rcases List.mem_append.1 ag with ag|ag
   ·exact bi v ag
   ·exact ih.2 v ag
 have Ao:c.size=D.length:=hl.symm;have vY: ((Array.range (len*c.size)).map (cu.cells[·%cu.cells.size]!)).toList=(List.replicate len cu.cells.toList).flatten:=by
  rw[←dt];exact Aa cu.cells len
 obtain⟨i,r1,cO,fN⟩:=Fg (C:=C) (fun j=>some (j*D.length,D.length)) (ef.toList.map (·.1)) ((ef.toList.map (·.1)).map fun j=>(j*D.length,D.length)) vs _ _ al.flatten
  ((Array.range (len*c.size)).map (cu.cells[·%cu.cells.size]!)) (by rw[←List.filterMap_eq_map];rfl) (by simp) G et h1 (by rw[vY];exact jq.1)
 have eG:=fN (by rw[vY];exact jq.2);have tr:fj C D.length al i.toList:=⟨hO,cO,eG⟩;have fo:=tr.length;simp only[Array.length_toList] at fo;have Jv:len≤maxLen:=by
  have:len≤len*D.length:=Nat.le_mul_of_pos_right _ (by omega);simp only[maxLen];omega
 have ae:=Ab ar e D.length len i al i.toList (C.w.alloc (.cells i e)) ⟨rfl,rfl,rfl,rfl⟩ (by rw[fo,f3]) Jv (by omega) tr List.take_length;refine⟨.slice (some ⟨C.w.heap.size,0,none⟩) len len,.own C.d.length len 0 len,_,?_,?_,ae.1,ae.2,h⟩
 ·have sn: (ef.map fun (c,x)=>(c,ρ x)).toList=(ef.toList.map (·.1)).zip ((ef.toList.map (·.2)).map ρ):=by
   rw[Array.toList_map];exact IK _ _
  have rh: (sizeOf e).run P C.w= .ok c.size C.w:=by simp[sizeOf,typeInfo,an]
  rw[←Ao] at r1 cB;simp only[Instr.buildSlice,Sem.run_bind,run_underlying aZ,Result.andThen_ok,rh,Sem.run_ite];rw[if_neg (by omega)]
  by_cases h0:len*c.size=0
  ·have arR:len=0:=by
    rcases Nat.mul_eq_zero.1 h0 with h|h
    ·exact h
    ·omega
   subst arR;have arS:Array.map (fun x=>cu.cells[x%cu.cells.size]!) (Array.range (0*c.size))= #[]:=by simp
   have AU:Array.map (fun x=>(#[]:Array Value)[x%(#[]:Array Value).size]!) (Array.range (0*c.size))= #[]:=by simp
   rw[arS] at r1;rw[if_pos h0];simp only[Sem.run_pure,Result.andThen_ok];rw[AU,sn,r1];simp[newRow]
  ·simp only[h0,if_false,Sem.run_bind,sf an jp,Sem.run_pure,Result.andThen_ok];rw[sn,r1];simp[newRow]
 ·have:=Ix (d:=C.d) (bm:=C.bm) (bS:=C.bS) (w:=C.w.alloc (.cells i e)) (e:=e) (N:=D.length) (b:=C.w.heap.size) (cap:=len) (ah:=al) ar.dm (by omega);rw[f3] at this;rw[ar.bT];exact this
end
end Go.Abs
namespace Go.Abs
variable [Dr]
section
variable {P:Program} {C:bv} {K:z→List R→Prop}
theorem aid (ar:cb C){t e:TypeId}{D:List z}{jG:Nat}(aZ:P.underlying t=some (.slice e))(aS:mJ P e=some D)(Z: (P.info? e).map (·.bytes)=some jG)
 {k bo:IntKind} {l F:Int} (h1:0≤l) (B:l≤F) (am:F*jG≤140737488355328) (bp:F≤140737488355328)
 (h:K (.own C.d.length l.toNat 0 l.toNat) (C.d++ [.aa e D.length (List.replicate l.toNat D)])):
 ∃ aV v av,(Instr.makeSlice t (.int k l) (.int bo F)).run P C.w= .ok aV av.w∧Rep av v aV∧cb av∧cd C.d.length C av∧K v av.d:=by
 obtain⟨c,cu,an,jp,lu,hl,ip,dt⟩:=sd aS;obtain⟨bI,ca⟩:=rf (C:=C) lu;have bi:=uH bI ca;have se:c.bytes=jG:=by simpa[an] using Z
 subst se;have jq: ∀ n,ay C (List.replicate n D).flatten (List.replicate n cu.cells.toList).flatten∧iH (List.replicate n cu.cells.toList).flatten:=by
  intro n
  induction n with
  |zero=>simp[ay,iH]
  |succ n ih=>
   rw[List.replicate_succ,List.replicate_succ,List.flatten_cons,List.flatten_cons];refine⟨bI.append ih.1,fun v ag=> ?_⟩;rcases List.mem_append.1 ag with ag|ag
   ·exact bi v ag
   ·exact ih.2 v ag
 have vY: ((Array.range (F.toNat*c.size)).map (cu.cells[·%cu.cells.size]!)).toList=(List.replicate F.toNat cu.cells.toList).flatten:=by
  rw[←dt];exact Aa cu.cells F.toNat
 have es: ((Array.range (F.toNat*c.size)).map (cu.cells[·%cu.cells.size]!)).size=F.toNat*D.length:=by simp[hl]
 have tr:fj C D.length (List.replicate l.toNat D) (List.replicate l.toNat cu.cells.toList).flatten:=
  ⟨fun x ad=>by rw[List.eq_of_mem_replicate ad],(jq _).1,(jq _).2⟩
 have oE: ((Array.range (F.toNat*c.size)).map (cu.cells[·%cu.cells.size]!)).toList.take (List.replicate l.toNat cu.cells.toList).flatten.length=(List.replicate l.toNat cu.cells.toList).flatten:=by
  rw[vY,show F.toNat=l.toNat+(F.toNat-l.toNat) from by omega,←List.replicate_append_replicate,List.flatten_append];exact List.take_left
 have ae:=Ab ar e D.length F.toNat _ (List.replicate l.toNat D) _ (C.w.alloc (.cells ((Array.range (F.toNat*c.size)).map (cu.cells[·%cu.cells.size]!)) e)) ⟨rfl,rfl,rfl,rfl⟩ es (by simp only[maxLen];omega) (by simp;omega) tr oE;refine⟨.slice (some ⟨C.w.heap.size,0,none⟩) l.toNat F.toNat,.own C.d.length l.toNat 0 l.toNat,_,?_,?_,ae.1,ae.2,h⟩
 ·have E2:IntKind.i64.wrap l=l:=by simp only[IntKind.wrap,IntKind.bits,IntKind.signed];simp;omega
  have wc:IntKind.i64.wrap F=F:=by simp only[IntKind.wrap,IntKind.bits,IntKind.signed];simp;omega
  have rh: (sizeOf e).run P C.w= .ok c.size C.w:=by simp[sizeOf,typeInfo,an]
  have Nk: (typeInfo e).run P C.w= .ok c C.w:=by simp[typeInfo,an]
  have ri: (c.bytes:Int)*F≤140737488355328:=by rw[Int.mul_comm];exact am
  have E3:decide (F < 0)=false:=by simp;omega
  have Iv:decide ((281474976710656:Int) < c.bytes*F)=false:=by simp;omega
  have t3:decide (l < 0)=false:=by simp;omega
  have t4:decide (F < l)=false:=by simp;omega
  simp only[Instr.makeSlice,Sem.run_bind,run_underlying aZ,Result.andThen_ok,asInt,asIntOf,Sem.run_pure,Nk,E2,wc];have Iw: ¬((decide (F < 0)||decide ((c.bytes:Int)*F>2^48)||decide (l < 0)||decide (l>F))=true):=by
   simp;omega
  rw[if_neg Iw];simp only[Sem.run_bind,run_askRoom,Result.andThen_ok,rh,Sem.run_pure,Sem.run_ite]
  by_cases h0:F.toNat*c.size=0
  ·have Ac:F.toNat=0:=by
    rcases Nat.mul_eq_zero.1 h0 with h|h
    ·exact h
    ·omega
   rw[if_pos h0];have hM:Array.range 0= #[]:=rfl;simp[Ac,newRow,hM]
  ·rw[if_neg h0];simp[sf an jp,newRow]
 ·have:=Ix (d:=C.d) (bm:=C.bm) (bS:=C.bS) (w:=C.w.alloc (.cells ((Array.range (F.toNat*c.size)).map (cu.cells[·%cu.cells.size]!)) e)) (e:=e) (N:=D.length) (b:=C.w.heap.size) (cap:=F.toNat) (ah:=List.replicate l.toNat D) ar.dm (by simp;omega);rw[ar.bT];simpa using this
theorem aie (w:World)(t u gM e:TypeId)(c:TypeInfo)(D:Value)(ht:P.underlying t=some (.slice e))(aZ:P.underlying u=some (.int .i64))(an:P.info? e=some c)(aS:c.zero=some D)(ak:0 < c.size)(se:c.bytes≠0)
 (ct:Option Addr) (k:IntKind) (n:Nat) (h0:0 < n) (Nl:n*c.bytes≤140737488355328):
 (Builtin.append_ #[t,u] gM #[.slice ct 0 0,.int k n]).run P w=
  .ok (.slice (some ⟨w.heap.size,0,none⟩) n (grownCap w n 0 e)) (w.drew.alloc (.cells (Builtin.zeroCells D.cells n++Builtin.zeroCells D.cells (grownCap w n 0 e-n)) e)):=by
 have TJ:n≤140737488355328:=Nat.le_trans (Nat.le_mul_of_pos_right _ (by omega)) Nl;have E2:IntKind.i64.wrap (n:Int)=n:=by simp only[IntKind.wrap,IntKind.bits,IntKind.signed];simp;omega
 have aB:n≠0:=by omega
 have aif: ¬(9223372036854775807 < (n:Int)):=by omega
 have Iy: ¬(281474976710656 < Builtin.nextslicecap n 0*c.bytes):=by rw[nextslicecap_zero h0];omega
 have aig: ¬((281474976710656:Int) < (n:Int)*(c.bytes:Int)):=by
  have: ((n*c.bytes:Nat):Int)≤140737488355328:=by omega
  rw[Int.natCast_mul] at this;omega
 have aih: ¬((n:Int) < 0):=by omega
 have ts: ¬(n*c.size=0):=by
  intro h;rcases Nat.mul_eq_zero.1 h with h|h<;>omega
 have nR: ¬(c.size=0):=by omega
 cases ct<;>simp[Builtin.append_,run_underlying ht,run_underlying aZ,sizeOf,typeInfo,zeroValue,an,aS,asInt,asIntOf,E2,aB,ts,nR,aih,aif,Iy,aig,Question.forced,Builtin.firstCells,loadCells,loadCellsFrom,newRow,grownCap,run_askRoom]
theorem aii (ar:cb C){t u gM e:TypeId}{D:List z}{jG:Nat}(ht:P.underlying t=some (.slice e))(aZ:P.underlying u=some (.int .i64))(aS:mJ P e=some D)(Z: (P.info? e).map (·.bytes)=some jG)(lY:jG≠0)
 {cq:Value} {k:IntKind} {n:Int} (ad:Rep C .bD cq) (h0:0 < n) (Nl:n*jG≤140737488355328)
 (h:K (.own C.d.length n.toNat 0 n.toNat) (C.d++ [.aa e D.length (List.replicate n.toNat D)])):
 ∃ aV v av,(Builtin.append_ #[t,u] gM #[cq,.int k n]).run P C.w= .ok aV av.w∧Rep av v aV∧cb av∧cd C.d.length C av∧K v av.d:=by
 obtain⟨c,cu,an,jp,lu,hl,ip,dt⟩:=sd aS;obtain⟨bI,ca⟩:=rf (C:=C) lu;have bi:=uH bI ca;have se:c.bytes=jG:=by simpa[an] using Z
 subst se;obtain⟨m,rfl⟩: ∃ m:Nat,n=m:=⟨n.toNat,by omega⟩;have Iy:m*c.bytes≤140737488355328:=by
  have: ((m*c.bytes:Nat):Int)≤140737488355328:=by rw[Int.natCast_mul];exact Nl
  omega
 rw[Int.toNat_natCast] at h;rw[Rep] at ad;obtain⟨ct,rfl⟩:=ad;have jq: ∀ n,ay C (List.replicate n D).flatten (List.replicate n cu.cells.toList).flatten∧iH (List.replicate n cu.cells.toList).flatten:=by
  intro n
  induction n with
  |zero=>simp[ay,iH]
  |succ n ih=>
   rw[List.replicate_succ,List.replicate_succ,List.flatten_cons,List.flatten_cons];refine⟨bI.append ih.1,fun v ag=> ?_⟩;rcases List.mem_append.1 ag with ag|ag
   ·exact bi v ag
   ·exact ih.2 v ag
 have Iz: ∀ n,(Builtin.zeroCells cu.cells n).toList=(List.replicate n cu.cells.toList).flatten:=fun n=>by unfold Builtin.zeroCells;exact Aa cu.cells n
 have Ad:=grownCap_ge C.w m 0 e;have TJ:m≤140737488355328:=Nat.le_trans (Nat.le_mul_of_pos_right _ (by omega)) Iy;have qv:=aie (P:=P) C.w t u gM e c cu ht aZ an jp ip lY ct k m (by omega) Iy;have tr:fj C D.length (List.replicate m D) (List.replicate m cu.cells.toList).flatten:=
  ⟨fun x ad=>by rw[List.eq_of_mem_replicate ad],(jq _).1,(jq _).2⟩
 have es: (Builtin.zeroCells cu.cells m++Builtin.zeroCells cu.cells (grownCap C.w m 0 e-m)).size=grownCap C.w m 0 e*D.length:=by
  simp only[Array.size_append,size_zeroCells,dt,hl,←Nat.add_mul];congr 1;omega
 have ae:=Ab ar e D.length (grownCap C.w m 0 e) _ (List.replicate m D) _ (C.w.drew.alloc (.cells (Builtin.zeroCells cu.cells m++Builtin.zeroCells cu.cells (grownCap C.w m 0 e-m)) e)) ⟨rfl,rfl,rfl,rfl⟩ es (grownCap_le_maxLen C.w m 0 e (by simp only[maxLen];omega)) (by simp;omega) tr
  (by rw[Array.toList_append,Iz];exact List.take_left)
 refine⟨_,.own C.d.length m 0 m,_,qv,?_,ae.1,ae.2,h⟩;have:=Ix (d:=C.d) (bm:=C.bm) (bS:=C.bS) (w:=C.w.drew.alloc (.cells (Builtin.zeroCells cu.cells m++Builtin.zeroCells cu.cells (grownCap C.w m 0 e-m)) e)) (e:=e) (N:=D.length) (b:=C.w.heap.size) (cap:=grownCap C.w m 0 e) (ah:=List.replicate m D) ar.dm (by simp;omega);rw[ar.bT];simpa using this
theorem aij (ar:cb C){t e:TypeId}{n:Nat}(aZ:P.underlying t=some (.slice e))(ak:hN P e=some n){x y:z}{cq fI:Value}(ad:Rep C x cq)(bl:Rep C y fI)
 (h:vZ C.d n x y fun v=>K v C.d): ∃ aV v,(Instr.indexAt t cq fI).run P C.w= .ok aV C.w∧Rep C v aV∧K v C.d:=by
 unfold vZ at h;split at h
 ·rename_i bt ah k c;obtain⟨rfl,h0,h1,I⟩:=h;simp only[Rep] at ad bl;subst bl;obtain⟨ct,cap,rfl,_,G⟩:=ad;rcases G with G|⟨b,L,rfl,Z,he⟩
  ·omega
  ·have an:c.toNat < ah.length:=by omega
   obtain⟨g1,bM⟩:=he.nS c.toNat an;refine⟨.pointer (some ⟨b,L+c.toNat*bt,none⟩),_,?_,?_,I⟩
   ·simp[Instr.indexAt,asIntOf,run_underlying aZ,h0,h1,lZ ak,sg]
   ·rw[Rep];exact⟨b,L+c.toNat*bt,rfl,Z,bM⟩
 ·rename_i i m off len k c;split at h
  ·rename_i cA bt ah hrow;obtain⟨rfl,aB,h0,h1,I⟩:=h;rw[Rep] at bl;subst bl;have rj:=ad;rw[Rep] at ad;obtain⟨_,_,fo,ad⟩:=ad;obtain⟨sh,p,ae,ag⟩:=(ad cA bt ah hrow).2 aB;rcases ar.aa hrow with ⟨hl,iq⟩|⟨b,cap,aj,hl,bI,ca,fc,hi,jr,js⟩
   ·subst iq;simp at aB;omega
   ·rw[ae] at hl;simp at hl;subst hl;simp only[nO] at ag;obtain⟨a,F,rfl,_,gT,gU,_,bi⟩:=ag;have aw:a=⟨b,off*bt,none⟩:=by
     obtain⟨x,y,D⟩:=a;simp only at gT gU bi;rw[gT,gU,bi (by omega)]
    subst aw;refine⟨.pointer (some ⟨b,off*bt+c.toNat*bt,none⟩),_,?_,?_,I⟩
    ·simp[Instr.indexAt,asIntOf,run_underlying aZ,h0,h1,lZ ak,sg]
    ·rw[Rep];refine⟨ar.bT,⟨_,rfl⟩,fo,fun bJ oF ma B=> ?_⟩;rw[hrow] at B;simp at B;obtain⟨rfl,rfl,rfl⟩:=B;exact⟨by omega,fun _=>⟨by omega,b,cap,ae,by rw[Nat.add_mul];rfl⟩⟩
  ·exact h.elim
 ·exact h.elim
theorem TK {len cap:Nat}{fk an:Option Value}{k bo:IntKind}{a b:Int}{w:World}(mK:fk=some (.int k a)∨(fk=none∧a=0))(wa:an=some (.int bo b)∨(an=none∧b=len))
 (h0:0≤a) (h1:a≤b) (B:b≤cap) (aik:Bool): (Instr.sliceBounds aik len cap fk an none).run P w= .ok (a.toNat,b.toNat,cap) w:=by
 have oG:a≤(b.toNat:Int):=by omega
 rcases mK with rfl|⟨rfl,rfl⟩<;>rcases wa with rfl|⟨rfl,rfl⟩<;>
  simp only[Instr.sliceBounds,Instr.sliceBound,asIntOf,Sem.run_bind,Sem.run_pure,Result.andThen_ok,Sem.run_ite]
 ·rw[if_pos ⟨by omega,B⟩];simp only[Result.andThen_ok];rw[if_pos ⟨h0,oG⟩];rfl
 ·rw[if_pos ⟨h0,by omega⟩];simp
 ·rw[if_pos ⟨by omega,B⟩];simp
 ·simp
theorem ail {t e:TypeId}{n:Nat}{x:z}{cq:Value}{fk an:Option z}{si sj:Option Value}(ad:Rep C x cq)
 (aZ:P.underlying t=some (.slice e)) (ak:hN P e=some n)
 (mK: (∃ l fU,fk=some l∧si=some fU∧Rep C l fU)∨(fk=none∧si=none)) (wa: (∃ l fU,an=some l∧sj=some fU∧Rep C l fU)∨(an=none∧sj=none))
 (h:pA C.d fk an n x fun v=>K v C.d): ∃ aV v,(Instr.sliceAt t cq si sj none).run P C.w= .ok aV C.w∧Rep C v aV∧K v C.d:=by
 unfold pA at h;split at h
 ·exact h.elim
 rename_i l hl;split at h
 ·rename_i Nm a Nn b ee wb;obtain⟨h0,h1,B,I⟩:=h;have No:si=some (.int Nm a)∨(si=none∧a=0):=by
   rcases mK with ⟨x,fU,rfl,rfl,G⟩|⟨rfl,rfl⟩
   ·simp at ee;subst ee;rw[Rep] at G;subst G;exact .inl rfl
   ·simp at ee;exact .inr ⟨rfl,ee.2.symm⟩
  have Np:sj=some (.int Nn b)∨(sj=none∧b=l):=by
   rcases wa with ⟨x,fU,rfl,rfl,G⟩|⟨rfl,rfl⟩
   ·simp at wb;subst wb;rw[Rep] at G;subst G;exact .inl rfl
   ·simp at wb;exact .inr ⟨rfl,wb.2.symm⟩
  have IA: ∀ {ct:Option Addr} {cap:Nat},l≤cap→
   (Instr.sliceAt t (.slice ct l cap) si sj none).run P C.w= .ok (.slice (if cap=a.toNat then ct else ct.map (·.add (a.toNat*n))) (b.toNat-a.toNat) (cap-a.toNat)) C.w:=by
   intro ct cap V;simp[Instr.sliceAt,Instr.slice,run_underlying aZ,TK (P:=P) (w:=C.w) (cap:=cap) No Np h0 h1 (by omega) true,lZ ak]
  cases x<;>simp only at I
  case pure bt ah=>
   obtain⟨rfl,I⟩:=I;simp[sk] at hl;subst hl;rw[Rep] at ad;obtain⟨ct,cap,rfl,ed,G⟩:=ad;refine⟨_,_,IA ed,?_,I⟩;rw[Rep];have cB: ((ah.drop a.toNat).take (b.toNat-a.toNat)).length=b.toNat-a.toNat:=by rw[List.length_take,List.length_drop];omega
   refine⟨_,_,by rw[cB],by rw[cB];omega,?_⟩;rcases G with G|⟨uI,L,rfl,Z,he⟩
   ·exact .inl (by rw[cB];omega)
   ·by_cases aS:b.toNat-a.toNat=0
    ·exact .inl (by rw[cB];exact aS)
    ·right
     refine⟨uI,L+a.toNat*bt,?_,Z,(he.drop a.toNat).take _⟩;rw[if_neg (by omega)];simp[sg]
  case bD=>
   simp[sk] at hl;subst hl;rw[Rep] at ad;obtain⟨ct,rfl⟩:=ad;have aw:a.toNat=0:=by omega
   have Z:b.toNat=0:=by omega
   refine⟨_,_,IA (Nat.le_refl _),?_,I⟩;rw[Rep,aw,Z];exact⟨_,rfl⟩
  case own i m off len=>
   simp[sk] at hl;subst hl;split at I
   ·rename_i cA bt ah hrow;obtain⟨rfl,aB,I⟩:=I;rw[Rep] at ad;obtain⟨gV,_,fo,ad⟩:=ad;obtain⟨sh,p,ae,ag⟩:=(ad cA bt ah hrow).2 aB;cases p with
    |none=>
     simp only[nO] at ag;obtain⟨⟨ct,rfl⟩,rfl,rfl⟩:=ag;have aw:a.toNat=0:=by omega
     have Z:b.toNat=0:=by omega
     refine⟨_,_,IA (Nat.le_refl _),?_,I⟩;rw[Rep,aw,Z];refine⟨gV,⟨_,_,rfl⟩,fo,fun bJ oF ma B=>⟨(ad bJ oF ma B).1,fun _=>⟨by omega,none,ae,?_⟩⟩⟩;simp[nO]
    |some q=>
     obtain⟨Nq,cap⟩:=q;simp only[nO] at ag;obtain⟨dB,F,rfl,aJc,gT,gU,oH,bi⟩:=ag;refine⟨_,_,IA aJc,?_,I⟩;rw[Rep];refine⟨gV,⟨_,_,rfl⟩,fo,fun bJ oF ma B=>⟨(ad bJ oF ma B).1,fun _=>⟨by omega,_,ae,?_⟩⟩⟩;rw[hrow] at B;simp at B;obtain⟨rfl,rfl,rfl⟩:=B;simp only[nO]
     by_cases nT:F=a.toNat
     ·rw[if_pos nT];refine⟨dB,_,rfl,by omega,gT,gU,fun aS=> ?_,fun aS=>by omega⟩;obtain⟨g1,bM⟩:=oH (by omega);exact⟨g1,by omega⟩
     ·rw[if_neg nT];have kn:dB.add (a.toNat*bt)=⟨Nq,dB.off+a.toNat*bt,none⟩:=by
       obtain⟨x,y,D⟩:=dB;simp only at gT gU;subst gT;subst gU;exact sg _ _ _
      refine⟨_,_,by rw[Option.map_some,kn],by omega,rfl,rfl,fun aS=> ?_,fun aS=> ?_⟩
      ·obtain⟨g1,bM⟩:=oH (by omega);have aw:a.toNat=0:=by omega
       simp[aw,g1,bM]
      ·show dB.off+a.toNat*bt=_;rw[bi (by omega),Nat.add_mul]
   ·exact I.elim
  all_goals exact I.elim
 ·exact h.elim
theorem aim {t:TypeId}{x:z}{cq:Value}{fk an:Option z}{si sj:Option Value}(ad:Rep C x cq)(aZ:P.underlying t=some .string)
 (mK: (∃ l fU,fk=some l∧si=some fU∧Rep C l fU)∨(fk=none∧si=none)) (wa: (∃ l fU,an=some l∧sj=some fU∧Rep C l fU)∨(an=none∧sj=none))
 (h:tt fk an x fun v=>K v C.d): ∃ aV v,(Instr.sliceAt t cq si sj none).run P C.w= .ok aV C.w∧Rep C v aV∧K v C.d:=by
 unfold tt at h;split at h
 ·rename_i E;split at h
  ·rename_i Nm a Nn b ee wb;obtain⟨h0,h1,B,I⟩:=h;rw[Rep] at ad;subst ad;have No:si=some (.int Nm a)∨(si=none∧a=0):=by
    rcases mK with ⟨x,fU,rfl,rfl,G⟩|⟨rfl,rfl⟩
    ·simp at ee;subst ee;rw[Rep] at G;subst G;exact .inl rfl
    ·simp at ee;exact .inr ⟨rfl,ee.2.symm⟩
   have Np:sj=some (.int Nn b)∨(sj=none∧b=E.size):=by
    rcases wa with ⟨x,fU,rfl,rfl,G⟩|⟨rfl,rfl⟩
    ·simp at wb;subst wb;rw[Rep] at G;subst G;exact .inl rfl
    ·simp at wb;exact .inr ⟨rfl,wb.2.symm⟩
   refine⟨.string (E.extract a.toNat b.toNat),_,?_,?_,I⟩
   ·simp[Instr.sliceAt,Instr.slice,run_underlying aZ,TK (P:=P) (w:=C.w) (cap:=E.size) No Np h0 h1 B false]
   ·rw[Rep]
  ·exact h.elim
 ·exact h.elim
end
end Go.Abs
