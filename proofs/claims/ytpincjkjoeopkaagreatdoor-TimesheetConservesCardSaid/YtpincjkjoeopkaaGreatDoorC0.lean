/- The abstract machine. -/
import Derived.WalkKit
set_option linter.all false
namespace Go.Abs
set_option linter.defProp false
def S:= @if_neg
def Rc:= @if_pos
def aKI:= @congrArg
def aKJ:= @Bool.and_eq_true
def aKK:= @List.length_append
def aKL:= @Eq.trans
def aKM:= @Nat.le_refl
def aKN:= @decide_eq_true_eq
def aKP:= @List.map_cons
def aKQ:= @List.getElem?_set
def aKR:= @and_assoc
def aKS:= @List.getElem?_eq_getElem
def aKT:= @List.append_assoc
def aKV:= @List.mem_cons
def aKX:= @Int.toNat_natCast
def aKZ:= @List.mem_map
def aK0:= @Bool.and_true
def aK1:= @List.mem_cons_of_mem
def aK2:= @List.mem_singleton
def aK3:= @List.mem_append
def aK4:= @Bool.and_self
def aK5:= @if_true
def aK8:= @List.length_cons
def aK9:= @List.getElem?_append
def aLa:= @List.mem_cons_self
def aLb:= @List.take_length
def aLc:= @List.getElem_mem
def aLd:= @List.length_take
def aLe:= @List.length_map
def aLf:= @decide_eq_true
def aLg:= @List.length_set
def aLh:= @decide_eq_false
def aLi:= @if_false
def aLj:= @Option.some.injEq
def aLk:= @Nat.le_trans
def aLn:= @List.getD_eq_getElem?_getD
def aLp:= @Array.getElem?_eq_some_iff
def aLr:= @List.map_map
def aLt:= @List.length_drop
def aLu:= @beq_iff_eq
def aLw:= @Bool.true_and
def aLx:= @List.cons_append
def aLy:= @List.getElem?_eq_some_iff
def aLz:= @List.take_succ_eq_append_getElem
def aLB:= @List.getElem?_eq_none
def aLC:= @List.map_nil
def aLD:= @List.pairwise_cons
def aLE:= @Array.length_toList
def aLF:= @List.drop_length
def aLG:= @List.getElem?_map
def aLH:= @Prod.mk.injEq
def aLI:= @Nat.lt_of_lt_of_le
def aLJ:= @Array.getElem?_toList
def aLK:= @Bool.false_eq_true
def aLM:= @Nat.add_mul
def aLN:= @Array.getElem?_eq_getElem
def aLO:= @beq_eq_false_iff_ne
def aLP:= @Bool.or_eq_true
def aLQ:= @List.length_nil
def aLS:= @List.flatten_cons
def aLT:= @List.ext_getElem?
def aLU:= @List.map_append
def aLV:= @List.nil_append
def aLW:= @List.all_eq_true
def aLX:= @decide_eq_false_iff_not
def aLY:= @List.append_nil
def aLZ:= @List.take_of_length_le
def aL0:= @Bool.eq_iff_iff
def aL4:= @List.drop_eq_getElem_cons
def aL5:= @Nat.zero_add
def aL6:= @List.length_singleton
def aL9:= @List.getElem_of_mem
def aMa:= @List.mem_append_left
def aMb:= @List.foldl_cons
def aMc:= @List.foldl_append
def aMe:= @Int.le_refl
def aMf:= @List.sum_cons
def aMh:= @true_and
def aMi:= @and_true
def aMj:= @List.mem_range
def aMl:= @List.mem_of_mem_take
def aMm:= @bne_self_eq_false
def aMn:= @Int.tdiv_eq_ediv_of_nonneg
def aMo:= @List.pairwise_append
def aMt:= @List.take_append_drop
def aMu:= @List.mem_singleton_self
def aMw:= @Array.getElem?_modify
def aMx:= @not_true_eq_false
def aMy:= @List.map_congr_left
def aMz:= @List.length_replicate
def aMA:= @List.mem_of_getElem?
def aMB:= @List.pairwise_map
def aMC:= @Int.tmod_eq_emod_of_nonneg
def aME:= @List.replicate_succ
def aMF:= @Nat.mul_le_mul_right
def aMG:= @List.size_toArray
def aMH:= @Bool.not_eq_true'
def aMI:= @false_iff
def aML:= @Option.map_some
def aMM:= @List.drop_drop
def aMN:= @List.all_cons
def aMO:= @List.getElem?_take
def aMP:= @List.take_add_one
def aMQ:= @List.nodup_nil
def aMR:= @List.flatMap_cons
def aMS:= @List.flatMap_append
def aMU:= @List.getElem?_range
def aMV:= @List.mem_of_mem_drop
def aMW:= @Option.getD_some
def aMX:= @false_or
def aMY:= @Option.some.inj
def aMZ:= @Function.comp_apply
def aM0:= @List.find?_cons
def aM1:= @List.mem_flatMap
def aM2:= @List.mem_map_of_mem
def aM5:= @List.flatten_append
def aM6:= @List.take_left
def aM7:= @Array.toList_inj
def aM8:= @List.nodup_range
def aM9:= @Nat.add_assoc
def aNa:= @Nat.lt_or_ge
def aNb:= @List.mem_append_right
def aNc:= @of_decide_eq_true
def aNd:= @Bool.false_or
def aNe:= @Nat.sub_self
def aNf:= @List.not_mem_nil
def aNg:= @List.mem_filter
def aNm:= @List.eq_nil_of_length_eq_zero
def aNn:= @Nat.mul_one
def aNo:= @bne_iff_ne
def aNp:= @List.any_eq_true
def aNq:= @List.drop_of_length_le
def aNr:= @List.drop_zero
def aNs:= @Nat.le_add_right
def aNt:= @or_false
def aNu:= @Option.toList_some
def aNv:= @List.nodup_cons
def aNw:= @List.length_filter_le
def aNx:= @decide_true
def aNy:= @List.getElem?_append_right
def aNE:= @Nat.le_succ
def aNF:= @beq_self_eq_true
def aNG:= @Option.map_none
def aNH:= @List.mapM_cons
def aNI:= @Nat.mod_eq_of_lt
def aNJ:= @Nat.eq_zero_or_pos
def aNK:= @List.Perm.refl
def aNL:= @List.length_pos_iff
def aNM:= @List.eq_nil_or_concat
def aNN:= @List.concat_eq_append
def aNO:= @List.sum_append
def aNP:= @List.nodup_append
def aNQ:= @List.filter_cons_of_neg
def aNY:= @List.eq_of_mem_replicate
def aNZ:= @List.mem_or_eq_of_mem_set
def aN0:= @dif_pos
def aN1:= @true_iff
def aN2:= @List.mem_filterMap
def aN3:= @BitVec.toNat_ofNat
def aN4:= @List.pairwise_iff_getElem
def aN5:= @List.length_eq_zero_iff
def aN6:= @List.range'_succ
def aN7:= @List.mergeSort_perm
def aN8:= @Int.add_zero
def aN9:= @forall_eq_or_imp
def aOa:= @forall_eq
def aOb:= @List.filter_cons_of_pos
def aOc:= @List.getElem_take
def aOi:= @Nat.mul_eq_zero
def aOj:= @Nat.le_mul_of_pos_right
def aOk:= @List.set_cons_succ
def aOl:= @Nat.add_zero
def aOm:= @Array.toList_map
def aOn:= @and_self
def aOo:= @List.getElem?_drop
def aOp:= @Nat.zero_le
def aOq:= @List.contains_eq_mem
def aOr:= @Array.getElem?_append_left
def aOs:= @List.set_append_right
def aOt:= @List.range_eq_range'
def aOu:= @List.map_id'
def aOv:= @iff_true
def aOw:= @iff_false
def aOx:= @gt_iff_lt
def aOy:= @Classical.choose_spec
def aOz:= @List.pairwise_mergeSort
def aOA:= @List.filter_append
def aOB:= @Classical.byContradiction
def aOC:= @List.perm_ext_iff_of_nodup
def aOD:= @List.getElem?_take_of_lt
def aOE:= @List.foldl_nil
def aOF:= @List.mem_iff_getElem
def aOG:= @Nat.mul_le_mul
def aOH:= @Bool.or_assoc
def aOW:= @Array.size_append
def aOX:= @List.take_succ_cons
def aOY:= @Array.ext'
def aOZ:= @List.take_zero
def aO0:= @List.set_cons_zero
def aO1:= @Array.getElem?_setIfInBounds_ne
def aO2:= @List.map_set
def aO3:= @Function.comp_def
def aO4:= @List.cons.injEq
def aO5:= @Bool.beq_comm
def aO6:= @Array.getElem?_eq_none
def aO7:= @Int.tmod_lt_of_pos
def aO8:= @Int.lt_tmod_of_pos
def aO9:= @List.take_append_of_le_length
def aPa:= @List.getElem?_append_left
def aPb:= @Int.natCast_zero
def aPc:= @List.length_filterMap_le
def aPd:= @List.ext_getElem
def aPe:= @List.getElem_set
def aPf:= @List.getElem_mapIdx
def aPg:= @List.getElem_map
def aPh:= @beq_false_of_ne
def aPi:= @List.not_lt
def aPj:= @List.lt_trans
def aPk:= @List.filterMap_append
def aPl:= @List.getLast?_eq_getElem?
def aPm:= @List.range_succ
def aPn:= @Int.toNat_zero
def aPo:= @Bool.or_false
def aPR:= @Array.getElem?_push
def aPS:= @Array.toList_push
def aPT:= @List.getElem_inj
def aPU:= @Option.bind_some
def aPV:= @Nat.sub_zero
def aPW:= @Array.mapM_eq_mapM_toList
def aPX:= @Option.getD_none
def aPY:= @List.set_comm
def aPZ:= @List.getElem?_set_ne
def aP0:= @List.contains_iff_mem
def aP1:= @Nat.or_lt_two_pow
def aP2:= @Nat.min_eq_left
def aP3:= @List.drop_eq_nil_of_le
def aP4:= @List.all_append
def aP5:= @Nat.add_sub_cancel
def aP6:= @getElem!_pos
def aP7:= @Int.add_sub_cancel
def aP8:= @Int.le_trans
def aP9:= @List.filter_eq_nil_iff
def aQa:= @Array.replicate_succ
def aQb:= @Array.replicate_zero
def aQc:= @List.push_toArray
def aQd:= @List.append_toArray
def aQe:= @List.getElem_cons_succ
def aQf:= @decide_false
def aQg:= @List.le_antisymm
def aQh:= @List.lt_irrefl
def aQi:= @List.Pairwise.imp
def aQj:= @Nat.testBit_or
def aQk:= @Nat.testBit_two_pow
def aQl:= @Nat.pow_le_pow_right
def aQm:= @Nat.pow_lt_pow_right
theorem aKF {p:Prop}(h:p):p:=h
theorem aK7 {p:Prop}{h:Decidable p}(ak:¬p:=by omega): @decide p h=false:=aLh ak
theorem aLv {p:Prop}{h:Decidable p}(ak:p:=by omega): @decide p h=true:=aLf ak
theorem Oj {bj:Type}:∀(a:Ask bj) (w:World),w.drawn<=(w.ask a).2.drawn
 | .done _,w=>aKM _
 | .ask what range k,w=>by
  rw[World.ask];split
  ·exact Oj (k 0) w
  ·exact aLk (aNE _) (Oj _ {w with drawn:=w.drawn+1})
theorem ajD (w:World)(J:Sys):w.drawn<=(w.sys J).2.drawn:=by
 have h:=Oj (Kernel.perform J w.os) w;unfold World.sys;split
 ·exact aKM _
 ·rename_i z os w' he;rw[he] at h;exact h
theorem JG {UW bj iS:Type}{x:Except UW bj}{f:bj->Except UW iS}{b:iS}(h: (x >>= f)= .ok b):∃a,x= .ok a/\f a= .ok b:=by
 cases x with
 |error e=>simp[bind,Except.bind] at h
 |ok a=>exact⟨a,rfl,by simpa[bind,Except.bind] using h⟩
theorem ajE {p:Program}{w:World}{az:Addr}{u:TypeId}{k:Addr}{v:Value}{atomic:Bool}{z:World×List Addr}(h:w.viewStore p az u k v atomic= .ok z):z.1.drawn=w.drawn:=by
 unfold World.viewStore at h;simp only at h;split at h
 ·obtain⟨_,d,_⟩:=JG h;simp[MonadExcept.throw,throwThe,MonadExceptOf.throw] at d
 obtain⟨⟨J,e,frozen,first,aJh,cells⟩,_,h⟩:=JG h;simp only at h;split at h
 ·split at h
  ·obtain⟨_,d,_⟩:=JG h;simp[MonadExcept.throw,throwThe,MonadExceptOf.throw] at d
  obtain⟨J,_,h⟩:=JG h;simp only[pure,Except.pure,Except.ok.injEq] at h;subst h;rfl
 ·simp[MonadExcept.throw,throwThe,MonadExceptOf.throw] at h
theorem ajF {p:Program}{w:World}{a:Addr}{v:Value}{atomic:Bool}{z:World×List Addr}(h:w.farStore p a v atomic= .ok z):z.1.drawn=w.drawn:=by
 unfold World.farStore at h;split at h
 ·split at h
  ·rename_i an;simp at h;subst h;exact ajE an
  ·cases h
 ·cases h
theorem ns {bj:Type}{p:Program}:∀{I:Sem bj} {w w':World} {a:bj},I.run p w= .ok a w'->w.drawn<=w'.drawn
 | .pure a,w,w',_,h=>by
  rw[Sem.run] at h;cases h;exact aKM _
 | .load m a k,w,w',_,h=>by
  rw[Sem.run] at h;split at h
  ·exact ns h
  ·split at h
   ·exact ns h
   ·cases h
 | .store m a v k,w,w',y,h=>by
  have key: (match w.cell? a with
   |some _=>if w.frozen? a then .halt (.unsupported (.unsafePointer "a write to bytes that a string shares")) w else k.run p (w.setCell a v)
   |none=>match w.farStore p a v (m== .atomic) with
    | .ok (w,_)=>k.run p w
    | .error h=> .halt h w)=Result.ok y w':=by
   cases v<;>first| (rw[Sem.run] at h;cases h;done)|exact h
  split at key
  ·split at key
   ·cases key
   ·exact ns (w:=w.setCell a v) key
  ·split at key
   ·rename_i hf;have:=ajF hf;exact aLk (Nat.le_of_eq this.symm) (ns key)
   ·cases key
 | .new V k,w,w',_,h=>by
  rw[Sem.run] at h;exact ns (w:= {w with heap:=w.heap.push V}) h
 | .shape z k,w,w',_,h=>by
  rw[Sem.run] at h;exact ns h
 | .freeze a n k,w,w',_,h=>by
  rw[Sem.run] at h;have aP: (w.freeze a n).drawn=w.drawn:=by
   unfold World.freeze
   (repeat' split)<;>rfl
  exact aLk (Nat.le_of_eq aP.symm) (ns h)
 | .frozen a k,w,w',_,h=>by
  rw[Sem.run] at h;exact ns h
 | .getObj z k,w,w',_,h=>by
  rw[Sem.run] at h;split at h
  ·cases h
  ·exact ns h
  ·cases h
 | .setObj z V k,w,w',_,h=>by
  rw[Sem.run] at h;split at h
  ·cases h
  ·exact ns (w:= {w with heap:=w.heap.setIfInBounds z V}) h
  ·cases h
 | .choose q k,w,w',_,h=>by
  rw[Sem.run] at h;split at h
  ·exact ns h
  ·exact aLk (aNE _) (ns (w:= {w with drawn:=w.drawn+1}) h)
 | .sys J k,w,w',_,h=>by
  rw[Sem.run] at h;exact aLk (ajD w J) (ns h)
 | .program k,w,w',_,h=>by
  rw[Sem.run] at h;exact ns h
 | .mark m k,w,w',_,h=>by
  rw[Sem.run] at h;exact ns h
 | .halt hh,w,w',_,h=>by
  rw[Sem.run] at h;cases h
end Go.Abs
namespace Go.Abs
inductive F where
 |int (k:IntKind) (n:Int)
 |bool (b:Bool)
 |str (I:ByteArray)
 |agg (ap:List F)
 |bo (vs:List F)
 |bH
 |pure (U:Nat) (am:List (List F))
 |own (z n off len:Nat)
 |bd (z n c off:Nat)
 |en (cells:List F) (off:Nat)
 |kt
 |fn (f:FuncId) (ap:List F)
 |bE (z:Nat)
 |kH
 |fO (z m:Nat)
 |cj
 deriving Inhabited
inductive cW where
 |int (k:IntKind)
 |bool
 |str
 deriving Inhabited,DecidableEq
inductive zd where
 |map (aK:Bool) (Y:List cW) (ents:List (F×F))
 |eh (n:Nat) (bX:List Nat)
 deriving Inhabited
def cE:List cW->List F->Prop
 | .int k::Y,.int br _::ap=>k=br/\cE Y ap
 | .bool::Y,.bool _::ap=>cE Y ap
 | .str::Y,.str _::ap=>cE Y ap
 | [],[]=>True
 |_,_=>False
def cp:F->List F
 | .agg ap=>ap
 |v=> [v]
def mK:F->Bool
 | .agg _=>true
 |_=>false
def gb (aK:Bool)(Y:List cW)(k:F):Prop:=mK k=aK/\cE Y (cp k)
inductive Z where
 |fP
 |ag (aJi:TypeId) (U:Nat) (am:List (List F))
 |be (V:zd)
 deriving Inhabited
structure bD where
 r:List Z
 bu:List (Option (Nat×Nat))
 bY:Nat->Prop
 w:World
 bZ:Bool
def bD.p (C:bD):bD:= {C with bZ:=true}
def bD.ku (C:bD)(b:Nat):Prop:=b<C.w.heap.size/\ ¬C.bY b/\ ∀z J:Nat,C.bu[z]? ≠some (some (b,J))
def oH (p:Option (Nat×Nat))(U off len:Nat)(v:Value):Prop:=
 match p with
 |none=>(∃cy,v= .slice cy 0 0)/\off=0/\len=0
 |some (b,cap)=> ∃a J,v= .slice (some a) len J/\len<=J/\a.spot=none/\a.block=b/\(off=0->a.off=0/\J=cap)/\(0<len->a.off=off*U)
mutual
def Rep (C:bD):F->Value->Prop
 | .int k n,v=>v= .int k n
 | .bool b,v=>v= .bool b
 | .str I,v=>v= .string I
 | .agg ap,v=> ∃vs:Array Value,v= .agg vs/\aE C ap vs.toList
 | .bo ap,v=> ∃vs:Array Value,v= .tuple vs/\aE C ap vs.toList
 | .bH,v=> ∃cy,v= .slice cy 0 0
 | .pure U am,v=> ∃cy cap,v= .slice cy am.length cap/\am.length<=cap/\(am.length=0\/ ∃b V,cy=some ⟨b,V,none⟩/\C.ku b/\dh C.p b V U am)
 | .own z n off len,v=>C.bZ=false/\(∃cy J,v= .slice cy len J)/\z<C.r.length/\ ∀e U am,C.r[z]? =some (.ag e U am)->n<=am.length/\(n=am.length->off+len<=n/\ ∃p,C.bu[z]? =some p/\oH p U off len v)
 | .bd z n c off,v=>C.bZ=false/\(∃a,v= .pointer (some a))/\z<C.r.length/\ ∀e U am,C.r[z]? =some (.ag e U am)->n<=am.length/\(n=am.length->c<n/\ ∃b J,C.bu[z]? =some (some (b,J))/\v= .pointer (some ⟨b,c*U+off,none⟩))
 | .en cells off,v=> ∃b V,v= .pointer (some ⟨b,V+off,none⟩)/\C.ku b/\dC C.p b V cells
 | .kt,v=>v= .pointer none
 | .fn f ap,v=> ∃vs:Array Value,v= .func (.func f) #[] vs/\aE C ap vs.toList
 | .bE z,v=>C.bZ=false/\(∃b,v= .map (some b))/\z<C.r.length/\ ∀V,C.r[z]? =some (.be V)-> ∃b J,C.bu[z]? =some (some (b,J))/\v= .map (some b)
 | .kH,v=>v= .map none
 | .fO z m,v=>C.bZ=false/\(∃a,v= .pointer (some a))/\z<C.r.length/\m<C.r.length/\ ∀V fa,C.r[z]? =some (.be V)->C.r[m]? =some (.be fa)->
  ∃b jA J,C.bu[z]? =some (some (b,jA))/\C.bu[m]? =some (some (jA,J))/\v= .pointer (some ⟨b,0,none⟩)
 | .cj,_=>True
def aE (C:bD):List F->List Value->Prop
 | [],vs=>vs=[]
 |J::ap,vs=> ∃v bS,vs=v::bS/\Rep C J v/\aE C ap bS
def dC (C:bD)(b:Nat)(V:Nat):List F->Prop
 | []=>True
 |J::ap=>(∃v,C.w.cell? ⟨b,V,none⟩=some v/\v.oneCell'=true/\Rep C J v)/\dC C b (V+1) ap
def dh (C:bD)(b:Nat)(V U:Nat):List (List F)->Prop
 | []=>True
 |e::ar=>e.length=U/\dC C b V e/\dh C b (V+U) U ar
end
structure jB (C aB:bD):Prop where
 bZ:aB.bZ=C.bZ
 oI:∀b,C.ku b->aB.w.heap[b]? =C.w.heap[b]? /\aB.ku b
 len:C.r.length<=aB.r.length
 r:∀z e U dk,z<C.r.length->aB.r[z]? =some (.ag e U dk)->
  ∃am,C.r[z]? =some (.ag e U am)/\am.length<=dk.length/\(am.length=dk.length->aB.bu[z]? =C.bu[z]?)
 rc:∀z fa,z<C.r.length->aB.r[z]? =some (.be fa)-> ∃V,C.r[z]? =some (.be V)/\aB.bu[z]? =C.bu[z]?
theorem jB.refl (C:bD):jB C C:=⟨rfl,λ_ h=>⟨rfl,h⟩,aKM _,λ_ _ _ am _ h=>⟨am,h,aKM _,λ_=>rfl⟩,λ_ V _ h=>⟨V,h,rfl⟩⟩
theorem jB.p {C aB:bD}(h:jB C aB):jB C.p aB.p:=⟨rfl,h.oI,h.len,h.r,h.rc⟩
mutual
theorem Rep.ext {C aB:bD}(h:jB C aB):∀(a:F) (v:Value),Rep C a v->Rep aB a v
 | .int ..,_,z=>by simpa[Rep] using z
 | .bool ..,_,z=>by simpa[Rep] using z
 | .str ..,_,z=>by simpa[Rep] using z
 | .bH,_,z=>by simpa[Rep] using z
 | .kt,_,z=>by simpa[Rep] using z
 | .cj,_,_=>by simp[Rep]
 | .agg ap,v,z=>by
  rw[Rep] at z ⊢;obtain⟨vs,rfl,N⟩:=z;exact⟨vs,rfl,aE.ext h ap _ N⟩
 | .bo ap,v,z=>by
  rw[Rep] at z ⊢;obtain⟨vs,rfl,N⟩:=z;exact⟨vs,rfl,aE.ext h ap _ N⟩
 | .pure U am,v,z=>by
  rw[Rep] at z ⊢;obtain⟨cy,cap,rfl,eA,N⟩:=z;refine⟨cy,cap,rfl,eA,?_⟩;rcases N with N|⟨b,V,rfl,af,he⟩
  ·exact .inl N
  ·exact .inr ⟨b,V,rfl,(h.oI b af).2,dh.ext h.p b V U af am he⟩
 | .own z n off len,v,N=>by
  rw[Rep] at N ⊢;obtain⟨hm,h0,d,G⟩:=N;refine⟨h.bZ.trans hm,h0,aLI d h.len,λe U dk an=> ?_⟩;obtain⟨am,cH,ff,a3⟩:=h.r z e U dk d an;obtain⟨aKU,eJ⟩:=G e U am cH;refine⟨by omega,λaH=> ?_⟩;obtain⟨c1,p,c2,c3⟩:=eJ (by omega);exact⟨c1,p,by rw[a3 (by omega)];exact c2,c3⟩
 | .bd z n c off,v,N=>by
  rw[Rep] at N ⊢;obtain⟨hm,h0,d,G⟩:=N;refine⟨h.bZ.trans hm,h0,aLI d h.len,λe U dk an=> ?_⟩;obtain⟨am,cH,ff,a3⟩:=h.r z e U dk d an;obtain⟨aKU,eJ⟩:=G e U am cH;refine⟨by omega,λaH=> ?_⟩;obtain⟨c1,b,J,c2,c3⟩:=eJ (by omega);exact⟨c1,b,J,by rw[a3 (by omega)];exact c2,c3⟩
 | .en cells off,v,N=>by
  rw[Rep] at N ⊢;obtain⟨b,V,rfl,af,ad⟩:=N;exact⟨b,V,rfl,(h.oI b af).2,dC.ext h.p b V af cells ad⟩
 | .fn f ap,v,z=>by
  rw[Rep] at z ⊢;obtain⟨vs,rfl,N⟩:=z;exact⟨vs,rfl,aE.ext h ap _ N⟩
 | .kH,_,z=>by simpa[Rep] using z
 | .bE z,v,N=>by
  rw[Rep] at N ⊢;obtain⟨hm,h0,d,G⟩:=N;refine⟨h.bZ.trans hm,h0,aLI d h.len,λfa bp=> ?_⟩;obtain⟨V,cH,ff⟩:=h.rc z fa d bp;rw[ff];exact G V cH
 | .fO z m,v,N=>by
  rw[Rep] at N ⊢;obtain⟨hm,h0,d,G,au⟩:=N;refine⟨h.bZ.trans hm,h0,aLI d h.len,aLI G h.len,λlh li up xh=> ?_⟩;obtain⟨aK6,cH,ff⟩:=h.rc z lh d up;obtain⟨iT,aKU,eJ⟩:=h.rc m li G xh;rw[ff,eJ];exact au aK6 iT cH aKU
theorem aE.ext {C aB:bD}(h:jB C aB):∀(as:List F) (vs:List Value),aE C as vs->aE aB as vs
 | [],vs,z=>by simpa[aE] using z
 |a::as,vs,z=>by
  rw[aE] at z ⊢;obtain⟨v,bS,rfl,d,G⟩:=z;exact⟨v,bS,rfl,Rep.ext h a v d,aE.ext h as bS G⟩
theorem dC.ext {C aB:bD}(h:jB C aB)(b V:Nat)(af:C.ku b):∀(as:List F),dC C b V as->dC aB b V as
 | [],_=>by simp[dC]
 |a::as,z=>by
  rw[dC] at z ⊢;obtain⟨⟨v,d,G,au⟩,bv⟩:=z;exact⟨⟨v,by rw[World.cell?_of_block (w:=C.w) (h.oI b af).1];exact d,G,Rep.ext h a v au⟩,dC.ext h b (V+1) af as bv⟩
theorem dh.ext {C aB:bD}(h:jB C aB)(b V U:Nat)(af:C.ku b):∀(ar:List (List F)),dh C b V U ar->dh aB b V U ar
 | [],_=>by simp[dh]
 |e::ar,z=>by
  rw[dh] at z ⊢;exact⟨z.1,dC.ext h b V af e z.2.1,dh.ext h b (V+U) U af ar z.2.2⟩
end
mutual
theorem Rep.oJ {C:bD}:∀(a:F) (v:Value),Rep C.p a v->Rep C a v
 | .int ..,_,z=>by simpa[Rep] using z
 | .bool ..,_,z=>by simpa[Rep] using z
 | .str ..,_,z=>by simpa[Rep] using z
 | .bH,_,z=>by simpa[Rep] using z
 | .kt,_,z=>by simpa[Rep] using z
 | .cj,_,_=>by simp[Rep]
 | .agg ap,v,z=>by
  rw[Rep] at z ⊢;obtain⟨vs,rfl,N⟩:=z;exact⟨vs,rfl,aE.oJ ap _ N⟩
 | .bo ap,v,z=>by
  rw[Rep] at z ⊢;obtain⟨vs,rfl,N⟩:=z;exact⟨vs,rfl,aE.oJ ap _ N⟩
 | .pure U am,v,z=>by rw[Rep] at z ⊢;exact z
 | .own z n off len,v,N=>by rw[Rep] at N;cases N.1
 | .bd z n c off,v,N=>by rw[Rep] at N;cases N.1
 | .en cells off,v,N=>by rw[Rep] at N ⊢;exact N
 | .fn f ap,v,z=>by
  rw[Rep] at z ⊢;obtain⟨vs,rfl,N⟩:=z;exact⟨vs,rfl,aE.oJ ap _ N⟩
 | .kH,_,z=>by simpa[Rep] using z
 | .bE z,v,N=>by rw[Rep] at N;cases N.1
 | .fO z m,v,N=>by rw[Rep] at N;cases N.1
theorem aE.oJ {C:bD}:∀(as:List F) (vs:List Value),aE C.p as vs->aE C as vs
 | [],vs,z=>by simpa[aE] using z
 |a::as,vs,z=>by
  rw[aE] at z ⊢;obtain⟨v,bS,rfl,d,G⟩:=z;exact⟨v,bS,rfl,Rep.oJ a v d,aE.oJ as bS G⟩
end
theorem dC.oJ {C:bD}(b:Nat):∀(V:Nat) (as:List F),dC C.p b V as->dC C b V as
 |V,[],_=>by simp[dC]
 |V,a::as,z=>by
  rw[dC] at z ⊢;obtain⟨⟨v,d,G,au⟩,bv⟩:=z;exact⟨⟨v,d,G,Rep.oJ a v au⟩,dC.oJ b (V+1) as bv⟩
theorem dh.oJ {C:bD}(b U:Nat):∀(V:Nat) (ar:List (List F)),dh C.p b V U ar->dh C b V U ar
 |V,[],_=>by simp[dh]
 |V,e::ar,z=>by
  rw[dh] at z ⊢;exact⟨z.1,dC.oJ b V e z.2.1,dh.oJ b U (V+U) ar z.2.2⟩
def dQ (C:bD)(z:Nat):Z->Prop
 | .fP=>C.bu[z]? =some none
 | .ag e U am=> ∃p,C.bu[z]? =some p/\
  match p with
  |none=>am=[]
  |some (b,cap)=> ¬C.bY b/\ ∃ap,C.w.heap[b]? =some (.cells ap e (0,0))/\ap.size=cap*U/\cap<=maxLen/\am.length<=cap/\dh C b 0 U am
 | .be (.map aK Y ents)=> ∃b J ar,C.bu[z]? =some (some (b,J))/\ ¬C.bY b/\C.w.heap[b]? =some (.map ar ar.size)/\(∀(c:Nat) (e:MapEntry),ar[c]? =some e->e.born=c)/\
  aE C (ents.map (·.1)) (ar.toList.map (·.key))/\aE C (ents.map (·.2)) (ar.toList.map (·.val))/\ ∀p∈ents,gb aK Y p.1
 | .be (.eh n bX)=> ∃b jA,C.bu[z]? =some (some (b,jA))/\ ¬C.bY b/\C.w.heap[b]? =some (.mapIter (some jA) n bX.toArray n)
structure ci (C:bD):Prop where
 bZ:C.bZ=false
 dw:C.bu.length=C.r.length
 r:∀z bG,C.r[z]? =some bG->dQ C z bG
 inj:∀z cG b J dR:Nat,C.bu[z]? =some (some (b,J))->C.bu[cG]? =some (some (b,dR))->z=cG
 bY:∀b,C.bY b->b<C.w.heap.size
class Dr where
 B:Prop:=True
variable [Dr]
structure cm (n:Nat) (C aB:bD):Prop where
 os:aB.w.os=C.w.os
 tape:aB.w.tape=C.w.tape
 output:aB.w.output=C.w.output
 size:C.w.heap.size<=aB.w.heap.size
 block:∀b,b<C.w.heap.size->(∀z J:Nat,C.bu[z]? ≠some (some (b,J)))->aB.w.heap[b]? =C.w.heap[b]?
 vF:∀z b J:Nat,aB.bu[z]? =some (some (b,J))->(∃cG dR:Nat,C.bu[cG]? =some (some (b,dR)))\/C.w.heap.size<=b
 bY:aB.bY=C.bY
 bZ:aB.bZ=C.bZ
 len:n<=aB.r.length
 r:∀z e U dk,z<n->aB.r[z]? =some (.ag e U dk)->
  ∃am,C.r[z]? =some (.ag e U am)/\am.length<=dk.length/\(am.length=dk.length->aB.bu[z]? =C.bu[z]?)
 rc:∀z fa,z<n->aB.r[z]? =some (.be fa)-> ∃V,C.r[z]? =some (.be V)/\aB.bu[z]? =C.bu[z]?
 drawn:Dr.B->C.w.drawn<=aB.w.drawn
theorem cm.refl (C:bD):cm C.r.length C C:=
 ⟨rfl,rfl,rfl,aKM _,λ_ _ _=>rfl,λz _ J h=> .inl ⟨z,J,h⟩,rfl,rfl,aKM _,λ_ _ _ am _ h=>⟨am,h,aKM _,λ_=>rfl⟩,λ_ V _ h=>⟨V,h,rfl⟩,λ_=>aKM _⟩
theorem cm.trans {n m:Nat}{A di C:bD}(h:cm n A di)(k:cm m di C)(aH:n<=m):cm n A C:=by
 refine⟨k.os.trans h.os,k.tape.trans h.tape,k.output.trans h.output,aLk h.size k.size,λb af bp=> ?_,λz b J ad=> ?_,k.bY.trans h.bY,k.bZ.trans h.bZ,aLk aH k.len,λz e U dk N an=> ?_,λz fa N bp=> ?_,λB=>aLk (h.drawn B) (k.drawn B)⟩
 ·rw[<-h.block b af bp];refine k.block b (aLI af h.size) λz J ad=> ?_;rcases h.vF z b J ad with ⟨cG,dR,cR⟩|cR
  ·exact bp cG dR cR
  ·omega
 ·rcases k.vF z b J ad with ⟨cG,dR,cR⟩|cR
  ·exact h.vF cG b dR cR
  ·exact .inr (aLk h.size cR)
 ·obtain⟨aMp,cH,ff,a3⟩:=k.r z e U dk (by omega) an;obtain⟨rU,aKU,eJ,lX⟩:=h.r z e U aMp N cH;exact⟨rU,aKU,by omega,λhh=>by rw[a3 (by omega),lX (by omega)]⟩
 ·obtain⟨lh,cH,ff⟩:=k.rc z fa (by omega) bp;obtain⟨li,aKU,eJ⟩:=h.rc z lh N cH;exact⟨li,aKU,ff.trans eJ⟩
theorem cm.oI {n:Nat}{C aB:bD}(h:cm n C aB)(b:Nat)(af:C.ku b):aB.w.heap[b]? =C.w.heap[b]? /\aB.ku b:=by
 obtain⟨d,G,au⟩:=af;refine⟨h.block b d au,aLI d h.size,by rw[h.bY];exact G,λz J ad=> ?_⟩;rcases h.vF z b J ad with ⟨cG,dR,cR⟩|cR
 ·exact au cG dR cR
 ·omega
theorem cm.ext {C aB:bD}(h:cm C.r.length C aB):jB C aB:=⟨h.bZ,h.oI,h.len,h.r,h.rc⟩
end Go.Abs
namespace Go.Abs
theorem aE.length {C:bD}:∀{as:List F} {vs:List Value},aE C as vs->vs.length=as.length
 | [],vs,h=>by rw[aE] at h;simp[h]
 |a::as,vs,h=>by
  rw[aE] at h;obtain⟨v,bS,rfl,_,G⟩:=h;simp[aE.length G]
theorem aE.oL {C:bD}:∀{as:List F} {vs:List Value} (c:Nat),aE C as vs->c<as.length-> ∃v,vs[c]? =some v/\Rep C (as.getD c .cj) v
 | [],_,c,_,av=>by simp at av
 |a::as,vs,c,h,av=>by
  rw[aE] at h;obtain⟨v,bS,rfl,d,G⟩:=h;cases c with
  |zero=>exact⟨v,rfl,d⟩
  |succ c=>simpa using aE.oL c G (by simpa using av)
theorem aE.append {C:bD}:∀{as dl:List F} {vs al:List Value},aE C as vs->aE C dl al->aE C (as++dl) (vs++al)
 | [],dl,vs,al,h,k=>by rw[aE] at h;subst h;exact k
 |a::as,dl,vs,al,h,k=>by
  rw[aE] at h;obtain⟨v,bS,rfl,d,G⟩:=h;show aE C (a::(as++dl)) (v::(bS++al));rw[aE];exact⟨v,_,rfl,d,aE.append G k⟩
theorem aE.take {C:bD}:∀{as:List F} {vs:List Value} (n:Nat),aE C as vs->aE C (as.take n) (vs.take n)
 |as,vs,0,_=>by simp[aE]
 | [],vs,n+1,h=>by rw[aE] at h;subst h;simp[aE]
 |a::as,vs,n+1,h=>by
  rw[aE] at h;obtain⟨v,bS,rfl,d,G⟩:=h;show aE C (a::as.take n) (v::bS.take n);rw[aE];exact⟨v,_,rfl,d,aE.take n G⟩
theorem aE.drop {C:bD}:∀{as:List F} {vs:List Value} (n:Nat),aE C as vs->aE C (as.drop n) (vs.drop n)
 |as,vs,0,h=>by simpa using h
 | [],vs,n+1,h=>by rw[aE] at h;subst h;simp[aE]
 |a::as,vs,n+1,h=>by
  rw[aE] at h;obtain⟨v,bS,rfl,d,G⟩:=h;simpa using aE.drop n G
def DI (w:World)(b V:Nat)(vs:List Value):Prop:= ∀(j:Nat) (u:Value),vs[j]? =some u->w.cell? ⟨b,V+j,none⟩=some u
def iU (vs:List Value):Prop:= ∀v∈vs,v.oneCell'=true
theorem qv {C:bD}{b:Nat}:∀{V:Nat} {cells:List F},dC C b V cells↔ ∃vs,aE C cells vs/\DI C.w b V vs/\iU vs
 |V,[]=>by
  simp only[dC,aE,aN1];exact⟨[],rfl,λj u h=>by simp at h,λv h=>by simp at h⟩
 |V,J::ap=>by
  rw[dC,qv];constructor
  ·rintro⟨⟨v,d,G,au⟩,vs,bO,cd,fk⟩;refine⟨v::vs,by rw[aE];exact⟨v,vs,rfl,au,bO⟩,λj u hj=> ?_,λu bc=> ?_⟩
   ·cases j with
    |zero=>simp at hj;subst hj;exact d
    |succ j=>have:=cd j u (by simpa using hj);rw[show V+(j+1)=V+1+j from by omega];exact this
   ·rcases aKV.1 bc with rfl|bc
    ·exact G
    ·exact fk u bc
  ·rintro⟨vs,bO,cd,fk⟩;rw[aE] at bO;obtain⟨v,bS,rfl,d,G⟩:=bO;refine⟨⟨v,by simpa using cd 0 v rfl,fk v (by simp),d⟩,bS,G,λj u hj=> ?_,λu bc=>fk u (by simp[bc])⟩;have:=cd (j+1) u (by simpa using hj);rw[show V+1+j=V+(j+1) from by omega];exact this
theorem dC.drop {C:bD}{b V:Nat}{cells:List F}(n:Nat)(h:dC C b V cells):dC C b (V+n) (cells.drop n):=by
 obtain⟨vs,d,G,au⟩:=qv.1 h;refine qv.2 ⟨vs.drop n,d.drop n,λj u hj=> ?_,λu bc=>au u (aMV bc)⟩;rw[aOo] at hj;rw[aM9];exact G _ _ hj
theorem dC.take {C:bD}{b V:Nat}{cells:List F}(n:Nat)(h:dC C b V cells):dC C b V (cells.take n):=by
 obtain⟨vs,d,G,au⟩:=qv.1 h;refine qv.2 ⟨vs.take n,d.take n,λj u hj=> ?_,λu bc=>au u (aMl bc)⟩;rw[aMO] at hj;split at hj
 ·exact G _ _ hj
 ·cases hj
theorem dC.append {C:bD}{b V:Nat}{aq ys:List F}(h:dC C b V aq)(k:dC C b (V+aq.length) ys):dC C b V (aq++ys):=by
 obtain⟨vs,d,G,au⟩:=qv.1 h;obtain⟨al,bO,cd,fk⟩:=qv.1 k;refine qv.2 ⟨vs++al,d.append bO,λj u hj=> ?_,λu bc=> ?_⟩
 ·rw[aK9] at hj;split at hj
  ·exact G _ _ hj
  ·have:=cd _ _ hj;rw[d.length] at this;rename_i aI;rw[d.length] at aI;rw[show V+j=V+aq.length+(j-aq.length) from by omega];exact this
 ·rcases aK3.1 bc with bc|bc
  ·exact au u bc
  ·exact fk u bc
theorem Bw {C:bD}{b U:Nat}:∀{V:Nat} {ar:List (List F)},dh C b V U ar↔(∀e∈ar,e.length=U)/\dC C b V ar.flatten
 |V,[]=>by simp[dh,dC]
 |V,e::ar=>by
  rw[dh,Bw];constructor
  ·rintro⟨d,G,au,bv⟩;refine⟨λx aj=> ?_,?_⟩
   ·rcases aKV.1 aj with rfl|aj
    ·exact d
    ·exact au x aj
   ·rw[aLS];exact G.append (by rw[d];exact bv)
  ·rintro⟨d,G⟩;have he:=d e (by simp);rw[aLS] at G;refine⟨he,?_,λx aj=>d x (by simp[aj]),?_⟩
   ·simpa using G.take e.length
   ·simpa[he] using G.drop e.length
theorem dh.oL {C:bD}{b U:Nat}:∀{V:Nat} {ar:List (List F)} (c:Nat),dh C b V U ar->c<ar.length->(ar.getD c []).length=U/\dC C b (V+c*U) (ar.getD c [])
 |V,[],c,_,av=>by simp at av
 |V,e::ar,c,h,av=>by
  rw[dh] at h;cases c with
  |zero=>exact⟨h.1,by simpa using h.2.1⟩
  |succ c=>
   have:=dh.oL c h.2.2 (by simpa using av);refine⟨by simpa using this.1,?_⟩;rw[show V+(c+1)*U=V+U+c*U from by rw[aLM];omega];simpa using this.2
theorem dh.drop {C:bD}{b U:Nat}:∀{V:Nat} {ar:List (List F)} (n:Nat),dh C b V U ar->dh C b (V+n*U) U (ar.drop n)
 |V,ar,0,h=>by simpa using h
 |V,[],n+1,h=>by simp[dh]
 |V,e::ar,n+1,h=>by
  rw[dh] at h;have:=dh.drop n h.2.2;rw[show V+(n+1)*U=V+U+n*U from by rw[aLM];omega];simpa using this
theorem dh.take {C:bD}{b U:Nat}:∀{V:Nat} {ar:List (List F)} (n:Nat),dh C b V U ar->dh C b V U (ar.take n)
 |V,ar,0,h=>by simp[dh]
 |V,[],n+1,h=>by simp[dh]
 |V,e::ar,n+1,h=>by
  rw[dh] at h;show dh C b V U (e::ar.take n);rw[dh];exact⟨h.1,h.2.1,dh.take n h.2.2⟩
theorem dC.move {C aB:bD}{b V:Nat}{cells:List F}(h:jB C aB)(aP:∀j,j<cells.length->aB.w.cell? ⟨b,V+j,none⟩=C.w.cell? ⟨b,V+j,none⟩)(z:dC C b V cells):dC aB b V cells:=by
 obtain⟨vs,d,G,au⟩:=qv.1 z;refine qv.2 ⟨vs,aE.ext h _ _ d,λj u hj=> ?_,au⟩;have hl:j<cells.length:=by
  rw[<-d.length];rcases aNa j vs.length with h|h
  ·exact h
  ·rw[aLB h] at hj;cases hj
 rw[aP j hl];exact G j u hj
theorem dh.move {C aB:bD}{b V U:Nat}{ar:List (List F)}(h:jB C aB)(aP:aB.w.heap[b]? =C.w.heap[b]?)(z:dh C b V U ar):dh aB b V U ar:=by
 obtain⟨d,G⟩:=Bw.1 z;exact Bw.2 ⟨d,G.move h λj _=>World.cell?_of_block (w:=C.w) aP⟩
theorem zi {U:Nat}:∀{ar:List (List F)},(∀e∈ar,e.length=U)->ar.flatten.length=ar.length*U
 | [],_=>by simp
 |e::ar,h=>by
  simp only[aLS,aKK,aK8];rw[zi λx aj=>h x (by simp[aj]),h e (by simp),aLM];omega
def cV:F->Bool
 | .agg _| .bo _| .cj=>false
 |_=>true
theorem V4 {C:bD}{a:F}{v:Value}(h:Rep C a v)(d:cV a=true):v.oneCell'=true:=by
 cases a<;>simp[cV] at d<;>simp only[Rep] at h
 case int=>subst h;rfl
 case bool=>subst h;rfl
 case str=>subst h;rfl
 case bH=>obtain⟨cy,rfl⟩:=h;rfl
 case kt=>subst h;rfl
 case pure=>obtain⟨cy,cap,rfl,_⟩:=h;rfl
 case en=>obtain⟨b,V,rfl,_⟩:=h;rfl
 case own=>obtain⟨_,⟨cy,J,rfl⟩,_⟩:=h;rfl
 case bd=>obtain⟨_,⟨cy,rfl⟩,_⟩:=h;rfl
 case fn=>obtain⟨vs,rfl,_⟩:=h;rfl
 case bE=>obtain⟨_,⟨b,rfl⟩,_⟩:=h;rfl
 case kH=>subst h;rfl
 case fO=>obtain⟨_,⟨a,rfl⟩,_⟩:=h;rfl
theorem vG {C:bD}:∀{as:List F} {vs:List Value},aE C as vs->as.all cV=true->iU vs
 | [],vs,h,_=>by rw[aE] at h;subst h;intro v an;simp at an
 |a::as,vs,h,d=>by
  rw[aE] at h;obtain⟨v,bS,rfl,bO,cd⟩:=h;simp only[aMN,aKJ] at d;intro u bc;rcases aKV.1 bc with rfl|bc
  ·exact V4 bO d.1
  ·exact vG cd d.2 u bc
theorem DJ {C:bD}{a:F}{v:Value}(h:Rep C a v)(d: (cp a).all cV=true):aE C (cp a) v.cells.toList/\iU v.cells.toList:=by
 have key:∀(v:Value),v.oneCell'=true->v.cells.toList=[v]:=by
  intro v an;cases v<;>first|rfl|simp[Value.oneCell'] at an
 by_cases aC:∃ap,a= .agg ap
 ·obtain⟨ap,rfl⟩:=aC;rw[Rep] at h;obtain⟨vs,rfl,N⟩:=h;exact⟨N,vG N d⟩
 ·have ad:cp a=[a]:=by
   cases a<;>first|rfl| (exfalso;exact aC ⟨_,rfl⟩)
  rw[ad] at d ⊢;have G:cV a=true:=by simpa using d
  have au:=V4 h G;rw[key v au];refine⟨?_,λu bc=>by simp at bc;subst bc;exact au⟩;rw[aE];exact⟨v,[],rfl,h,by rw[aE]⟩
end Go.Abs
namespace Go.Abs
variable [Dr]
theorem dQ.move {C aB:bD}{z:Nat}{bG:Z}(h:jB C aB)(bp:aB.bY=C.bY)(ak:aB.bu[z]? =C.bu[z]?)
 (aP:∀b J,C.bu[z]? =some (some (b,J))->aB.w.heap[b]? =C.w.heap[b]?) (k:dQ C z bG):dQ aB z bG:=by
 cases bG with
 |fP=>rw[dQ] at k ⊢;rw[ak];exact k
 |ag e U am=>
  rw[dQ] at k ⊢;obtain⟨p,d,G⟩:=k;refine⟨p,ak.trans d,?_⟩;cases p with
  |none=>exact G
  |some q=>
   obtain⟨b,cap⟩:=q;obtain⟨bO,ap,cd,fk,hB,jE,jF⟩:=G;have:=aP b cap d;exact⟨by rw[bp];exact bO,ap,by rw[this];exact cd,fk,hB,jE,jF.move h this⟩
 |be V=>
  cases V with
  |map aK Y ents=>
   rw[dQ] at k ⊢;obtain⟨b,J,ar,d,G,au,bv,cx,dx,oN⟩:=k;exact⟨b,J,ar,ak.trans d,by rw[bp];exact G,by rw[aP b J d];exact au,bv,aE.ext h _ _ cx,aE.ext h _ _ dx,oN⟩
  |eh n bX=>
   rw[dQ] at k ⊢;obtain⟨b,jA,d,G,au⟩:=k;exact⟨b,jA,ak.trans d,by rw[bp];exact G,by rw[aP b jA d];exact au⟩
theorem ci.lt {C:bD}(h:ci C){z b J:Nat}(ak:C.bu[z]? =some (some (b,J))):b<C.w.heap.size:=by
 have N:z<C.r.length:=by
  rw[<-h.dw];rcases aNa z C.bu.length with h|h
  ·exact h
  ·rw[aLB h] at ak;cases ak
 have:=h.r z _ (aKS N);cases hrow:C.r[z] with
 |fP=>rw[hrow,dQ,ak] at this;cases this
 |ag e U am=>
  rw[hrow,dQ,ak] at this;obtain⟨p,hT,G⟩:=this;cases hT;obtain⟨_,ap,cd,_⟩:=G;exact (aLp.1 cd).1
 |be V=>
  cases V with
  |map aK Y ents=>
   rw[hrow,dQ,ak] at this;obtain⟨eE,dR,ar,d,_,au,_⟩:=this;simp at d;obtain⟨rfl,rfl⟩:=d;exact (aLp.1 au).1
  |eh n bX=>
   rw[hrow,dQ,ak] at this;obtain⟨eE,dR,d,_,au⟩:=this;simp at d;obtain⟨rfl,rfl⟩:=d;exact (aLp.1 au).1
theorem ci.ag {C:bD}(h:ci C){z:Nat}{e:TypeId}{U:Nat}{am:List (List F)}(N:C.r[z]? =some (.ag e U am)):
 (C.bu[z]? =some none/\am=[])\/ ∃b cap ap,C.bu[z]? =some (some (b,cap))/\ ¬C.bY b/\C.w.heap[b]? =some (.cells ap e (0,0))/\ap.size=cap*U/\cap<=maxLen/\am.length<=cap/\dh C b 0 U am:=by
 have:=h.r z _ N;rw[dQ] at this;obtain⟨p,d,G⟩:=this;cases p with
 |none=>exact .inl ⟨d,G⟩
 |some q=>
  obtain⟨b,cap⟩:=q;obtain⟨bO,ap,cd⟩:=G;exact .inr ⟨b,cap,ap,d,bO,cd⟩
structure fs (C:bD) (U:Nat) (am:List (List F)) (vs:List Value):Prop where
 jl:∀e∈am,e.length=U
 kO:aE C am.flatten vs
 cV:iU vs
theorem fs.length {C:bD}{U:Nat}{am:List (List F)}{vs:List Value}(h:fs C U am vs):vs.length=am.length*U:=by
 rw[h.kO.length,zi h.jl]
theorem fs.ext {C aB:bD}{U:Nat}{am:List (List F)}{vs:List Value}(h:fs C U am vs)(k:jB C aB):fs aB U am vs:=
 ⟨h.jl,aE.ext k _ _ h.kO,h.cV⟩
theorem fs.xB {C:bD}{U b V:Nat}{am:List (List F)}{vs:List Value}(h:fs C U am vs)(ad:DI C.w b V vs):dh C b V U am:=
 Bw.2 ⟨h.jl,qv.2 ⟨vs,h.kO,ad,h.cV⟩⟩
theorem dh.tg {C:bD}{U b V:Nat}{am:List (List F)}(h:dh C b V U am):∃vs,fs C U am vs/\DI C.w b V vs:=by
 obtain⟨d,G⟩:=Bw.1 h;obtain⟨vs,bO,cd,fk⟩:=qv.1 G;exact⟨vs,⟨d,bO,fk⟩,cd⟩
theorem fs.nil (C:bD)(U:Nat):fs C U [] []:=⟨by simp,by simp[aE],by intro v an;simp at an⟩
theorem fs.append {C:bD}{U:Nat}{aq ys:List (List F)}{vs al:List Value}(h:fs C U aq vs)(k:fs C U ys al):fs C U (aq++ys) (vs++al):=by
 refine⟨λe he=> ?_,by rw[aM5];exact h.kO.append k.kO,λv an=> ?_⟩
 ·rcases aK3.1 he with he|he
  ·exact h.jl e he
  ·exact k.jl e he
 ·rcases aK3.1 an with an|an
  ·exact h.cV v an
  ·exact k.cV v an
theorem KQ {w:World}{b:Nat}{ap:Array Value}{e:TypeId}{vs:List Value}(aw:w.heap[b]? =some (.cells ap e (0,0)))(h:ap.toList.take vs.length=vs):DI w b 0 vs:=by
 intro j u hj;rw[aL5,cell_of_row w b j ap e (0,0) aw];rw[<-h,aMO] at hj;split at hj
 ·simpa using hj
 ·cases hj
theorem Gn {w:World}{b:Nat}{ap:Array Value}{e:TypeId}{vs:List Value}(aw:w.heap[b]? =some (.cells ap e (0,0)))(h:DI w b 0 vs):ap.toList.take vs.length=vs:=by
 refine aLT λj=> ?_;rw[aMO];split
 ·rename_i hj;obtain⟨u,bc⟩:∃u,vs[j]? =some u:=⟨_,aKS hj⟩;have:=h j u bc;rw[aL5,cell_of_row w b j ap e (0,0) aw] at this;rw[bc];simpa using this
 ·rename_i hj;rw[aLB (by omega)]
theorem Bf {C:bD}(h:ci C)(e:TypeId)(U cap:Nat)(ap:Array Value)(am:List (List F))(vs:List Value)(w':World)
 (aP:w'.os=C.w.os/\w'.tape=C.w.tape/\w'.output=C.w.output/\w'.heap=C.w.heap.push (.cells ap e (0,0)))
 (ao:ap.size=cap*U) (hm:cap<=maxLen) (an:am.length<=cap) (he:fs C U am vs) (ht:ap.toList.take vs.length=vs) (ay:C.w.drawn<=w'.drawn:=by first|exact aKM _|exact aNE _|exact ns (by assumption)|assumption):
 ci ⟨C.r++[.ag e U am],C.bu++[some (C.w.heap.size,cap)],C.bY,w',C.bZ⟩/\
 cm C.r.length C ⟨C.r++[.ag e U am],C.bu++[some (C.w.heap.size,cap)],C.bY,w',C.bZ⟩:=by
 obtain⟨jG,jH,pI,nB⟩:=aP;have mQ:∀b,b<C.w.heap.size->w'.heap[b]? =C.w.heap[b]? :=λb af=>by rw[nB,aPR,S (by omega)]
 have gi:w'.heap[C.w.heap.size]? =some (.cells ap e (0,0)):=by rw[nB];simp
 have later:cm C.r.length C ⟨C.r++[.ag e U am],C.bu++[some (C.w.heap.size,cap)],C.bY,w',C.bZ⟩:=by
  refine⟨jG,jH,pI,by simp[nB],λb af _=>mQ b af,λz b J N=> ?_,rfl,rfl,by simp,λz cO bz dk N df=> ?_,λz fa N df=> ?_,λ_=>ay⟩
  ·simp only[aK9] at N;split at N
   ·exact .inl ⟨z,J,N⟩
   ·right
    rename_i aI;cases O:z-C.bu.length with
    |zero=>rw[O] at N;simp at N;omega
    |succ k=>rw[O] at N;simp at N
  ·simp only[aK9,N,aK5] at df;refine⟨dk,df,aKM _,λ_=> ?_⟩;simp only[aK9];rw[Rc (by rw[h.dw];exact N)]
  ·simp only[aK9,N,aK5] at df;refine⟨fa,df,?_⟩;simp only[aK9];rw[Rc (by rw[h.dw];exact N)]
 have nz:=later.ext;refine⟨⟨h.bZ,by simp[h.dw],λz bG N=> ?_,λz cG b J dR d G=> ?_,λb af=>aLI (h.bY b af) later.size⟩,later⟩
 ·simp only[aK9] at N;split at N
  ·rename_i aI;refine dQ.move nz rfl ?_ (λb J af=>mQ b (h.lt af)) (h.r z bG N);simp only[aK9];rw[Rc (by rw[h.dw];exact aI)]
  ·rename_i aI;have O:z=C.r.length:=by
    cases O:z-C.r.length with
    |zero=>omega
    |succ k=>rw[O] at N;simp at N
   subst O;simp at N;subst N;rw[dQ];refine⟨some (C.w.heap.size,cap),?_,λbp=> ?_,ap,gi,ao,hm,an,(he.ext nz).xB (KQ gi ht)⟩
   ·simp[h.dw.symm]
   ·have:=h.bY _ bp;omega
 ·simp only[aK9] at d G;have last:∀{z:Nat} {b J:Nat},¬z<C.bu.length-> [some (C.w.heap.size,cap)][z-C.bu.length]? =some (some (b,J))->z=C.bu.length/\b=C.w.heap.size:=by
   intro z b J N hh;cases O:z-C.bu.length with
   |zero=>rw[O] at hh;simp at hh;exact⟨by omega,hh.1.symm⟩
   |succ k=>rw[O] at hh;simp at hh
  split at d<;>split at G
  ·exact h.inj z cG b J dR d G
  ·rename_i cq;obtain⟨_,af⟩:=last cq G;have:=h.lt d;omega
  ·rename_i N _;obtain⟨_,af⟩:=last N d;have:=h.lt G;omega
  ·rename_i N cq;rw[(last N d).1,(last cq G).1]
theorem aky {C:bD}(h:ci C)(V:Obj):ci ⟨C.r,C.bu,C.bY,C.w.alloc V,C.bZ⟩/\cm C.r.length C ⟨C.r,C.bu,C.bY,C.w.alloc V,C.bZ⟩:=by
 have mQ:∀b,b<C.w.heap.size->(C.w.alloc V).heap[b]? =C.w.heap[b]? :=λb af=>heap_alloc_old C.w V af;have later:cm C.r.length C ⟨C.r,C.bu,C.bY,C.w.alloc V,C.bZ⟩:=
  ⟨rfl,rfl,rfl,by simp,λb af _=>mQ b af,λz _ J h=> .inl ⟨z,J,h⟩,rfl,rfl,aKM _,λ_ _ _ am _ h=>⟨am,h,aKM _,λ_=>rfl⟩,λ_ V _ h=>⟨V,h,rfl⟩,λ_=>aKM _⟩
 refine⟨⟨h.bZ,h.dw,λz bG N=> ?_,h.inj,λb af=>aLI (h.bY b af) later.size⟩,later⟩;exact dQ.move later.ext rfl rfl (λb J af=>mQ b (h.lt af)) (h.r z bG N)
theorem GE {C:bD}(h:ci C)(e:TypeId)(U:Nat):
 ci ⟨C.r++[.ag e U []],C.bu++[none],C.bY,C.w,C.bZ⟩/\cm C.r.length C ⟨C.r++[.ag e U []],C.bu++[none],C.bY,C.w,C.bZ⟩:=by
 have qq:∀{z:Nat} {q:Nat×Nat},(C.bu++[none])[z]? =some (some q)->C.bu[z]? =some (some q):=by
  intro z q N;simp only[aK9] at N;split at N
  ·exact N
  ·cases O:z-C.bu.length with
   |zero=>rw[O] at N;simp at N
   |succ k=>rw[O] at N;simp at N
 have later:cm C.r.length C ⟨C.r++[.ag e U []],C.bu++[none],C.bY,C.w,C.bZ⟩:=by
  refine⟨rfl,rfl,rfl,aKM _,λb af _=>rfl,λz b J N=> .inl ⟨z,J,qq N⟩,rfl,rfl,by simp,λz cO bz dk N df=> ?_,λz fa N df=> ?_,λ_=>aKM _⟩
  ·simp only[aK9,N,aK5] at df;refine⟨dk,df,aKM _,λ_=> ?_⟩;simp only[aK9];rw[Rc (by rw[h.dw];exact N)]
  ·simp only[aK9,N,aK5] at df;refine⟨fa,df,?_⟩;simp only[aK9];rw[Rc (by rw[h.dw];exact N)]
 refine⟨⟨h.bZ,by simp[h.dw],λz bG N=> ?_,λz cG b J dR d G=>h.inj z cG b J dR (qq d) (qq G),h.bY⟩,later⟩;simp only[aK9] at N;split at N
 ·rename_i aI;refine dQ.move later.ext rfl ?_ (λb J af=>rfl) (h.r z bG N);simp only[aK9];rw[Rc (by rw[h.dw];exact aI)]
 ·rename_i aI;have O:z=C.r.length:=by
   cases O:z-C.r.length with
   |zero=>omega
   |succ k=>rw[O] at N;simp at N
  subst O;simp at N;subst N;rw[dQ];exact⟨none,by simp[h.dw.symm],rfl⟩
theorem zl {C:bD}(h:ci C){z:Nat}{e:TypeId}{U:Nat}{am:List (List F)}(N:C.r[z]? =some (.ag e U am))
 {p:Option (Nat×Nat)} (ak:C.bu[z]? =some p) (eE ha:Nat) (ge:Array Value) (dk:List (List F)) (Dm:List Value) (w':World)
 (aw:C.w.grownBy w' (p.map (·.1))) (af:p.map (·.1)=some eE\/C.w.heap.size<=eE) (hh:w'.heap[eE]? =some (.cells ge e (0,0)))
 (ao:ge.size=ha*U) (hm:ha<=maxLen) (an:dk.length<=ha) (he:fs C U dk Dm) (ht:ge.toList.take Dm.length=Dm)
 (aqX:am.length<=dk.length) (BR:am.length=dk.length->p=some (eE,ha)) (ay:C.w.drawn<=w'.drawn:=by first|exact aKM _|exact aNE _|exact ns (by assumption)|assumption):
 ci ⟨C.r.set z (.ag e U dk),C.bu.set z (some (eE,ha)),C.bY,w',C.bZ⟩/\
 cm C.r.length C ⟨C.r.set z (.ag e U dk),C.bu.set z (some (eE,ha)),C.bY,w',C.bZ⟩:=by
 have fA:z<C.r.length:=(aLy.1 N).1;have Bu:z<C.bu.length:=by rw[h.dw];exact fA
 have bZ:∀{b:Nat},p.map (·.1)=some b-> ∃J,C.bu[z]? =some (some (b,J)):=by
  intro b af;cases p with
  |none=>simp at af
  |some q=>obtain⟨x,y⟩:=q;simp at af;subst af;exact⟨y,ak⟩
 have pA:∀{cG:Nat},cG≠z->(C.bu.set z (some (eE,ha)))[cG]? =C.bu[cG]? :=λhne=>by rw[aKQ,S (λe=>hne e.symm)]
 have Bv: (C.bu.set z (some (eE,ha)))[z]? =some (some (eE,ha)):=by rw[aKQ,Rc rfl,Rc Bu]
 have later:cm C.r.length C ⟨C.r.set z (.ag e U dk),C.bu.set z (some (eE,ha)),C.bY,w',C.bZ⟩:=by
  refine⟨aw.os,aw.tape,aw.output,aw.size,λb jX bp=>aw.block b jX λnx=> ?_,λcG b J cq=> ?_,rfl,rfl,by simp,λcG cO bz mM cq df=> ?_,λcG fa cq df=> ?_,λ_=>ay⟩
  ·obtain⟨J,ad⟩:=bZ nx.symm;exact bp z J ad
  ·by_cases hne:cG=z
   ·subst hne;rw[Bv] at cq;simp at cq;obtain⟨rfl,rfl⟩:=cq;rcases af with af|af
    ·obtain⟨J,ad⟩:=bZ af;exact .inl ⟨cG,J,ad⟩
    ·exact .inr af
   ·rw[pA hne] at cq;exact .inl ⟨cG,J,cq⟩
  ·by_cases hne:cG=z
   ·subst hne;simp only[aKQ,aK5,fA] at df;simp at df;obtain⟨rfl,rfl,rfl⟩:=df;exact⟨am,N,aqX,λnx=>by rw[ak,BR nx];exact Bv⟩
   ·simp only[aKQ] at df;rw[S (λe=>hne e.symm)] at df;exact⟨mM,df,aKM _,λ_=>pA hne⟩
  ·by_cases hne:cG=z
   ·subst hne;simp only[aKQ,aK5,fA] at df;simp at df
   ·simp only[aKQ] at df;rw[S (λe=>hne e.symm)] at df;exact⟨fa,df,pA hne⟩
 refine⟨⟨h.bZ,by simp[h.dw],λcG bG cq=> ?_,λaKO cY b J dR d G=> ?_,λb af=>aLI (h.bY b af) later.size⟩,later⟩
 ·by_cases hne:cG=z
  ·subst hne;simp only[aKQ,aK5,fA] at cq;simp at cq;subst cq;rw[dQ];refine⟨some (eE,ha),Bv,λbp=> ?_,ge,hh,ao,hm,an,(he.ext later.ext).xB (KQ hh ht)⟩;rcases af with af|af
   ·obtain⟨J,ad⟩:=bZ af;rcases h.ag N with ⟨hl,_⟩|⟨eJ,aJw,aJx,hl,bO,_⟩
    ·rw[ad] at hl;simp at hl
    ·rw[ad] at hl;simp at hl;obtain⟨rfl,rfl⟩:=hl;exact bO bp
   ·have:=h.bY _ bp;omega
  ·simp only[aKQ] at cq;rw[S (λe=>hne e.symm)] at cq;refine dQ.move later.ext rfl (pA hne) (λb J jX=>aw.block b (h.lt jX) λnx=> ?_) (h.r cG bG cq);obtain⟨dR,kS⟩:=bZ nx.symm;exact hne (h.inj _ _ _ _ _ jX kS)
 ·have key:∀{aKO cY b J dR:Nat},aKO≠z->cY=z->(C.bu.set z (some (eE,ha)))[aKO]? =some (some (b,J))->(C.bu.set z (some (eE,ha)))[cY]? =some (some (b,dR))->False:=by
   intro aKO cY b J dR aH he d G;subst he;rw[Bv] at G;rw[pA aH] at d;simp at G;obtain⟨rfl,rfl⟩:=G;rcases af with af|af
   ·obtain⟨c2,WK⟩:=bZ af;exact aH (h.inj _ _ _ _ _ d WK)
   ·have:=h.lt d;omega
  by_cases bF:aKO=z<;>by_cases bK:cY=z
  ·rw[bF,bK]
  ·exact (key bK bF G d).elim
  ·exact (key bF bK d G).elim
  ·refine h.inj aKO cY b J dR ?_ ?_
   ·simpa[pA bF] using d
   ·simpa[pA bK] using G
theorem Vi {C:bD}(h:ci C)(V:zd)(aqY:Obj)(J:Nat)(w':World)
 (aP:w'.os=C.w.os/\w'.tape=C.w.tape/\w'.output=C.w.output/\w'.heap=C.w.heap.push aqY)
 (dc:∀aB:bD,jB C aB->aB.bY=C.bY->aB.w=w'->aB.bu[C.r.length]? =some (some (C.w.heap.size,J))->dQ aB C.r.length (.be V)) (ay:C.w.drawn<=w'.drawn:=by first|exact aKM _|exact aNE _|exact ns (by assumption)|assumption):
 ci ⟨C.r++[.be V],C.bu++[some (C.w.heap.size,J)],C.bY,w',C.bZ⟩/\
 cm C.r.length C ⟨C.r++[.be V],C.bu++[some (C.w.heap.size,J)],C.bY,w',C.bZ⟩:=by
 obtain⟨jG,jH,pI,nB⟩:=aP;have mQ:∀b,b<C.w.heap.size->w'.heap[b]? =C.w.heap[b]? :=λb af=>by rw[nB,aPR,S (by omega)]
 have later:cm C.r.length C ⟨C.r++[.be V],C.bu++[some (C.w.heap.size,J)],C.bY,w',C.bZ⟩:=by
  refine⟨jG,jH,pI,by simp[nB],λb af _=>mQ b af,λz b J N=> ?_,rfl,rfl,by simp,λz cO bz dk N df=> ?_,λz fa N df=> ?_,λ_=>ay⟩
  ·simp only[aK9] at N;split at N
   ·exact .inl ⟨z,J,N⟩
   ·right
    rename_i aI;cases O:z-C.bu.length with
    |zero=>rw[O] at N;simp at N;omega
    |succ k=>rw[O] at N;simp at N
  ·simp only[aK9,N,aK5] at df;refine⟨dk,df,aKM _,λ_=> ?_⟩;simp only[aK9];rw[Rc (by rw[h.dw];exact N)]
  ·simp only[aK9,N,aK5] at df;refine⟨fa,df,?_⟩;simp only[aK9];rw[Rc (by rw[h.dw];exact N)]
 have nz:=later.ext;refine⟨⟨h.bZ,by simp[h.dw],λz bG N=> ?_,λz cG b c1 dR d G=> ?_,λb af=>aLI (h.bY b af) later.size⟩,later⟩
 ·simp only[aK9] at N;split at N
  ·rename_i aI;refine dQ.move nz rfl ?_ (λb J af=>mQ b (h.lt af)) (h.r z bG N);simp only[aK9];rw[Rc (by rw[h.dw];exact aI)]
  ·rename_i aI;have O:z=C.r.length:=by
    cases O:z-C.r.length with
    |zero=>omega
    |succ k=>rw[O] at N;simp at N
   subst O;simp at N;subst N;exact dc _ nz rfl rfl (by simp[h.dw.symm])
 ·simp only[aK9] at d G;have last:∀{z:Nat} {b B:Nat},¬z<C.bu.length-> [some (C.w.heap.size,J)][z-C.bu.length]? =some (some (b,B))->z=C.bu.length/\b=C.w.heap.size:=by
   intro z b B N hh;cases O:z-C.bu.length with
   |zero=>rw[O] at hh;simp at hh;exact⟨by omega,hh.1.symm⟩
   |succ k=>rw[O] at hh;simp at hh
  split at d<;>split at G
  ·exact h.inj z cG b _ dR d G
  ·rename_i cq;obtain⟨_,af⟩:=last cq G;have:=h.lt d;omega
  ·rename_i N _;obtain⟨_,af⟩:=last N d;have:=h.lt G;omega
  ·rename_i N cq;rw[(last N d).1,(last cq G).1]
theorem JQ {C:bD}(h:ci C){z:Nat}{V:zd}(N:C.r[z]? =some (.be V)){b J:Nat}(ak:C.bu[z]? =some (some (b,J)))(fa:zd)(w':World)(aw:C.w.grownBy w' (some b))
 (dc:∀aB:bD,jB C aB->aB.bY=C.bY->aB.w=w'->aB.bu[z]? =some (some (b,J))->dQ aB z (.be fa)) (ay:C.w.drawn<=w'.drawn:=by first|exact aKM _|exact aNE _|exact ns (by assumption)|assumption):
 ci ⟨C.r.set z (.be fa),C.bu,C.bY,w',C.bZ⟩/\cm C.r.length C ⟨C.r.set z (.be fa),C.bu,C.bY,w',C.bZ⟩:=by
 have fA:z<C.r.length:=(aLy.1 N).1;have later:cm C.r.length C ⟨C.r.set z (.be fa),C.bu,C.bY,w',C.bZ⟩:=by
  refine⟨aw.os,aw.tape,aw.output,aw.size,λeE jX bp=>aw.block eE jX λnx=> ?_,λcG b J cq=> .inl ⟨cG,J,cq⟩,rfl,rfl,by simp,λcG cO bz mM cq df=> ?_,λcG li cq df=> ?_,λ_=>ay⟩
  ·simp at nx;subst nx;exact bp z J ak
  ·by_cases hne:cG=z
   ·subst hne;simp only[aKQ,aK5,fA] at df;simp at df
   ·simp only[aKQ] at df;rw[S (λe=>hne e.symm)] at df;exact⟨mM,df,aKM _,λ_=>rfl⟩
  ·by_cases hne:cG=z
   ·subst hne;exact⟨V,N,rfl⟩
   ·simp only[aKQ] at df;rw[S (λe=>hne e.symm)] at df;exact⟨li,df,rfl⟩
 refine⟨⟨h.bZ,by simp[h.dw],λcG bG cq=> ?_,h.inj,λb af=>aLI (h.bY b af) later.size⟩,later⟩
 by_cases hne:cG=z
 ·subst hne;simp only[aKQ,aK5,fA] at cq;simp at cq;subst cq;exact dc _ later.ext rfl rfl ak
 ·simp only[aKQ] at cq;rw[S (λe=>hne e.symm)] at cq;refine dQ.move later.ext rfl rfl (λeE dR jX=>aw.block eE (h.lt jX) λnx=> ?_) (h.r cG bG cq);simp at nx;subst nx;exact hne (h.inj _ _ _ _ _ jX ak)
end Go.Abs
namespace Go.Abs
mutual
def bJ:F->Bool
 | .own .. | .bd .. =>false
 | .bE _| .fO .. =>false
 | .agg ap=>bU ap
 | .bo ap=>bU ap
 | .fn _ ap=>bU ap
 |_=>true
def bU:List F->Bool
 | []=>true
 |J::ap=>bJ J&&bU ap
end
def dY:List (List F)->Bool
 | []=>true
 |e::ar=>bU e&&dY ar
mutual
theorem Rep.qr {C:bD}:∀(a:F) (v:Value),bJ a=true->Rep C a v->Rep C.p a v
 | .int ..,_,_,z=>by simpa[Rep] using z
 | .bool ..,_,_,z=>by simpa[Rep] using z
 | .str ..,_,_,z=>by simpa[Rep] using z
 | .bH,_,_,z=>by simpa[Rep] using z
 | .kt,_,_,z=>by simpa[Rep] using z
 | .cj,_,_,_=>by simp[Rep]
 | .agg ap,v,h,z=>by
  rw[bJ] at h;rw[Rep] at z ⊢;obtain⟨vs,rfl,N⟩:=z;exact⟨vs,rfl,aE.qr ap _ h N⟩
 | .bo ap,v,h,z=>by
  rw[bJ] at h;rw[Rep] at z ⊢;obtain⟨vs,rfl,N⟩:=z;exact⟨vs,rfl,aE.qr ap _ h N⟩
 | .pure U am,v,_,z=>by rw[Rep] at z ⊢;exact z
 | .own ..,v,h,_=>by simp[bJ] at h
 | .bd ..,v,h,_=>by simp[bJ] at h
 | .en cells off,v,_,N=>by rw[Rep] at N ⊢;exact N
 | .fn f ap,v,h,z=>by
  rw[bJ] at h;rw[Rep] at z ⊢;obtain⟨vs,rfl,N⟩:=z;exact⟨vs,rfl,aE.qr ap _ h N⟩
 | .kH,_,_,z=>by simpa[Rep] using z
 | .bE _,v,h,_=>by simp[bJ] at h
 | .fO ..,v,h,_=>by simp[bJ] at h
theorem aE.qr {C:bD}:∀(as:List F) (vs:List Value),bU as=true->aE C as vs->aE C.p as vs
 | [],vs,_,z=>by simpa[aE] using z
 |a::as,vs,h,z=>by
  simp only[bU,aKJ] at h;rw[aE] at z ⊢;obtain⟨v,bS,rfl,d,G⟩:=z;exact⟨v,bS,rfl,Rep.qr a v h.1 d,aE.qr as bS h.2 G⟩
end
theorem dC.qr {C:bD}(b:Nat):∀(V:Nat) (as:List F),bU as=true->dC C b V as->dC C.p b V as
 |V,[],_,_=>by simp[dC]
 |V,a::as,h,z=>by
  simp only[bU,aKJ] at h;rw[dC] at z ⊢;obtain⟨⟨v,d,G,au⟩,bv⟩:=z;exact⟨⟨v,d,G,Rep.qr a v h.1 au⟩,dC.qr b (V+1) as h.2 bv⟩
theorem dh.qr {C:bD}(b U:Nat):∀(V:Nat) (ar:List (List F)),dY ar=true->dh C b V U ar->dh C.p b V U ar
 |V,[],_,_=>by simp[dh]
 |V,e::ar,h,z=>by
  simp only[dY,aKJ] at h;rw[dh] at z ⊢;exact⟨z.1,dC.qr b V e h.1 z.2.1,dh.qr b U (V+U) ar h.2 z.2.2⟩
inductive gc where
 |qt
 |pick
 |alloc (e:TypeId) (zero:List F)
 |box (e:TypeId) (U:Nat)
 |build (zero:List F) (sc:List (Nat×Nat))
 |sk (e:TypeId) (U:Nat) (zero:List F) (len:Nat) (jq:List Nat)
 |DR
 |uI (e:TypeId) (U bytes:Nat) (zero:List F)
 |pF
 |pG (U:Nat)
 |store (U:Nat)
 |tu
 |iY (op:BinOp)
 |rj (neg:Bool) (Y:List cW)
 |Gs (neg:Bool)
 |not
 |neg
 |conv (k:IntKind)
 |fieldAddr (off:Nat)
 |P6 (off:Nat)
 |P7 (off U:Nat)
 |indexAddr (U:Nat)
 |index
 |slice (ft av:Bool) (U:Nat)
 |xV (ft av:Bool)
 |len
 |DT
 |append (e:TypeId) (U bytes:Nat)
 |extract (c:Nat)
 |wa (max:Bool)
 |Kk
 |jN
 |copy (U:Nat)
 |wb (len U:Nat)
 |P8 (len:Nat)
 |P9 (len U:Nat)
 |Qa (f:FuncId)
 |zy (aK:Bool) (Y:List cW)
 |iw (ok aK:Bool) (Y:List cW) (zero:F)
 |pE (aK:Bool) (Y:List cW)
 |oU (aK:Bool) (Y:List cW) (zero:F)
 |sj
 |Kl
 |eh
 |next
 |entry
 |cap
 |zx (U:Nat) (neg:Bool)
 |BI (e:TypeId) (U bytes:Nat) (zero:List F)
 |clear (U:Nat) (zero:List F)
 |xE
 |call (f:FuncId)
 deriving Inhabited
section
variable (r:List Z)
def jr (r:List Z)(U:Nat):F->Option (List (List F))
 | .pure bz am=>if bz=U then some am else none
 | .bH=>some []
 | .own z n off len=>
  match r[z]? with
  |some (.ag _ bz am)=>if bz=U/\n=am.length/\off+len<=n then some ((am.drop off).take len) else none
  |_=>none
 |_=>none
def zn:List (List F)->Option (List Int)
 | []=>some []
 | [.int .u8 n]::ar=>
  match zn ar with
  |some jJ=>some (n::jJ)
  |none=>none
 |_::_=>none
def strOf (jJ:List Int):ByteArray:=jJ.foldl (λz n=>z.push (UInt8.ofNat n.toNat)) ByteArray.empty
def zp (x:F)(K:F->Prop):Prop:=
 match jr r 1 x with
 |none=>False
 |some ys=>
  match zn ys with
  |some jJ=>K (.str (strOf jJ))
  |none=>False
def zq (x:F)(K:F->List Z->Prop):Prop:=
 match x with
 | .own z n off len=>
  match r[z]? with
  |some (.ag _ U am)=>n=am.length/\off=0/\len=n/\0<n/\dY am=true/\K (.pure U am) (r.set z .fP)
  |_=>False
 |_=>False
def td:F->Option Nat
 | .pure _ am=>some am.length
 | .bH=>some 0
 | .own _ _ _ len=>some len
 |_=>none
def me (op:BinOp)(x y:F)(K:F->Prop):Prop:=
 match x,y with
 | .int k a,.int br b=>
  match op with
  | .shl=>0<=b/\K (.int k (k.wrap (a*2^(min b.toNat k.bits))))
  | .shr=>0<=b/\K (.int k (a.fdiv (2^(min b.toNat k.bits))))
  | .add=>k=br/\K (.int k (k.wrap (a+b)))
  | .sub=>k=br/\K (.int k (k.wrap (a-b)))
  | .mul=>k=br/\K (.int k (k.wrap (a*b)))
  | .quo=>k=br/\b≠0/\K (.int k (k.wrap (a.tdiv b)))
  | .rem=>k=br/\b≠0/\K (.int k (a.tmod b))
  | .and=>k=br/\K (.int k (k.wrap (BitVec.ofInt k.bits a&&& BitVec.ofInt k.bits b).toNat))
  | .or=>k=br/\K (.int k (k.wrap (BitVec.ofInt k.bits a|||BitVec.ofInt k.bits b).toNat))
  | .xor=>k=br/\K (.int k (k.wrap (BitVec.ofInt k.bits a ^^^ BitVec.ofInt k.bits b).toNat))
  | .eql=>k=br/\K (.bool (a==b))
  | .neq=>k=br/\K (.bool (a != b))
  | .lss=>k=br/\K (.bool (a<b))
  | .leq=>k=br/\K (.bool (a<=b))
  | .gtr=>k=br/\K (.bool (a>b))
  | .geq=>k=br/\K (.bool (a≥b))
  |_=>False
 | .str a,.str b=>
  match op with
  | .eql=>K (.bool (a.toList==b.toList))
  | .neq=>K (.bool !(a.toList==b.toList))
  | .lss=>K (.bool (Op.bytesLess a.toList b.toList))
  | .leq=>K (.bool (Op.bytesLess a.toList b.toList||a.toList==b.toList))
  | .gtr=>K (.bool !(Op.bytesLess a.toList b.toList||a.toList==b.toList))
  | .geq=>K (.bool !(Op.bytesLess a.toList b.toList))
  | .add=>((a.size+b.size:Nat):Int)<=IntKind.i64.max/\K (.str (a++b))
  |_=>False
 |_,_=>False
def ed:List F->List F->Bool
 | .int _ a::ap,.int _ b::ds=>a==b&&ed ap ds
 | .bool a::ap,.bool b::ds=>a==b&&ed ap ds
 | .str a::ap,.str b::ds=>a.toList==b.toList&&ed ap ds
 |_,_=>true
def fb (l:List F)(off:Nat)(ap:List F):List F:=l.take off++ap++l.drop (off+ap.length)
def oQ:List F->List (Nat×Nat)->List F->Option (List F)
 |cells,(off,U)::aa,v::vs=>if (cp v).length=U/\off+U<=cells.length then oQ (fb cells off (cp v)) aa vs else none
 |cells,[],[]=>some cells
 |_,_,_=>none
def oV:List (List F)->Nat->List Nat->List F->Option (List (List F))
 |ar,U,c::is,v::vs=>if (cp v).length=U/\c<ar.length then oV (ar.set c (cp v)) U is vs else none
 |ar,_,[],[]=>some ar
 |_,_,_,_=>none
def qu (x:F)(K:F->Prop):Prop:=
 match x with
 | .bd z n c off=>
  match r[z]? with
  |some (.ag _ U am)=>n=am.length/\off<U/\K ((am.getD c []).getD off .cj)
  |_=>False
 | .en cells off=>off<cells.length/\K (cells.getD off .cj)
 |_=>False
def oW (m:Nat)(x:F)(K:F->Prop):Prop:=
 match x with
 | .bd z n c off=>
  match r[z]? with
  |some (.ag _ U am)=>n=am.length/\off+m<=U/\K (.agg (((am.getD c []).drop off).take m))
  |_=>False
 | .en cells off=>off+m<=cells.length/\K (.agg ((cells.drop off).take m))
 |_=>False
def xJ (m:Nat)(x y:F)(K:List Z->Prop):Prop:=
 match x with
 | .bd z n c off=>
  match r[z]? with
  |some (.ag e U am)=>n=am.length/\off+m<=U/\(cp y).length=m/\(cp y).all cV=true/\
   K (r.set z (.ag e U (am.set c (fb (am.getD c []) off (cp y)))))
  |_=>False
 |_=>False
def Gu (B:Nat)(x:F)(K:F->Prop):Prop:=
 match x with
 | .bd z n c off=>K (.bd z n c (off+B))
 | .en cells off=>K (.en cells (off+B))
 |_=>False
def xj (U:Nat)(x y:F)(K:F->Prop):Prop:=
 match x,y with
 | .pure bz am,.int _ c=>bz=U/\0<=c/\c<am.length/\K (.en (am.getD c.toNat []) 0)
 | .own z n off len,.int _ c=>
  match r[z]? with
  |some (.ag _ bz am)=>bz=U/\n=am.length/\0<=c/\c<len/\K (.bd z n (off+c.toNat) 0)
  |_=>False
 |_,_=>False
def qj (ft av:Option F)(U:Nat)(x:F)(K:F->Prop):Prop:=
 match td x with
 |none=>False
 |some l=>
  match ft.getD (.int .i64 0),av.getD (.int .i64 l) with
  | .int _ a,.int _ b=>0<=a/\a<=b/\b<=l/\
   match x with
   | .pure bz am=>bz=U/\K (.pure bz ((am.drop a.toNat).take (b.toNat-a.toNat)))
   | .bH=>K .bH
   | .own z n off _=>
    match r[z]? with
    |some (.ag _ bz am)=>bz=U/\n=am.length/\K (.own z n (off+a.toNat) (b.toNat-a.toNat))
    |_=>False
   |_=>False
  |_,_=>False
def ut (ft av:Option F)(x:F)(K:F->Prop):Prop:=
 match x with
 | .str I=>
  match ft.getD (.int .i64 0),av.getD (.int .i64 I.size) with
  | .int _ a,.int _ b=>0<=a/\a<=b/\b<=I.size/\K (.str (I.extract a.toNat b.toNat))
  |_,_=>False
 |_=>False
def uK (e:TypeId)(U bytes:Nat)(x y:F)(K:F->List Z->Prop):Prop:=
 match jr r U y with
 |none=>False
 |some ys=>
  match x with
  | .bH=>ys.length*bytes<=140737488355328/\K (.own r.length ys.length 0 ys.length) (r++[.ag e U ys])
  | .own z n off len=>
   match r[z]? with
   |some (.ag cO bz am)=>cO=e/\bz=U/\n=am.length/\off=0/\len=n/\(n+ys.length)*bytes<=140737488355328/\
    K (.own z (n+ys.length) 0 (n+ys.length)) (r.set z (.ag e U (am++ys)))
   |_=>False
  |_=>False
def zD (aK:Bool)(Y:List cW)(ents:List (F×F)):Prop:= ∀p∈ents,gb aK Y p.1
def qn (r:List Z)(aK:Bool)(Y:List cW):F->Option (List (F×F))
 | .bE z=>
  match r[z]? with
  |some (.be (.map gC fV ents))=>if gC=aK/\fV=Y then some ents else none
  |_=>none
 | .kH=>some []
 |_=>none
def fB (k br:F):Bool:=ed (cp k) (cp br)
def gB (k:F):List (F×F)->Option Nat
 | []=>none
 |p::aa=>if fB k p.1 then some 0 else (gB k aa).map (·+1)
def dm (k:F):List (F×F)->Option F
 | []=>none
 |p::aa=>if fB k p.1 then some p.2 else dm k aa
def dy (k v:F):List (F×F)->List (F×F)
 | []=> [(k,v)]
 |p::aa=>if fB k p.1 then (k,v)::aa else p::dy k v aa
def uy (ok aK:Bool)(Y:List cW)(zero x k:F)(K:F->Prop):Prop:=
 match qn r aK Y x with
 |none=>False
 |some ents=>gb aK Y k/\K (if ok then .bo [(dm k ents).getD zero,.bool (dm k ents).isSome] else (dm k ents).getD zero)
def xr (aK:Bool)(Y:List cW)(x k v:F)(K:List Z->Prop):Prop:=
 match x with
 | .bE z=>
  match r[z]? with
  |some (.be (.map gC fV ents))=>(gC=aK/\fV=Y)/\gb aK Y k/\K (r.set z (.be (.map aK Y (dy k v ents))))
  |_=>False
 |_=>False
def vI (aK:Bool)(Y:List cW)(zero x k:F)(K:F->List Z->Prop):Prop:=
 match x with
 | .bE z=>
  match r[z]? with
  |some (.be (.map gC fV ents))=>(gC=aK/\fV=Y)/\(gb aK Y k/\zD aK Y ents)/\
   K (.bo [(dm k ents).getD zero,.int .i64 ((gB k ents).getD ents.length)]) (r.set z (.be (.map aK Y (dy k ((dm k ents).getD zero) ents))))
  |_=>False
 |_=>False
def xs (x c v:F)(K:List Z->Prop):Prop:=
 match x,c with
 | .bE z,.int _ n=>
  match r[z]? with
  |some (.be (.map aK Y ents))=>0<=n/\n<ents.length/\K (r.set z (.be (.map aK Y (ents.set n.toNat ((ents.getD n.toNat (.cj,.cj)).1,v)))))
  |_=>False
 |_,_=>False
def xt (x:F)(K:F->List Z->Prop):Prop:=
 match x with
 | .bE m=>
  match r[m]? with
  |some (.be (.map _ _ ents))=>K (.fO r.length m) (r++[.be (.eh ents.length [])])
  |_=>False
 |_=>False
def sa (x:F)(K:F->List Z->Prop):Prop:=
 match x with
 | .fO z m=>
  match r[z]?,r[m]? with
  |some (.be (.eh n bX)),some (.be (.map _ _ ents))=>n=ents.length/\z≠m/\((∀c,c<n->c∈bX)->K (.bo [.bool false]) r)/\
   ∀c,c<n->c∉bX->K (.bo [.bool true,(ents.getD c (.cj,.cj)).1,(ents.getD c (.cj,.cj)).2]) (r.set z (.be (.eh n (bX++[c]))))
  |_,_=>False
 |_=>False
def xv (x:F)(K:F->Prop):Prop:=
 match x with
 | .fO z m=>
  match r[z]?,r[m]? with
  |some (.be (.eh n bX)),some (.be (.map _ _ ents))=>n=ents.length/\0<bX.length/\bX.getLastD 0<n/\
   K (.bo [(ents.getD (bX.getLastD 0) (.cj,.cj)).1,(ents.getD (bX.getLastD 0) (.cj,.cj)).2])
  |_,_=>False
 |_=>False
def kw (am:List (List F))(off:Nat)(ys:List (List F)):List (List F):=am.take off++ys++am.drop (off+ys.length)
def zj (U:Nat)(x y:F)(K:F->List Z->Prop):Prop:=
 match jr r U y with
 |none=>False
 |some ys=>
  match x with
  | .own z n off len=>
   match r[z]? with
   |some (.ag e bz am)=>bz=U/\n=am.length/\off+len<=n/\
    K (.int .i64 ((min ys.length len:Nat):Int)) (r.set z (.ag e U (kw am off (ys.take (min ys.length len)))))
   |_=>False
  |_=>False
def xy (U:Nat)(zero:List F)(x:F)(K:List Z->Prop):Prop:=
 match x with
 | .own z n off len=>
  match r[z]? with
  |some (.ag e bz am)=>bz=U/\n=am.length/\off+len<=n/\K (r.set z (.ag e U (kw am off (List.replicate len zero))))
  |_=>False
 |_=>False
def Bq (len U:Nat)(x y:F)(K:F->Prop):Prop:=
 match x,y with
 | .bd z n c off,.int _ j=>0<=j/\j<len/\K (.bd z n c (off+j.toNat*U))
 | .en cells off,.int _ j=>0<=j/\j<len/\K (.en cells (off+j.toNat*U))
 |_,_=>False
def Br (U:Nat)(neg:Bool)(x:F)(K:F->Prop):Prop:=
 match jr r U x with
 |some ys=>0<ys.length/\K (.bool neg)
 |none=>False
end
def aM (op:gc)(args:List F)(r:List Z)(K:F->List Z->Prop):Prop:=
 match op,args with
 | .qt,[x]=>K x r
 | .pick,[.bool J,a,b]=>K (if J then a else b) r
 | .alloc e zero,[]=>K (.bd r.length 1 0 0) (r++[.ag e zero.length [zero]])
 | .box e U,[x]=>(cp x).length=U/\(cp x).all cV=true/\K (.bd r.length 1 0 0) (r++[.ag e U [cp x]])
 | .build zero aa,vs=>
  match oQ zero aa vs with
  |some ap=>(vs.all λv=>(cp v).all cV)=true/\K (.agg ap) r
  |none=>False
 | .sk e U zero len jq,vs=>
  match oV (List.replicate len zero) U jq vs with
  |some ar=>(vs.all λv=>(cp v).all cV)=true/\K (.own r.length len 0 len) (r++[.ag e U ar])
  |none=>False
 | .DR,[]=>K .bH r
 | .uI e U bytes zero,[.int _ l,.int _ J]=>0<=l/\l<=J/\J*bytes<=140737488355328/\J<=140737488355328/\
  K (.own r.length l.toNat 0 l.toNat) (r++[.ag e U (List.replicate l.toNat zero)])
 | .pF,[x]=>qu r x λv=>K v r
 | .pG n,[x]=>oW r n x λv=>K v r
 | .store n,[x,y]=>xJ r n x y λr=>K (.bo []) r
 | .tu,[.bd z n c V]=>K (.bd z n c V) r
 | .tu,[.en J V]=>K (.en J V) r
 | .iY op,[x,y]=>me op x y λv=>K v r
 | .rj neg Y,[.agg aq,.agg ys]=>cE Y aq/\cE Y ys/\K (.bool (ed aq ys != neg)) r
 | .Gs neg,[.bool a,.bool b]=>K (.bool ((a==b) != neg)) r
 | .not,[.bool b]=>K (.bool !b) r
 | .neg,[.int k n]=>K (.int k (k.wrap (0-n))) r
 | .conv k,[.int _ n]=>K (.int k (k.wrap n)) r
 | .fieldAddr B,[x]=>Gu B x λv=>K v r
 | .P6 off,[.agg ap]=>off<ap.length/\K (ap.getD off .cj) r
 | .P7 off U,[.agg ap]=>off+U<=ap.length/\K (.agg ((ap.drop off).take U)) r
 | .indexAddr U,[x,y]=>xj r U x y λv=>K v r
 | .index,[.str I,.int _ c]=>0<=c/\c<I.size/\K (.int .u8 ((I.data.getD c.toNat 0).toNat)) r
 | .slice true true U,[x,a,b]=>qj r (some a) (some b) U x λv=>K v r
 | .slice true false U,[x,a]=>qj r (some a) none U x λv=>K v r
 | .slice false true U,[x,b]=>qj r none (some b) U x λv=>K v r
 | .slice false false U,[x]=>qj r none none U x λv=>K v r
 | .xV true true,[x,a,b]=>ut (some a) (some b) x λv=>K v r
 | .xV true false,[x,a]=>ut (some a) none x λv=>K v r
 | .xV false true,[x,b]=>ut none (some b) x λv=>K v r
 | .xV false false,[x]=>ut none none x λv=>K v r
 | .DT,[.str I]=>K (.int .i64 I.size) r
 | .len,[x]=>
  match td x with
  |some l=>K (.int .i64 l) r
  |none=>False
 | .append e U bytes,[x,y]=>uK r e U bytes x y K
 | .extract c,[.bo vs]=>c<vs.length/\K (vs.getD c .cj) r
 | .wa G3,[.int k a,.int br b]=>k=br/\K (.int k (if G3 then max a b else min a b)) r
 | .wa G3,[.int k a,.int br b,.int Vv J]=>(k=br/\k=Vv)/\K (.int k (if G3 then max (max a b) J else min (min a b) J)) r
 | .Kk,[x]=>zp r x λv=>K v r
 | .jN,[x]=>zq r x K
 | .copy U,[x,y]=>zj r U x y K
 | .wb len U,[x,y]=>Bq len U x y λv=>K v r
 | .P8 len,[.agg ap,.int _ j]=>(0<=j/\j<len)/\j.toNat<ap.length/\K (ap.getD j.toNat .cj) r
 | .P9 len U,[.agg ap,.int _ j]=>(0<=j/\j<len)/\j.toNat*U+U<=ap.length/\K (.agg ((ap.drop (j.toNat*U)).take U)) r
 | .Qa f,ap=>K (.fn f ap) r
 | .zy aK Y,[]=>K (.bE r.length) (r++[.be (.map aK Y [])])
 | .iw ok aK Y zero,[x,k]=>uy r ok aK Y zero x k λv=>K v r
 | .pE aK Y,[x,k,v]=>xr r aK Y x k v λr=>K (.bo []) r
 | .oU aK Y zero,[x,k]=>vI r aK Y zero x k K
 | .sj,[x,c,v]=>xs r x c v λr=>K (.bo []) r
 | .Kl,[.bE z]=>
  match r[z]? with
  |some (.be (.map _ _ ents))=>K (.int .i64 ents.length) r
  |_=>False
 | .eh,[x]=>xt r x K
 | .entry,[x]=>xv r x λv=>K v r
 | .cap,[.bH]=>K (.int .i64 0) r
 | .BI e U bytes zero,[.bH,.int _ n]=>0<n/\n*bytes<=140737488355328/\K (.own r.length n.toNat 0 n.toNat) (r++[.ag e U (List.replicate n.toNat zero)])
 | .clear U zero,[x]=>xy r U zero x λr=>K (.bo []) r
 | .zx U neg,[x]=>Br r U neg x λv=>K v r
 |_,_=>False
end Go.Abs
namespace Go.Abs
theorem OG {bj:Type}(l al:List bj)(n V:Nat)(h:V+al.length<=n)(aH:n<=l.length):
 (l.take V++al++l.drop (V+al.length)).take n=(l.take n).take V++al++(l.take n).drop (V+al.length):=by
 refine aLT λj=> ?_;simp only[aMO,aK9,aOo,aKK,aLd];have d:min V l.length=V:=by omega
 have G:min n l.length=n:=by omega
 have au:min V (min n l.length)=V:=by omega
 simp only[d,au]
 by_cases a:j<n
 ·by_cases b:j<V
  ·have J:j<V+al.length:=by omega
   simp[a,b,J]
  ·by_cases J:j<V+al.length
   ·simp[a,b,J]
   ·simp only[a,J,aK5,aLi];rw[Rc (by omega)]
 ·have b:¬j<V+al.length:=by omega
  have J:¬V+al.length+(j-(V+al.length))<n:=by omega
  simp[a,b,J]
theorem Ke {U:Nat}(J:List F)(off:Nat):∀(am:List (List F)) (c:Nat),(∀e∈am,e.length=U)->c<am.length->off+J.length<=U->
 (am.set c (fb (am.getD c []) off J)).flatten=fb am.flatten (c*U+off) J
 | [],c,_,h,_=>by simp at h
 |e::ar,0,ao,_,bp=>by
  have he:=ao e (by simp);simp only[aO0,List.getD_cons_zero,aLS,Nat.zero_mul,aL5,fb];rw[aO9 (by omega),List.drop_append_of_le_length (by omega)];simp
 |e::ar,c+1,ao,av,bp=>by
  have he:=ao e (by simp);have ih:=Ke J off ar c (λx aj=>ao x (by simp[aj])) (by simpa using av) bp;simp only[aOk,List.getD_cons_succ,aLS,ih];simp only[fb];have bF: (c+1)*U+off=e.length+(c*U+off):=by rw[he,aLM];omega
  rw[bF,List.take_length_add_append,aM9 e.length,List.drop_length_add_append];simp
theorem VW {l J:List F}{off:Nat}(h:off+J.length<=l.length): (fb l off J).length=l.length:=by
 simp only[fb,aKK,aLd,aLt];omega
theorem aE.fb {C:bD}{aq J:List F}{vs al:List Value}{V:Nat}(h:aE C aq vs)(k:aE C J al):
 aE C (Abs.fb aq V J) (vs.take V++al++vs.drop (V+al.length)):=by
 unfold Abs.fb;rw[<-k.length];exact ((h.take V).append k).append (h.drop _)
theorem iU.fb {vs al:List Value}{V k:Nat}(h:iU vs)(cR:iU al):iU (vs.take V++al++vs.drop k):=by
 intro v an;rcases aK3.1 an with an|an
 ·rcases aK3.1 an with an|an
  ·exact h v (aMl an)
  ·exact cR v an
 ·exact h v (aMV an)
theorem X8 (off:Nat):∀(al:List Value) (k:Nat) (cells:Array Value),off+k+al.length<=cells.size->
 ((al.zipIdx k).foldl (λap (x:Value×Nat)=>ap.setIfInBounds (off+x.2) x.1) cells).toList=cells.toList.take (off+k)++al++cells.toList.drop (off+k+al.length)
 | [],k,cells,_=>by simp
 |v::bS,k,cells,h=>by
  simp only[List.zipIdx_cons,aMb];rw[X8 off bS (k+1) _ (by simp at h ⊢;omega)];have e:=list_seg_step cells.toList (off+k) v bS (by simp at h ⊢;omega);simpa[Array.toList_setIfInBounds,aM9] using e
theorem atA (cells:Array Value)(off:Nat)(v:Value)(h:off+v.cells.size<=cells.size):
 (v.cells.zipIdx.foldl (λap (x:Value×Nat)=>ap.setIfInBounds (off+x.2) x.1) cells).toList=cells.toList.take off++v.cells.toList++cells.toList.drop (off+v.cells.toList.length):=by
 have:=X8 off v.cells.toList 0 cells (by simpa using h);simp only[aOl] at this;rw[<-this,<-Array.foldl_toList];simp
theorem Gr {C:bD}(Lm:Nat->Option (Nat×Nat)):∀(jq:List Nat) (aa:List (Nat×Nat)) (vs:List F) (al:List Value) (ap ge:List F) (cells:Array Value),
 aa=jq.filterMap Lm->jq.all (λc=>(Lm c).isSome)=true->aE C vs al->oQ ap aa vs=some ge->(vs.all λv=>(cp v).all cV)=true->aE C ap cells.toList->
 ∃z,Instr.fill Lm cells (jq.zip al)=some z/\aE C ge z.toList/\(iU cells.toList->iU z.toList)
 | [],aa,vs,al,ap,ge,cells,ak,_,an,hf,d,ad=>by
  simp at ak;subst ak;cases vs with
  |nil=>simp[oQ] at hf;subst hf;exact⟨cells,by simp[Instr.fill],ad,λh=>h⟩
  |cons v vs=>simp[oQ] at hf
 |c::jq,aa,vs,al,ap,ge,cells,ak,aC,an,hf,d,ad=>by
  simp only[aMN,aKJ] at aC;obtain⟨q,aV⟩:=Option.isSome_iff_exists.1 aC.1;obtain⟨off,U⟩:=q;simp only[List.filterMap_cons,aV] at ak;subst ak;cases vs with
  |nil=>simp[oQ] at hf
  |cons v vs=>
   rw[aE] at an;obtain⟨u,bS,rfl,bc,Gf⟩:=an;simp only[aMN,aKJ] at d;simp only[oQ] at hf;split at hf
   ·rename_i JI;obtain⟨bO,cd⟩:=DJ bc d.1;have cK:u.cells.toList.length=(cp v).length:=bO.length;have gN:=ad.length;simp only[aLE] at cK gN;have cn:=atA cells off u (by omega);have dv:aE C (fb ap off (cp v)) (u.cells.zipIdx.foldl (λap (x:Value×Nat)=>ap.setIfInBounds (off+x.2) x.1) cells).toList:=by
     rw[cn];exact ad.fb bO
    obtain⟨z,aKO,cY,fY⟩:=Gr Lm jq _ vs bS _ ge _ rfl aC.2 Gf hf d.2 dv;refine⟨z,?_,cY,λGq=>fY ?_⟩
    ·simp only[List.zip_cons_cons,Instr.fill,aV];rw[S (by simp;omega)];exact aKO
    ·rw[cn];exact Gq.fb cd
   ·cases hf
theorem Be (M:Array Value):∀(n:Nat),((Array.range (n*M.size)).map (M[·%M.size]!)).toList=(List.replicate n M.toList).flatten
 |0=>by simp
 |n+1=>by
  rw[List.replicate_succ',aM5,<-Be M n];refine aLT λj=> ?_;simp only[aOm,Array.toList_range,aLG,aK9,aLe,List.length_range,aLS,List.flatten_nil,aLY]
  by_cases h:j<n*M.size
  ·rw[Rc h,aMU h,aMU (by rw[aLM];omega)]
  ·rw[S h]
   by_cases G:j<(n+1)*M.size
   ·have au:j-n*M.size<M.size:=by rw[aLM] at G;omega
    rw[aMU G];have:j%M.size=j-n*M.size:=by
     rw[Nat.mod_eq_sub_mul_div];have:j / M.size=n:=by
      refine Nat.div_eq_of_lt_le ?_ ?_
      ·omega
      ·exact G
     rw[this,Nat.mul_comm]
    simp[this,au]
   ·rw[aLM] at G;rw[aLB (by simp[aLM];omega),aLB (by simp;omega)];rfl
theorem PH {U:Nat}:∀(jq:List Nat) (vs:List F) (ar mP:List (List F)),oV ar U jq vs=some mP->(∀e∈ar,e.length=U)->
 oQ ar.flatten (jq.map λc=>(c*U,U)) vs=some mP.flatten/\(∀e∈mP,e.length=U)/\mP.length=ar.length
 | [],[],ar,mP,h,ao=>by simp[oV] at h;subst h;exact⟨by simp[oQ],ao,rfl⟩
 | [],v::vs,ar,mP,h,ao=>by simp[oV] at h
 |c::jq,[],ar,mP,h,ao=>by simp[oV] at h
 |c::jq,v::vs,ar,mP,h,ao=>by
  simp only[oV] at h;split at h
  ·rename_i ad;have eR:ar.getD c []∈ar:=by
    rw[aLn,aKS ad.2];simp
   have ho:fb (ar.getD c []) 0 (cp v)=cp v:=by
    have:=ao _ eR;simp only[fb,aOZ,aLV,aL5];rw[aP3 (by omega)];simp
   have hf:=Ke (U:=U) (cp v) 0 ar c ao ad.2 (by omega);rw[ho,aOl] at hf;have xC:∀e∈ar.set c (cp v),e.length=U:=by
    intro e he;rcases aNZ he with he|rfl
    ·exact ao e he
    ·exact ad.1
   obtain⟨bO,cd,fk⟩:=PH jq vs _ mP h xC;refine⟨?_,cd,by simpa using fk⟩;simp only[aKP,oQ];have eA:c*U+U<=ar.flatten.length:=by
    rw[zi ao];have: (c+1)*U<=ar.length*U:=aMF _ ad.2;rw[aLM] at this;omega
   rw[Rc ⟨ad.1,eA⟩,<-hf];exact bO
  ·cases h
def BF:Value->Option F
 | .int k n=>some (.int k n)
 | .bool b=>some (.bool b)
 | .string I=>some (.str I)
 | .slice none 0 0=>some .bH
 | .pointer none=>some .kt
 | .map none=>some .kH
 |_=>none
theorem Ki {C:bD}{v:Value}{a:F}(h:BF v=some a):Rep C a v/\cV a=true:=by
 unfold BF at h;split at h<;>simp at h<;>subst h<;>simp[Rep,cV]
def zO:List Value->Option (List F)
 | []=>some []
 |v::vs=>
  match BF v,zO vs with
  |some a,some as=>some (a::as)
  |_,_=>none
theorem rV {C:bD}:∀{vs:List Value} {as:List F},zO vs=some as->aE C as vs/\as.all cV=true
 | [],as,h=>by simp[zO] at h;subst h;simp[aE]
 |v::vs,as,h=>by
  simp only[zO] at h;split at h
  ·rename_i a dl aC af;simp at h;subst h;obtain⟨d,G⟩:=Ki (C:=C) aC;obtain⟨bO,cd⟩:=rV (C:=C) af;refine⟨?_,by simp only[aMN,G,cd,aK4]⟩;rw[aE];exact⟨v,vs,rfl,d,bO⟩
  ·cases h
def nt (P:Program)(t:TypeId):Option (List F):=
 match P.info? t with
 |some c=>
  match c.zero with
  |some M=>
   match zO M.cells.toList with
   |some ap=>if ap.length=c.size/\0<c.size then some ap else none
   |none=>none
  |none=>none
 |none=>none
theorem sW {P:Program}{t:TypeId}{ap:List F}(h:nt P t=some ap):
 ∃c M,P.info? t=some c/\c.zero=some M/\zO M.cells.toList=some ap/\ap.length=c.size/\0<c.size/\M.cells.size=c.size:=by
 unfold nt at h;split at h
 ·rename_i c av;split at h
  ·rename_i M ba;split at h
   ·rename_i ge ad;split at h
    ·rename_i hl;simp at h;subst h;have:=(rV (C:=⟨[],[],λ_=>False,default,false⟩) ad).1.length;simp only[aLE] at this;exact⟨c,M,av,ba,ad,hl.1,hl.2,by omega⟩
    ·cases h
   ·cases h
  ·cases h
 ·cases h
def hq (P:Program)(t:TypeId):Option Bool:=
 match P.underlying t with
 |some (.struct _)|some (.array _ _)=>some true
 |some _=>some false
 |none=>none
def ie (P:Program)(t:TypeId):Option Nat:=(P.info? t).map (·.size)
def Bl (P:Program)(sub:TypeId->Option (List cW)):List Field->Nat->Option (List cW)
 | [],_=>some []
 |f::fg,off=>
  if f.name≠ "_" /\f.offset=off then
   match sub f.type with
   |some Y=>
    if ie P f.type=some Y.length then
     match Bl P sub fg (off+Y.length) with
     |some bS=>some (Y++bS)
     |none=>none
    else none
   |none=>none
  else none
def flatK (P:Program):Nat->TypeId->Option (List cW)
 |0,_=>none
 |B+1,t=>
  match P.underlying t with
  |some (.int k)=>some [.int k]
  |some .bool=>some [.bool]
  |some .string=>some [.str]
  |some (.struct fg)=>if P.stoodInHeld t then none else Bl P (flatK P B) fg.toList 0
  |_=>none
def zf (P:Program)(t:TypeId):Option F:=
 match P.info? t with
 |some c=>
  match c.zero with
  |some (.agg ap)=>(zO ap.toList).map .agg
  |some M=>BF M
  |none=>none
 |none=>none
theorem Vb {P:Program}{t:TypeId}{a:F}(h:zf P t=some a):∃c M,P.info? t=some c/\c.zero=some M/\ ∀C,Rep C a M:=by
 unfold zf at h;split at h
 ·rename_i c av;split at h
  ·rename_i ap ba;cases an:zO ap.toList with
   |none=>rw[an] at h;simp at h
   |some as=>
    rw[an] at h;simp at h;subst h;exact⟨c,_,av,ba,λC=>by rw[Rep];exact⟨ap,rfl,(rV an).1⟩⟩
  ·rename_i M _ ba;exact⟨c,M,av,ba,λC=>(Ki h).1⟩
  ·cases h
 ·cases h
def te (P:Program)(t:TypeId):Option (Bool×List cW):=
 match hq P t,flatK P 20 t with
 |some aK,some Y=>some (aK,Y)
 |_,_=>none
def pB (P:Program)(V:Oper):Option (gc×List Operand):=
 match V.op with
 | .move x| .assign x=>some (.qt,[x])
 | .pick J a b=>some (.pick,[J,a,b])
 | .alloc t=>
  match nt P t with
  |some M=>some (.alloc t M,[])
  |none=>none
 | .box t x=>
  match ie P t with
  |some n=>some (.box t n,[x])
  |none=>none
 | .build t et=>
  match nt P t,P.underlying t with
  |some M,some (.struct pz)=>
   match pz.toList.mapM (λf=>(ie P f.type).map λn=>(f.offset,n)) with
   |some sc=>
    if (et.toList.map (·.1)).all (λc=>(sc[c]?).isSome) then some (.build M ((et.toList.map (·.1)).filterMap (sc[·]?)),et.toList.map (·.2)) else none
   |none=>none
  |some M,some (.array _ e)=>
   match ie P e with
   |some n=>some (.build M ((et.toList.map (·.1)).map λc=>(c*n,n)),et.toList.map (·.2))
   |none=>none
  |_,_=>none
 | .buildSlice t len et=>
  match P.underlying t with
  |some (.slice e)=>
   match nt P e with
   |some M=>if len=0/\et.size=0 then some (.DR,[]) else if len*M.length<=16777216 then some (.sk e M.length M len (et.toList.map (·.1)),et.toList.map (·.2)) else none
   |none=>none
  |_=>none
 | .makeSlice t l J=>
  match P.underlying t with
  |some (.slice e)=>
   match nt P e,(P.info? e).map (·.bytes) with
   |some M,some jW=>if jW=0 then none else some (.uI e M.length jW M,[l,J])
   |_,_=>none
  |_=>none
 | .load t x=>
  match hq P t,ie P t with
  |some true,some n=>some (.pG n,[x])
  |some false,_=>some (.pF,[x])
  |_,_=>none
 | .store t x y=>
  match ie P t with
  |some n=>some (.store n,[x,y])
  |none=>none
 | .nilCheck x=>some (.tu,[x])
 | .binOp op t x y _=>
  match P.underlying t with
  |some (.int _)|some .string=>some (.iY op,[x,y])
  |some .bool=>
   match op with
   | .eql=>some (.Gs false,[x,y])
   | .neq=>some (.Gs true,[x,y])
   |_=>none
  |some (.struct _)=>
   match flatK P 20 t with
   |some Y=>
    if P.eqGuardType P.depth t then none else
    match op with
    | .eql=>some (.rj false Y,[x,y])
    | .neq=>some (.rj true Y,[x,y])
    |_=>none
   |none=>none
  |some (.slice e)=>
   match ie P e,op,y with
   |some n,.eql,.const (.slice none 0 0)=>some (.zx n false,[x])
   |some n,.neq,.const (.slice none 0 0)=>some (.zx n true,[x])
   |_,_,_=>none
  |_=>none
 | .unOp .not _ x=>some (.not,[x])
 | .unOp .neg _ x=>some (.neg,[x])
 | .convert I B x=>
  match P.underlying I,P.underlying B with
  |some (.int _),some (.int k)=>some (.conv k,[x])
  |some (.slice e),some .string=>
   match P.underlying e with
   |some (.int .u8)=>some (.Kk,[x])
   |_=>none
  |some (.slice e),some (.slice _)=>
   if I=B then
    match P.underlying e with
    |some (.int .u8)=>some (.jN,[x])
    |_=>none
   else none
  |_,_=>none
 | .fieldAddr I x f=>
  match P.underlying I with
  |some (.struct pz)=>
   match pz[f]? with
   |some pC=>
    match ie P pC.type with
    |some n=>if n=0 then none else some (.fieldAddr pC.offset,[x])
    |none=>none
   |none=>none
  |_=>none
 | .field I x f=>
  match P.underlying I with
  |some (.struct pz)=>
   match pz[f]? with
   |some pC=>
    match hq P pC.type,ie P pC.type with
    |some true,some n=>some (.P7 pC.offset n,[x])
    |some false,_=>some (.P6 pC.offset,[x])
    |_,_=>none
   |none=>none
  |_=>none
 | .indexAddr t x c=>
  match P.underlying t with
  |some (.slice e)=>
   match ie P e with
   |some n=>some (.indexAddr n,[x,c])
   |none=>none
  |some (.array len e)=>
   match ie P e with
   |some n=>if 1<len then some (.wb len n,[x,c]) else none
   |none=>none
  |_=>none
 | .index t x c=>
  match P.underlying t with
  |some .string=>some (.index,[x,c])
  |some (.array len e)=>
   match hq P e,ie P e with
   |some true,some n=>some (.P9 len n,[x,c])
   |some false,some 1=>some (.P8 len,[x,c])
   |_,_=>none
  |_=>none
 | .slice t x ft av none=>
  match P.underlying t with
  |some (.slice e)=>
   match ie P e with
   |some n=>some (.slice ft.isSome av.isSome n,x::(ft.toList++av.toList))
   |none=>none
  |some .string=>some (.xV ft.isSome av.isSome,x::(ft.toList++av.toList))
  |_=>none
 | .extract x c=>some (.extract c,[x])
 | .call {callee:= .builtin .len,args:=⟨[x]⟩,argTypes:=⟨[t]⟩}=>
  match P.underlying t with
  |some (.slice _)=>some (.len,[x])
  |some .string=>some (.DT,[x])
  |some (.map _ _)=>some (.Kl,[x])
  |_=>none
 | .call {callee:= .builtin .append,args:=⟨[x,y]⟩,argTypes:=⟨[t,u]⟩}=>
  if t=u then
   match P.underlying t with
   |some (.slice e)=>
    match nt P e,(P.info? e).map (·.bytes) with
    |some M,some jW=>if jW=0 then none else some (.append e M.length jW,[x,y])
    |_,_=>none
   |_=>none
  else
   match P.underlying t,P.underlying u with
   |some (.slice e),some (.int .i64)=>
    match nt P e,(P.info? e).map (·.bytes) with
    |some M,some jW=>if jW=0 then none else some (.BI e M.length jW M,[x,y])
    |_,_=>none
   |_,_=>none
 | .call {callee:= .builtin .min,args:=⟨[x,y]⟩,argTypes:=_}=>some (.wa false,[x,y])
 | .call {callee:= .builtin .max,args:=⟨[x,y]⟩,argTypes:=_}=>some (.wa true,[x,y])
 | .call {callee:= .builtin .max,args:=⟨[x,y,M]⟩,argTypes:=_}=>some (.wa true,[x,y,M])
 | .call {callee:= .value (.func f),args:=args,argTypes:=_}=>
  match P.funcs[f]? with
  |some fn=>if fn.body.isSome&&fn.name != "runtime.NumGoroutine" then some (.call f,args.toList) else none
  |none=>none
 | .call {callee:= .builtin .copy,args:=⟨[x,y]⟩,argTypes:=⟨[t,u]⟩}=>
  if t=u then
   match P.underlying t with
   |some (.slice e)=>
    match ie P e with
    |some n=>some (.copy n,[x,y])
    |none=>none
   |_=>none
  else none
 | .makeFunc (.func f) ⟨[]⟩ OJ=>some (.Qa f,OJ.toList)
 | .makeMap t none=>
  match P.underlying t with
  |some (.map k _)=>
   match te P k with
   |some (aK,Y)=>some (.zy aK Y,[])
   |none=>none
  |_=>none
 | .lookup t x c ok=>
  match P.underlying t with
  |some (.map k e)=>
   match te P k,zf P e with
   |some (aK,Y),some M=>some (.iw ok aK Y M,[x,c])
   |_,_=>none
  |_=>none
 | .mapUpdate t m c v=>
  match P.underlying t with
  |some (.map k _)=>
   match te P k with
   |some (aK,Y)=>some (.pE aK Y,[m,c,v])
   |none=>none
  |_=>none
 | .mapEntry t m c=>
  match P.underlying t with
  |some (.map k e)=>
   match te P k,zf P e with
   |some (aK,Y),some M=>some (.oU aK Y M,[m,c])
   |_,_=>none
  |_=>none
 | .entryStore _ m I v=>some (.sj,[m,I,v])
 | .range t x=>
  match P.underlying t with
  |some (.map _ _)=>some (.eh,[x])
  |_=>none
 | .next x false=>some (.next,[x])
 | .entry x=>some (.entry,[x])
 | .call {callee:= .builtin .cap,args:=⟨[x]⟩,argTypes:=⟨[t]⟩}=>
  match P.underlying t with
  |some (.slice _)=>some (.cap,[x])
  |_=>none
 | .call {callee:= .builtin .clear,args:=⟨[x]⟩,argTypes:=⟨[t]⟩}=>
  match P.underlying t with
  |some (.slice e)=>
   match nt P e with
   |some M=>some (.clear M.length M,[x])
   |none=>none
  |_=>none
 | .call {callee:= .value (.tmp t),args:=args,argTypes:=_}=>some (.xE,.tmp t::args.toList)
 |_=>none
end Go.Abs
namespace Go.Abs
variable [Dr]
def dW (P:Program)(C:bD)(I:Sem Next)(K:F->List Z->Prop):Prop:=
 ∃n aZ v aB,I.run P C.w= .ok n aB.w/\(n= .value aZ\/(n= .skip/\aZ=undef))/\Rep aB v aZ/\ci aB/\cm C.r.length C aB/\K v aB.r
theorem Gt {C:bD}{as:List F}(h:aE C as []):as=[]:=by
 have:=h.length;simp at this;exact aNm this.symm
theorem iu {C:bD}{as:List F}{v:Value}(h:aE C as [v]):∃a,as=[a]/\Rep C a v:=by
 cases as with
 |nil=>rw[aE] at h;cases h
 |cons a as=>
  rw[aE] at h;obtain⟨u,bS,he,d,G⟩:=h;simp at he;obtain⟨rfl,rfl⟩:=he;rw[Gt G];exact⟨a,rfl,d⟩
theorem mf {C:bD}{as:List F}{v w:Value}(h:aE C as [v,w]):∃a b,as=[a,b]/\Rep C a v/\Rep C b w:=by
 cases as with
 |nil=>rw[aE] at h;cases h
 |cons a as=>
  rw[aE] at h;obtain⟨u,bS,he,d,G⟩:=h;simp at he;obtain⟨rfl,rfl⟩:=he;obtain⟨b,rfl,af⟩:=iu G;exact⟨a,b,rfl,d,af⟩
theorem J1 {C:bD}{as:List F}{v w x:Value}(h:aE C as [v,w,x]):∃a b J,as=[a,b,J]/\Rep C a v/\Rep C b w/\Rep C J x:=by
 cases as with
 |nil=>rw[aE] at h;cases h
 |cons a as=>
  rw[aE] at h;obtain⟨u,bS,he,d,G⟩:=h;simp at he;obtain⟨rfl,rfl⟩:=he;obtain⟨b,J,rfl,af,ad⟩:=mf G;exact⟨a,b,J,rfl,d,af,ad⟩
section
variable {P:Program} {C:bD} {K:F->List Z->Prop}
theorem dW.akn (aA:ci C){I:Sem Value}{v:F}{aZ:Value}(ao:I.run P C.w= .ok aZ C.w)(N:Rep C v aZ)(O:K v C.r):
 dW P C (do pure (.value (<-I))) K:=
 ⟨.value aZ,aZ,v,C,by simp[ao],.inl rfl,N,aA,cm.refl C,O⟩
theorem dW.ako {aB:bD}(aA:ci aB)(hl:cm C.r.length C aB){I:Sem Value}{v:F}{aZ:Value}(ao:I.run P C.w= .ok aZ aB.w)(N:Rep aB v aZ)(O:K v aB.r):
 dW P C (do pure (.value (<-I))) K:=
 ⟨.value aZ,aZ,v,aB,by simp[ao],.inl rfl,N,aA,hl,O⟩
theorem dW.unit {aB:bD}(aA:ci aB)(hl:cm C.r.length C aB){I:Sem Unit}(ao:I.run P C.w= .ok () aB.w)(O:K (.bo []) aB.r):
 dW P C (do I;pure .skip) K:=
 ⟨.skip,undef,.bo [],aB,by simp[ao],.inr ⟨rfl,rfl⟩,by rw[Rep];exact⟨#[],rfl,by simp[aE]⟩,aA,hl,O⟩
theorem dC.oL {b V:Nat}{cells:List F}(j:Nat)(h:dC C b V cells)(hj:j<cells.length):
 ∃v,C.w.cell? ⟨b,V+j,none⟩=some v/\Rep C (cells.getD j .cj) v:=by
 obtain⟨vs,d,G,_⟩:=qv.1 h;obtain⟨v,bO,cd⟩:=d.oL j hj;exact⟨v,G j v bO,cd⟩
theorem sZ (b V n:Nat): (⟨b,V,none⟩:Addr).add n=⟨b,V+n,none⟩:=by
 unfold Addr.add;split<;>simp_all
theorem Bi {t:TypeId}{x:Bool}(h:hq P t=some x)(w:World): (isAgg t).run P w= .ok x w:=by
 unfold hq at h;cases ay:P.underlying t with
 |none=>rw[ay] at h;simp at h
 |some B=>
  rw[ay] at h;unfold isAgg;simp only[Sem.run_bind,run_underlying ay,Result.andThen_ok];cases B<;>simp at h<;>subst h<;>simp
theorem mL {t:TypeId}{n:Nat}(h:ie P t=some n)(w:World): (sizeOf t).run P w= .ok n w:=by
 unfold ie at h;cases av:P.info? t with
 |none=>rw[av] at h;simp at h
 |some c=>rw[av] at h;simp at h;subst h;simp[sizeOf,typeInfo,av]
theorem sY {t:TypeId}{c:TypeInfo}{M:Value}(av:P.info? t=some c)(ba:c.zero=some M)(w:World): (zeroValue t).run P w= .ok M w:=by
 simp[zeroValue,typeInfo,av,ba]
theorem atB {b V:Nat}{vs:List Value}{w:World}(h:DI w b V vs): (loadCells ⟨b,V,none⟩ vs.length).run P w= .ok vs.toArray w:=
 run_loadCells_list w ⟨b,V,none⟩ vs λj v hj=>by rw[sZ];exact h j v hj
theorem Vu (aA:ci C){t:TypeId}{x:F}{cz:Value}(N:Rep C x cz)(aC:hq P t=some false)
 (h:qu C.r x λv=>K v C.r):∃aZ v,(Instr.loadAt t cz).run P C.w= .ok aZ C.w/\Rep C v aZ/\K v C.r:=by
 cases x<;>simp only[qu] at h
 case bd z n c off=>
  split at h
  ·rename_i e U am hrow;obtain⟨aH,pw,O⟩:=h;rw[Rep] at N;obtain⟨_,_,fA,N⟩:=N;obtain⟨av,b,J,ak,rfl⟩:=(N e U am hrow).2 aH;rcases aA.ag hrow with ⟨hl,_⟩|⟨eE,cap,ap,hl,d,G,au,bv,cx,dx⟩
   ·rw[ak] at hl;simp at hl
   ·rw[ak] at hl;simp at hl;obtain⟨rfl,rfl⟩:=hl;obtain⟨bO,cd⟩:=dx.oL c (by omega);obtain⟨v,c1,c2⟩:=cd.oL off (by omega);refine⟨v,_,?_,c2,O⟩;simp only[aL5] at c1;simp[Instr.loadAt,Instr.sureAddr,loadVar,Bi aC,c1]
  ·exact h.elim
 case en cells off=>
  rw[Rep] at N;obtain⟨b,V,rfl,af,ad⟩:=N;have ad:=dC.oJ b V cells ad;obtain⟨v,c1,c2⟩:=ad.oL off h.1;refine⟨v,_,?_,c2,h.2⟩;simp[Instr.loadAt,Instr.sureAddr,loadVar,Bi aC,c1]
theorem Vt (aA:ci C){t:TypeId}{m:Nat}{x:F}{cz:Value}(N:Rep C x cz)(aC:hq P t=some true)(ao:ie P t=some m)
 (h:oW C.r m x λv=>K v C.r):∃aZ v,(Instr.loadAt t cz).run P C.w= .ok aZ C.w/\Rep C v aZ/\K v C.r:=by
 have key:∀{b V:Nat} {cells:List F},dC C b V cells->cells.length=m-> ∃aZ,(Instr.loadAt t (.pointer (some ⟨b,V,none⟩))).run P C.w= .ok aZ C.w/\Rep C (.agg cells) aZ:=by
  intro b V cells ad hl;obtain⟨vs,d,G,_⟩:=qv.1 ad;have:=d.length;refine⟨.agg vs.toArray,?_,by rw[Rep];exact⟨_,rfl,by simpa using d⟩⟩;have Gm:=atB (P:=P) G;rw[show vs.length=m from by omega] at Gm;simp[Instr.loadAt,Instr.sureAddr,loadVar,Bi aC,mL ao,Gm]
 cases x<;>simp only[oW] at h
 case bd z n c off=>
  split at h
  ·rename_i e U am hrow;obtain⟨aH,pw,O⟩:=h;rw[Rep] at N;obtain⟨_,_,fA,N⟩:=N;obtain⟨av,b,J,ak,rfl⟩:=(N e U am hrow).2 aH;rcases aA.ag hrow with ⟨hl,_⟩|⟨eE,cap,ap,hl,d,G,au,bv,cx,dx⟩
   ·rw[ak] at hl;simp at hl
   ·rw[ak] at hl;simp at hl;obtain⟨rfl,rfl⟩:=hl;obtain⟨bO,cd⟩:=dx.oL c (by omega);have fk:=(cd.drop off).take m;rw[aL5] at fk;obtain⟨aZ,c1,c2⟩:=key fk (by rw[aLd,aLt];omega);exact⟨aZ,_,c1,c2,O⟩
  ·exact h.elim
 case en cells off=>
  rw[Rep] at N;obtain⟨b,V,rfl,af,ad⟩:=N;have ad:=dC.oJ b V cells ad;obtain⟨aZ,c1,c2⟩:=key ((ad.drop off).take m) (by rw[aLd,aLt];omega);exact⟨aZ,_,c1,c2,h.2⟩
theorem akA (aA:ci C){t:TypeId}{m:Nat}{x y:F}{cz fQ:Value}(N:Rep C x cz)(bt:Rep C y fQ)(ao:ie P t=some m){K:List Z->Prop}
 (h:xJ C.r m x y K):∃aB,(Instr.storeAt t cz fQ).run P C.w= .ok () aB.w/\ci aB/\cm C.r.length C aB/\K aB.r:=by
 cases x<;>simp only[xJ] at h
 case bd z n c off=>
  split at h
  ·rename_i e U am hrow;obtain⟨aH,pw,cK,Gq,O⟩:=h;rw[Rep] at N;obtain⟨_,_,fA,N⟩:=N;obtain⟨av,b,J,ak,rfl⟩:=(N e U am hrow).2 aH;rcases aA.ag hrow with ⟨hl,_⟩|⟨eE,cap,ap,hl,d,G,au,bv,cx,dx⟩
   ·rw[ak] at hl;simp at hl
   ·rw[ak] at hl;simp at hl;obtain⟨rfl,rfl⟩:=hl;obtain⟨vs,he,oM⟩:=dx.tg;have pt:=Gn G oM;have xx:=he.length;obtain⟨c1,c2⟩:=DJ bt Gq;have gN:=c1.length;have kv: (c+1)*U<=am.length*U:=aMF _ (by omega);have vK:am.length*U<=J*U:=aMF _ cx;rw[aLM] at kv;have cn:=run_storeCells_at P b (c*U+off) e fQ.cells.toList 0 ap C.w G (by omega) c2;simp only[aOl] at cn;have dJ:fQ.cells.size=m:=by have:=gN;simp only[aLE] at this;omega
    have gi:=zl aA hrow ak b J (ap.toList.take (c*U+off)++fQ.cells.toList++ap.toList.drop (c*U+off+fQ.cells.toList.length)).toArray
     (am.set c (fb (am.getD c []) off (cp y))) (vs.take (c*U+off)++fQ.cells.toList++vs.drop (c*U+off+fQ.cells.toList.length))
     (C.w.setRow b (ap.toList.take (c*U+off)++fQ.cells.toList++ap.toList.drop (c*U+off+fQ.cells.toList.length)).toArray)
     ⟨rfl,rfl,rfl,by simp,λk _ gj=>setRow_other C.w b k _ (λe=>gj (by simp[e]))⟩ (.inl rfl) (setRow_heap C.w b ap _ e _ G)
     (by simp only[aMG,aKK,aLd,aLt,aLE];simp only[aLE] at gN;omega)
     bv (by simpa using cx)
     ⟨λx aj=> ?_,?_,he.cV.fb c2⟩ ?_ (by simp) (λ_=>rfl)
    ·refine⟨⟨C.r.set z (.ag e U (am.set c (fb (am.getD c []) off (cp y)))),C.bu.set z (some (b,J)),C.bY,C.w.setRow b (ap.toList.take (c*U+off)++fQ.cells.toList++ap.toList.drop (c*U+off+fQ.cells.toList.length)).toArray,C.bZ⟩,?_,gi.1,gi.2,O⟩;simp only[Instr.storeAt,Instr.sureAddr,storeVar,Sem.run_bind,Sem.run_pure,Result.andThen_ok,mL ao];rw[S (by simpa using dJ)];simp only[Sem.run_bind,Sem.run_pure,Result.andThen_ok,cn]
    ·rcases aNZ aj with aj|rfl
     ·exact he.jl x aj
     ·have cg:am.getD c []∈am:=by
       rw[aLn,aKS (by omega)];simp
      have lp:=he.jl _ cg;rw[VW (by omega)];exact lp
    ·rw[Ke (U:=U) (cp y) off am c he.jl (by omega) (by omega)];exact he.kO.fb c1
    ·simp only[aKK,aLd,aLt];have Gp:vs.length<=ap.toList.length:=by simp only[aLE];omega
     have bF:min (c*U+off) vs.length+fQ.cells.toList.length+(vs.length-(c*U+off+fQ.cells.toList.length))=vs.length:=by omega
     rw[bF];show List.take vs.length (ap.toList.take (c*U+off)++fQ.cells.toList++ap.toList.drop (c*U+off+fQ.cells.toList.length))=_;rw[OG ap.toList fQ.cells.toList vs.length (c*U+off) (by omega) Gp,pt]
  ·exact h.elim
end
end Go.Abs
namespace Go.Abs
variable [Dr]
section
variable {P:Program} {C:bD} {K:F->List Z->Prop}
theorem Ln {r:List Z}{bu:List (Option (Nat×Nat))}{bY:Nat->Prop}{w:World}{e:TypeId}{U b cap:Nat}{cells:List F}(hl:bu.length=r.length):
 Rep ⟨r++[.ag e U [cells]],bu++[some (b,cap)],bY,w,false⟩ (.bd r.length 1 0 0) (.pointer (some ⟨b,0,none⟩)):=by
 rw[Rep];refine⟨rfl,⟨_,rfl⟩,by simp,λcO bz am h=> ?_⟩;simp at h;obtain⟨rfl,rfl,rfl⟩:=h;exact⟨by simp,λ_=>⟨by simp,b,cap,by simp[<-hl],by simp⟩⟩
theorem JJ {r:List Z}{bu:List (Option (Nat×Nat))}{bY:Nat->Prop}{w:World}{e:TypeId}{U b cap:Nat}{am:List (List F)}(hl:bu.length=r.length)(ad:am.length<=cap):
 Rep ⟨r++[.ag e U am],bu++[some (b,cap)],bY,w,false⟩ (.own r.length am.length 0 am.length) (.slice (some ⟨b,0,none⟩) am.length cap):=by
 rw[Rep];refine⟨rfl,⟨_,_,rfl⟩,by simp,λcO bz dk h=> ?_⟩;simp at h;obtain⟨rfl,rfl,rfl⟩:=h;exact⟨by simp,λ_=>⟨by simp,some (b,cap),by simp[<-hl],⟨b,0,none⟩,cap,rfl,ad,rfl,rfl,λ_=>⟨rfl,rfl⟩,λ_=>by simp⟩⟩
theorem DX {U:Nat}{cells:List F}{vs:List Value}(hl:cells.length=U)(h:aE C cells vs)(d:iU vs):fs C U [cells] vs:=
 ⟨by simp[hl],by simpa using h,d⟩
theorem JU {C:bD}(aA:ci C){U:Nat}{y:F}{fQ:Value}{ys:List (List F)}(N:Rep C y fQ)(h:jr C.r U y=some ys):
 ∃cy J,fQ= .slice cy ys.length J/\((cy=none/\ys=[])\/ ∃a vs,cy=some a/\fs C U ys vs/\ ∀(j:Nat) (u:Value),vs[j]? =some u->C.w.cell? (a.add j)=some u):=by
 cases y
 case bH=>
  simp only[jr] at h;simp at h;subst h;rw[Rep] at N;obtain⟨cy,rfl⟩:=N;cases cy with
  |none=>exact⟨none,0,rfl,.inl ⟨rfl,rfl⟩⟩
  |some a=>exact⟨some a,0,rfl,.inr ⟨a,[],rfl,fs.nil C U,λj u hj=>by simp at hj⟩⟩
 case pure bz am=>
  simp only[jr] at h;split at h
  ·rename_i ao;simp at h;subst h;subst ao;rw[Rep] at N;obtain⟨cy,cap,rfl,_,N⟩:=N;refine⟨cy,cap,rfl,?_⟩;rcases N with N|⟨b,V,rfl,_,he⟩
   ·have:am=[]:=aNm N;subst this;cases cy with
    |none=>exact .inl ⟨rfl,rfl⟩
    |some a=>exact .inr ⟨a,[],rfl,fs.nil C bz,λj u hj=>by simp at hj⟩
   ·obtain⟨vs,d,G⟩:=(dh.oJ b bz V am he).tg;exact .inr ⟨_,vs,rfl,d,λj u hj=>by rw[sZ];exact G j u hj⟩
  ·cases h
 case own z n off len=>
  simp only[jr] at h;split at h
  ·rename_i e bz am hrow;split at h
   ·rename_i ad;obtain⟨rfl,aH,ta⟩:=ad;simp at h;rw[Rep] at N;obtain⟨_,_,_,N⟩:=N;obtain⟨_,p,ak,an⟩:=(N e bz am hrow).2 aH;have Qz:ys.length=len:=by rw[<-h,aLd,aLt];omega
    rcases aA.ag hrow with ⟨hl,iW⟩|⟨b,cap,ap,hl,d,G,au,bv,cx,dx⟩
    ·rw[ak] at hl;simp at hl;subst hl;simp only[oH] at an;obtain⟨⟨cy,rfl⟩,_,rfl⟩:=an;have lu:ys=[]:=aNm Qz;subst lu;cases cy with
     |none=>exact⟨none,0,rfl,.inl ⟨rfl,rfl⟩⟩
     |some a=>exact⟨some a,0,rfl,.inr ⟨a,[],rfl,fs.nil C bz,λj u hj=>by simp at hj⟩⟩
    ·rw[ak] at hl;simp at hl;subst hl;simp only[oH] at an;obtain⟨a,J,rfl,_,ho,af,_,bp⟩:=an;rw[Qz];refine⟨some a,J,rfl,.inr ⟨a,?_⟩⟩
     by_cases ba:len=0
     ·have:ys=[]:=aNm (by omega);subst this;exact⟨[],rfl,fs.nil C bz,λj u hj=>by simp at hj⟩
     ·obtain⟨vs,bO,cd⟩:=((dx.drop off).take len).tg;rw[h] at bO;refine⟨vs,rfl,bO,λj u hj=> ?_⟩;have:=cd j u hj;have aC:a=⟨b,off*bz,none⟩:=by
       obtain⟨x,y,M⟩:=a;simp only at ho af bp;rw[ho,af,bp (by omega)]
      rw[aC,sZ];simpa using this
   ·cases h
  ·cases h
 all_goals (simp only[jr] at h;cases h)
theorem X9 (w:World)(t gW e:TypeId)(c:TypeInfo)(M:Value)(ht:P.underlying t=some (.slice e))(av:P.info? e=some c)(ba:c.zero=some M)(EA:M.cells.size=c.size)(sX:c.bytes≠0)
 (p:Option (Nat×Nat)) (n:Nat) (aq:List Value) (ap:Array Value) (v:Value)
 (ak:match p with|none=>(∃cy,v= .slice cy 0 0)/\n=0/\aq=[]|some (g,cap)=>v= .slice (some ⟨g,0,none⟩) n cap/\w.heap[g]? =some (.cells ap e (0,0))/\ap.size=cap*c.size/\n<=cap/\cap<=maxLen/\ap.toList.take aq.length=aq/\aq.length=n*c.size)
 (a:Addr) (m J:Nat) (wq:List Value) (hl:wq.length=m*c.size) (oP:∀j u,wq[j]? =some u->w.cell? (a.add j)=some u) (d:∀u∈wq,u.oneCell'=true) (tz:p=none->0<m)
 (Lo: (n+m)*c.bytes<=140737488355328):
 ∃eE ha ge w',(Builtin.append_ #[t,t] gW #[v,.slice (some a) m J]).run P w= .ok (.slice (some ⟨eE,0,none⟩) (n+m) ha) w'/\w.grownBy w' (p.map (·.1))/\(p.map (·.1)=some eE\/w.heap.size<=eE)/\
  w'.heap[eE]? =some (.cells ge e (0,0))/\ge.size=ha*c.size/\ha<=maxLen/\n+m<=ha/\ge.toList.take (aq++wq).length=aq++wq/\(m=0->p=some (eE,ha)):=by
 have UX:n+m<=140737488355328:=aLk (aOj _ (by omega)) Lo;have atC:n+m<=maxLen:=by simp only[maxLen];omega
 cases p with
 |none=>
  obtain⟨⟨cy,rfl⟩,rfl,rfl⟩:=ak;have hm:=tz rfl;cases cy with
  |some b=>
   have N:=run_append_grow (P:=P) w t gW e c M ht av ba b 0 0 [] (by simp) (by simp) a m J wq hl oP (by omega) (by omega) (growslice_fits (by omega) Lo);have Bh:=grownCap_ge w (0+m) 0 e;refine⟨w.heap.size,grownCap w (0+m) 0 e,_,_,N,⟨rfl,rfl,rfl,by simp,λk O _=> ?_⟩,.inr (aKM _),heap_alloc_new w.drew _,?_,grownCap_le_maxLen w (0+m) 0 e (by omega),by omega,?_,λh=>by omega⟩
   ·exact heap_alloc_old w.drew _ O
   ·simp only[aOW,aMG,size_zeroCells,EA,hl,aLQ];rw[show 0+m*c.size+(grownCap w (0+m) 0 e-(0+m))*c.size=(m+(grownCap w (0+m) 0 e-(0+m)))*c.size from by rw[aLM];omega];congr 1;omega
   ·simp
  |none=>
  have N:=run_append_nil (P:=P) w t gW e c M ht av ba a m J wq hl oP hm (by omega) (by simp only[aL5] at Lo;omega);have Bh:=grownCap_ge w m 0 e;rw[aL5];refine⟨w.heap.size,grownCap w m 0 e,_,_,N,⟨rfl,rfl,rfl,by simp,λk O _=> ?_⟩,.inr (aKM _),heap_alloc_new w.drew _,?_,grownCap_le_maxLen w m 0 e (by omega),by omega,?_,λh=>by omega⟩
  ·exact heap_alloc_old w.drew _ O
  ·simp only[aOW,aMG,size_zeroCells,EA,hl,<-aLM];congr 1;omega
  ·simp
 |some q=>
  obtain⟨g,cap⟩:=q;obtain⟨rfl,aw,eK,Kj,EB,pt,zk⟩:=ak
  by_cases QA:n+m<=cap
  ·have uA:n*c.size+wq.length<=ap.size:=by rw[hl,eK,<-aLM];exact aMF _ QA
   have N:=run_append_room (P:=P) w t gW e c ht av g n cap ap aw a m J wq hl oP d QA uA;refine⟨g,cap,_,_,N,⟨rfl,rfl,rfl,by simp,λk _ O=>setRow_other w g k _ (λe=>O (by simp[e]))⟩,.inl rfl,setRow_heap w g ap _ e _ aw,?_,EB,QA,?_,λ_=>rfl⟩
   ·simp only[aMG,aKK,aLd,aLt,aLE];omega
   ·rw[<-zk,pt];exact aM6
  ·have holds:∀j u,aq[j]? =some u->w.cell? ((⟨g,0,none⟩:Addr).add j)=some u:=λj u hj=>by
    rw[sZ];exact KQ aw pt j u hj
   have N:=run_append_grow (P:=P) w t gW e c M ht av ba ⟨g,0,none⟩ n cap aq zk holds a m J wq hl oP (by omega) (by omega) (growslice_fits (by omega) Lo);have Bh:=grownCap_ge w (n+m) cap e;refine⟨w.heap.size,grownCap w (n+m) cap e,_,_,N,⟨rfl,rfl,rfl,by simp,λk O _=> ?_⟩,.inr (aKM _),heap_alloc_new w.drew _,?_,grownCap_le_maxLen w (n+m) cap e atC,Bh,?_,λh=>by omega⟩
   ·exact heap_alloc_old w.drew _ O
   ·simp only[aOW,aMG,size_zeroCells,EA,hl,zk,<-aLM];congr 1;omega
   ·simp only[Array.toList_append,aKT];rw[<-aKT];exact aM6
theorem Ya (w:World)(t gW e:TypeId)(c:TypeInfo)(ht:P.underlying t=some (.slice e))(av:P.info? e=some c)(cy:Option Addr)(n cap J:Nat)(aH:n<=cap):
 (Builtin.append_ #[t,t] gW #[.slice cy n cap,.slice none 0 J]).run P w= .ok (.slice cy n cap) w:=by
 cases cy<;>simp[Builtin.append_,run_underlying ht,sizeOf,typeInfo,av,Builtin.lenOf,aH,Builtin.firstCells,storeCells]
theorem akB (aA:ci C){t gW e:TypeId}{c:TypeInfo}{M:Value}(ht:P.underlying t=some (.slice e))(av:P.info? e=some c)(ba:c.zero=some M)(EA:M.cells.size=c.size)(sX:c.bytes≠0)
 {x y:F} {cz fQ:Value} (aj:Rep C x cz) (bt:Rep C y fQ) (h:uK C.r e c.size c.bytes x y K):
 ∃aZ v aB,(Builtin.append_ #[t,t] gW #[cz,fQ]).run P C.w= .ok aZ aB.w/\Rep aB v aZ/\ci aB/\cm C.r.length C aB/\K v aB.r:=by
 unfold uK at h;split at h
 ·exact h.elim
 rename_i ys kN;obtain⟨cy,J,rfl,xw⟩:=JU aA bt kN;split at h
 ·
  obtain⟨af,O⟩:=h;rw[Rep] at aj;obtain⟨jk,rfl⟩:=aj
  by_cases jD:ys=[]
  ·subst jD;have iW:=GE aA e c.size;refine⟨.slice jk 0 0,_,⟨C.r++[.ag e c.size []],C.bu++[none],C.bY,C.w,C.bZ⟩,?_,?_,iW.1,iW.2,O⟩
   ·rcases xw with ⟨rfl,_⟩|⟨a,vs,rfl,he,ad⟩
    ·exact Ya C.w t gW e c ht av jk 0 0 J (aKM _)
    ·cases jk<;>simp[Builtin.append_,run_underlying ht,sizeOf,typeInfo,av,Builtin.lenOf,Builtin.firstCells,loadCells,loadCellsFrom,storeCells]
   ·rw[Rep];refine⟨aA.bZ,⟨_,_,rfl⟩,by simp,λcO bz dk h=> ?_⟩;simp at h;obtain⟨rfl,rfl,rfl⟩:=h;exact⟨by simp,λ_=>⟨by simp,none,by simp[<-aA.dw],⟨_,rfl⟩,rfl,rfl⟩⟩
  ·rcases xw with ⟨rfl,iW⟩|⟨a,vs,rfl,he,ad⟩
   ·exact (jD iW).elim
   ·have iG:0<ys.length:=aNL.2 jD;obtain⟨eE,ha,ge,w',aKO,cY,fY,fc,sd,Hh,ws,Lp,Yb⟩:=X9 (P:=P) C.w t gW e c M ht av ba EA sX none 0 [] #[] (.slice jk 0 0) ⟨⟨_,rfl⟩,rfl,rfl⟩ a ys.length J vs he.length ad he.cV (λ_=>iG) (by simpa using af);rw[aL5] at aKO ws;rw[aLV] at Lp;simp only[aNG] at cY fY;have Lq:C.w.heap.size<=eE:=by rcases fY with fY|fY;cases fY;exact fY
    have iW:=GE aA e c.size;have hrow: (C.r++[Z.ag e c.size []])[C.r.length]? =some (.ag e c.size []):=by simp
    have rl: (C.bu++[none])[C.r.length]? =some (none:Option (Nat×Nat)):=by simp[<-aA.dw]
    have mc:=zl iW.1 (z:=C.r.length) hrow rl eE ha ge ys vs w' (by simpa using cY) (.inr Lq) fc sd Hh ws (he.ext iW.2.ext) Lp (by simp) (λh=>by simp at h;omega);refine⟨_,.own C.r.length ys.length 0 ys.length,_,aKO,?_,mc.1,(iW.2.trans mc.2 (by simp)),?_⟩
    ·rw[Rep];refine⟨aA.bZ,⟨_,_,rfl⟩,by simp,λcO bz dk h=> ?_⟩;simp at h;obtain⟨rfl,rfl,rfl⟩:=h;exact⟨by simp,λ_=>⟨by simp,some (eE,ha),by simp[<-aA.dw],⟨eE,0,none⟩,ha,rfl,ws,rfl,rfl,λ_=>⟨rfl,rfl⟩,λ_=>by simp⟩⟩
    ·simpa using O
 ·
  rename_i z n off len;split at h
  ·rename_i cO bz am hrow;obtain⟨rfl,rfl,aH,rfl,rfl,af,O⟩:=h;rw[Rep] at aj;obtain⟨_,_,fA,aj⟩:=aj;obtain⟨_,p,ak,an⟩:=(aj cO c.size am hrow).2 aH;have gy:z<C.bu.length:=by rw[aA.dw];exact fA
   have pK:∃ap aq,fs C c.size am aq/\(match p with|none=>(∃cy,cz= .slice cy 0 0)/\len=0/\aq=[]|some (g,cap)=>cz= .slice (some ⟨g,0,none⟩) len cap/\C.w.heap[g]? =some (.cells ap cO (0,0))/\ap.size=cap*c.size/\len<=cap/\cap<=maxLen/\ap.toList.take aq.length=aq/\aq.length=len*c.size):=by
    rcases aA.ag hrow with ⟨hl,iW⟩|⟨b,cap,ap,hl,d,G,au,bv,cx,dx⟩
    ·rw[ak] at hl;simp at hl;subst hl;subst iW;simp only[oH] at an;exact⟨#[],[],fs.nil C _,an.1,an.2.2,rfl⟩
    ·rw[ak] at hl;simp at hl;subst hl;simp only[oH] at an;obtain⟨a,dR,rfl,xm,ho,hp,pw,_⟩:=an;obtain⟨vs,bO,cd⟩:=dx.tg;obtain⟨bp,rfl⟩:=pw trivial;have aC:a=⟨b,0,none⟩:=by
      obtain⟨x,y,M⟩:=a;simp only at ho hp bp;rw[ho,hp,bp]
     subst aC;exact⟨ap,vs,bO,rfl,G,au,xm,bv,Gn G cd,by rw[bO.length,aH]⟩
   obtain⟨ap,aq,atD,cn⟩:=pK;have Hi:∃jk Cf,cz= .slice jk len Cf/\len<=Cf:=by
    cases p with
    |none=>obtain⟨⟨cy,e⟩,bK,_⟩:=cn;exact⟨cy,0,by rw[e,bK],by omega⟩
    |some q=>exact⟨_,_,cn.1,cn.2.2.2.1⟩
   obtain⟨jk,Cf,Hi⟩:=Hi;have nothing:ys=[]->(Builtin.append_ #[t,t] gW #[cz,.slice cy ys.length J]).run P C.w= .ok cz C.w-> ∃aZ v aB,(Builtin.append_ #[t,t] gW #[cz,.slice cy ys.length J]).run P C.w= .ok aZ aB.w/\Rep aB v aZ/\ci aB/\cm C.r.length C aB/\K v aB.r:=by
    intro lu re;subst lu;refine⟨cz,.own z len 0 len,C,re,?_,aA,cm.refl C,?_⟩
    ·rw[Rep];exact⟨aA.bZ,⟨_,_,Hi.1⟩,fA,aj⟩
    ·have mc:C.r.set z (.ag cO c.size (am++[]))=C.r:=by
      rw[aLY];have Lr:C.r[z]= .ag cO c.size am:=by
       rw[aKS fA] at hrow;exact aMY hrow
      rw[<-Lr];exact List.set_getElem_self fA
     rw[mc] at O;simpa using O
   rcases xw with ⟨rfl,lu⟩|⟨a,vs,rfl,he,ad⟩
   ·refine nothing lu ?_;rw[Hi.1,lu];exact Ya C.w t gW cO c ht av _ _ _ _ Hi.2
   ·by_cases Yc:p=none/\ys=[]
    ·obtain⟨EC,lu⟩:=Yc;refine nothing lu ?_;subst EC;subst lu;obtain⟨⟨cy,e⟩,_⟩:=cn;rw[e];cases cy<;>simp[Builtin.append_,run_underlying ht,sizeOf,typeInfo,av,Builtin.lenOf,Builtin.firstCells,loadCells,loadCellsFrom,storeCells]
    ·obtain⟨eE,ha,ge,w',aKO,cY,fY,fc,sd,Hh,ws,Lp,Yb⟩:=X9 (P:=P) C.w t gW cO c M ht av ba EA sX p len aq ap cz cn a ys.length J vs he.length ad he.cV
      (λEC=>aNL.2 λlu=>Yc ⟨EC,lu⟩) af
     have mc:=zl aA hrow ak eE ha ge (am++ys) (aq++vs) w' cY fY fc sd Hh (by rw[aKK,<-aH];exact ws) (atD.append he) Lp (by simp)
      (λh=>Yb (by simp at h;simp[h]))
     refine⟨_,.own z (len+ys.length) 0 (len+ys.length),_,aKO,?_,mc.1,mc.2,O⟩;rw[Rep];refine⟨aA.bZ,⟨_,_,rfl⟩,by simpa using fA,λbK pu mM G=> ?_⟩;simp only[aKQ,aK5,fA] at G;simp at G;obtain⟨rfl,rfl,rfl⟩:=G;refine⟨by simp[aH],λ_=>⟨by simp,some (eE,ha),?_,⟨eE,0,none⟩,ha,rfl,ws,rfl,rfl,λ_=>⟨rfl,rfl⟩,λ_=>by simp⟩⟩;show (C.bu.set z (some (eE,ha)))[z]? =_;rw[aKQ,Rc rfl,Rc gy]
  ·exact h.elim
 ·exact h.elim
end
end Go.Abs
namespace Go.Abs
variable [Dr]
section
variable {P:Program} {C:bD} {K:F->List Z->Prop}
theorem akv (aA:ci C){t:TypeId}{M:List F}(ba:nt P t=some M)(h:K (.bd C.r.length 1 0 0) (C.r++[.ag t M.length [M]])):
 ∃aZ v aB,(Instr.alloc t true (.tuple #[])).run P C.w= .ok aZ aB.w/\Rep aB v aZ/\ci aB/\cm C.r.length C aB/\K v aB.r:=by
 obtain⟨c,cC,av,jC,lY,hl,iG,dJ⟩:=sW ba;obtain⟨bO,cd⟩:=rV (C:=C) lY;have cK:=bO.length;have ak:=Bf aA t M.length 1 cC.cells [M] cC.cells.toList (C.w.alloc (.cells cC.cells t)) ⟨rfl,rfl,rfl,rfl⟩ (by omega) (by simp[maxLen]) (by simp) (DX rfl bO (vG bO cd)) aLb;refine⟨.pointer (some ⟨C.w.heap.size,0,none⟩),_,_,?_,(aA.bZ▸Ln aA.dw),ak.1,ak.2,h⟩;simp[Instr.alloc,sY av jC,newVar,newRow]
theorem akw (aA:ci C){t:TypeId}{n:Nat}{x:F}{cz:Value}(aj:Rep C x cz)(d: (cp x).length=n)(G: (cp x).all cV=true)
 (h:K (.bd C.r.length 1 0 0) (C.r++[.ag t n [cp x]])):
 ∃aZ v aB,(Instr.box t cz).run P C.w= .ok aZ aB.w/\Rep aB v aZ/\ci aB/\cm C.r.length C aB/\K v aB.r:=by
 obtain⟨bO,cd⟩:=DJ aj G;have cK:=bO.length;simp only[aLE] at cK;have ak:=Bf aA t n 1 cz.cells [cp x] cz.cells.toList (C.w.alloc (.cells cz.cells t)) ⟨rfl,rfl,rfl,rfl⟩ (by omega) (by simp[maxLen]) (by simp) (DX d bO cd) aLb;refine⟨.pointer (some ⟨C.w.heap.size,0,none⟩),_,_,?_,(aA.bZ▸Ln aA.dw),ak.1,ak.2,h⟩;simp[Instr.box,newVar,newRow]
theorem Yd {w:World}:∀(fg:List Field) (aa:List (Nat×Nat)),fg.mapM (λf=>(ie P f.type).map λn=>(f.offset,n))=some aa->
 (fg.mapM (m:=Sem) λf=>do pure (f.offset,<-sizeOf f.type)).run P w= .ok aa w
 | [],aa,h=>by simp at h;subst h;simp
 |f::fg,aa,h=>by
  simp only[aNH] at h;cases ao:ie P f.type with
  |none=>simp[ao] at h
  |some n=>
   cases N:fg.mapM (λf=>(ie P f.type).map λn=>(f.offset,n)) with
   |none=>simp[ao,N] at h
   |some bS=>
    simp[ao,N] at h;subst h;have ih:=Yd (w:=w) fg bS N;simp only[aNH,Sem.run_bind,mL ao,Result.andThen_ok,Sem.run_pure,ih]
theorem JW (et:List (Nat×Operand))(ρ:Operand->Value): (et.map λp=>(p.1,ρ p.2))=(et.map (·.1)).zip ((et.map (·.2)).map ρ):=by
 induction et with
 |nil=>rfl
 |cons p aa ih=>simp[ih]
theorem akx {t:TypeId}{M:List F}{pz:Array Field}{sc:List (Nat×Nat)}{et:Array (Nat×Operand)}{ρ:Operand->Value}{vs ap:List F}{w:World}
 (ba:nt P t=some M) (bc:P.underlying t=some (.struct pz)) (ak:pz.toList.mapM (λf=>(ie P f.type).map λn=>(f.offset,n))=some sc)
 (aC: (et.toList.map (·.1)).all (λc=>(sc[c]?).isSome)=true) (N:aE C vs ((et.toList.map (·.2)).map ρ))
 (hf:oQ M ((et.toList.map (·.1)).filterMap (sc[·]?)) vs=some ap) (d: (vs.all λv=>(cp v).all cV)=true):
 ∃aZ,(Instr.build t (et.map λ(c,x)=>(c,ρ x))).run P w= .ok aZ w/\Rep C (.agg ap) aZ:=by
 obtain⟨c,cC,av,jC,lY,hl,iG,dJ⟩:=sW ba;obtain⟨bO,cd⟩:=rV (C:=C) lY;obtain⟨z,aKO,cY,_⟩:=Gr (C:=C) (λ(c:Nat)=>sc[c]?) (et.toList.map (·.1)) _ vs _ M ap cC.cells rfl aC N hf d bO;refine⟨.agg z,?_,by rw[Rep];exact⟨z,rfl,cY⟩⟩;have hm:=Yd (P:=P) (w:=w) pz.toList sc ak;have QB: (pz.mapM (m:=Sem) λf=>do pure (f.offset,<-sizeOf f.type)).run P w= .ok sc.toArray w:=by
  rw[aPW];simp only[Sem.run_map,hm,Result.andThen_ok]
 have th: (et.map λ(c,x)=>(c,ρ x)).toList=(et.toList.map (·.1)).zip ((et.toList.map (·.2)).map ρ):=by
  rw[aOm];exact JW _ _
 simp only[Instr.build,Sem.run_bind,sY av jC,Result.andThen_ok,run_underlying bc,QB];have: (λ(x:Nat)=>sc.toArray[x]?)=λ(c:Nat)=>sc[c]? :=by funext x;simp
 rw[th,this,aKO];simp
theorem akz (aA:ci C){t e:TypeId}{M:List F}{len:Nat}{et:Array (Nat×Operand)}{ρ:Operand->Value}{vs:List F}{ar:List (List F)}
 (bc:P.underlying t=some (.slice e)) (ba:nt P e=some M) (cK:len*M.length<=16777216)
 (N:aE C vs ((et.toList.map (·.2)).map ρ)) (hf:oV (List.replicate len M) M.length (et.toList.map (·.1)) vs=some ar) (d: (vs.all λv=>(cp v).all cV)=true)
 (h:K (.own C.r.length len 0 len) (C.r++[.ag e M.length ar])):
 ∃aZ v aB,(Instr.buildSlice t len (et.map λ(c,x)=>(c,ρ x))).run P C.w= .ok aZ aB.w/\Rep aB v aZ/\ci aB/\cm C.r.length C aB/\K v aB.r:=by
 obtain⟨c,cC,av,jC,lY,hl,iG,dJ⟩:=sW ba;obtain⟨bO,cd⟩:=rV (C:=C) lY;have bp:=vG bO cd;obtain⟨es,ig,f3⟩:=PH _ vs _ ar hf (by intro x aj;rw[aNY aj]);rw[aMz] at f3;have jD:aE C (List.replicate len M).flatten (List.replicate len cC.cells.toList).flatten/\iU (List.replicate len cC.cells.toList).flatten:=by
  clear hf es f3 cK h
  induction len with
  |zero=>simp[aE,iU]
  |succ n ih=>
   rw[aME,aME,aLS,aLS];refine⟨bO.append ih.1,λv an=> ?_⟩;rcases aK3.1 an with an|an
   ·exact bp v an
   ·exact ih.2 v an
 have Bt:c.size=M.length:=hl.symm;have xi: ((Array.range (len*c.size)).map (cC.cells[·%cC.cells.size]!)).toList=(List.replicate len cC.cells.toList).flatten:=by
  rw[<-dJ];exact Be cC.cells len
 obtain⟨z,aKO,cY,fY⟩:=Gr (C:=C) (λj=>some (j*M.length,M.length)) (et.toList.map (·.1)) ((et.toList.map (·.1)).map λj=>(j*M.length,M.length)) vs _ _ ar.flatten
  ((Array.range (len*c.size)).map (cC.cells[·%cC.cells.size]!)) (by rw[<-List.filterMap_eq_map];rfl) (by simp) N es d (by rw[xi];exact jD.1)
 have fc:=fY (by rw[xi];exact jD.2);have uq:fs C M.length ar z.toList:=⟨ig,cY,fc⟩;have fA:=uq.length;simp only[aLE] at fA;have KJ:len<=maxLen:=by
  have:len<=len*M.length:=aOj _ (by omega);simp only[maxLen];omega
 have ak:=Bf aA e M.length len z ar z.toList (C.w.alloc (.cells z e)) ⟨rfl,rfl,rfl,rfl⟩ (by rw[fA,f3]) KJ (by omega) uq aLb;refine⟨.slice (some ⟨C.w.heap.size,0,none⟩) len len,.own C.r.length len 0 len,_,?_,?_,ak.1,ak.2,h⟩
 ·have th: (et.map λ(c,x)=>(c,ρ x)).toList=(et.toList.map (·.1)).zip ((et.toList.map (·.2)).map ρ):=by
   rw[aOm];exact JW _ _
  have rW: (sizeOf e).run P C.w= .ok c.size C.w:=by simp[sizeOf,typeInfo,av]
  rw[<-Bt] at aKO cK;simp only[Instr.buildSlice,Sem.run_bind,run_underlying bc,Result.andThen_ok,rW,Sem.run_ite];rw[S (by omega)]
  by_cases h0:len*c.size=0
  ·have atE:len=0:=by
    rcases aOi.1 h0 with h|h
    ·exact h
    ·omega
   subst atE;have atF:Array.map (λx=>cC.cells[x%cC.cells.size]!) (Array.range (0*c.size))= #[]:=by simp
   have B1:Array.map (λx=>(#[]:Array Value)[x%(#[]:Array Value).size]!) (Array.range (0*c.size))= #[]:=by simp
   rw[atF] at aKO;rw[Rc h0];simp only[Sem.run_pure,Result.andThen_ok];rw[B1,th,aKO];simp[newRow]
  ·simp only[h0,aLi,Sem.run_bind,sY av jC,Sem.run_pure,Result.andThen_ok];rw[th,aKO];simp[newRow]
 ·have:=JJ (r:=C.r) (bu:=C.bu) (bY:=C.bY) (w:=C.w.alloc (.cells z e)) (e:=e) (U:=M.length) (b:=C.w.heap.size) (cap:=len) (am:=ar) aA.dw (by omega);rw[f3] at this;rw[aA.bZ];exact this
end
end Go.Abs
namespace Go.Abs
variable [Dr]
section
variable {P:Program} {C:bD} {K:F->List Z->Prop}
theorem ajG (aA:ci C){t e:TypeId}{M:List F}{jW:Nat}(bc:P.underlying t=some (.slice e))(ba:nt P e=some M)(af: (P.info? e).map (·.bytes)=some jW)
 {k br:IntKind} {l J:Int} (d:0<=l) (G:l<=J) (au:J*jW<=140737488355328) (bv:J<=140737488355328)
 (h:K (.own C.r.length l.toNat 0 l.toNat) (C.r++[.ag e M.length (List.replicate l.toNat M)])):
 ∃aZ v aB,(Instr.makeSlice t (.int k l) (.int br J)).run P C.w= .ok aZ aB.w/\Rep aB v aZ/\ci aB/\cm C.r.length C aB/\K v aB.r:=by
 obtain⟨c,cC,av,jC,lY,hl,iG,dJ⟩:=sW ba;obtain⟨bO,cd⟩:=rV (C:=C) lY;have bp:=vG bO cd;have sX:c.bytes=jW:=by simpa[av] using af
 subst sX;have jD:∀n,aE C (List.replicate n M).flatten (List.replicate n cC.cells.toList).flatten/\iU (List.replicate n cC.cells.toList).flatten:=by
  intro n
  induction n with
  |zero=>simp[aE,iU]
  |succ n ih=>
   rw[aME,aME,aLS,aLS];refine⟨bO.append ih.1,λv an=> ?_⟩;rcases aK3.1 an with an|an
   ·exact bp v an
   ·exact ih.2 v an
 have xi: ((Array.range (J.toNat*c.size)).map (cC.cells[·%cC.cells.size]!)).toList=(List.replicate J.toNat cC.cells.toList).flatten:=by
  rw[<-dJ];exact Be cC.cells J.toNat
 have eK: ((Array.range (J.toNat*c.size)).map (cC.cells[·%cC.cells.size]!)).size=J.toNat*M.length:=by simp[hl]
 have uq:fs C M.length (List.replicate l.toNat M) (List.replicate l.toNat cC.cells.toList).flatten:=
  ⟨λx aj=>by rw[aNY aj],(jD _).1,(jD _).2⟩
 have pt: ((Array.range (J.toNat*c.size)).map (cC.cells[·%cC.cells.size]!)).toList.take (List.replicate l.toNat cC.cells.toList).flatten.length=(List.replicate l.toNat cC.cells.toList).flatten:=by
  rw[xi,show J.toNat=l.toNat+(J.toNat-l.toNat) from by omega,<-List.replicate_append_replicate,aM5];exact aM6
 have ak:=Bf aA e M.length J.toNat _ (List.replicate l.toNat M) _ (C.w.alloc (.cells ((Array.range (J.toNat*c.size)).map (cC.cells[·%cC.cells.size]!)) e)) ⟨rfl,rfl,rfl,rfl⟩ eK (by simp only[maxLen];omega) (by simp;omega) uq pt;refine⟨.slice (some ⟨C.w.heap.size,0,none⟩) l.toNat J.toNat,.own C.r.length l.toNat 0 l.toNat,_,?_,?_,ak.1,ak.2,h⟩
 ·have Ga:IntKind.i64.wrap l=l:=by simp only[IntKind.wrap,IntKind.bits,IntKind.signed];simp;omega
  have wc:IntKind.i64.wrap J=J:=by simp only[IntKind.wrap,IntKind.bits,IntKind.signed];simp;omega
  have rW: (sizeOf e).run P C.w= .ok c.size C.w:=by simp[sizeOf,typeInfo,av]
  have Ok: (typeInfo e).run P C.w= .ok c C.w:=by simp[typeInfo,av]
  have rX: (c.bytes:Int)*J<=140737488355328:=by rw[Int.mul_comm];exact au
  have Gb:decide (J<0)=false:=by simp;omega
  have JH:decide ((281474976710656:Int)<c.bytes*J)=false:=by simp;omega
  have t3:decide (l<0)=false:=by simp;omega
  have t4:decide (J<l)=false:=by simp;omega
  simp only[Instr.makeSlice,Sem.run_bind,run_underlying bc,Result.andThen_ok,asInt,asIntOf,Sem.run_pure,Ok,Ga,wc];have JI:¬((decide (J<0)||decide ((c.bytes:Int)*J>2^48)||decide (l<0)||decide (l>J))=true):=by
   simp;omega
  rw[S JI];simp only[Sem.run_bind,run_askRoom,Result.andThen_ok,rW,Sem.run_pure,Sem.run_ite]
  by_cases h0:J.toNat*c.size=0
  ·have Bg:J.toNat=0:=by
    rcases aOi.1 h0 with h|h
    ·exact h
    ·omega
   rw[Rc h0];have iV:Array.range 0= #[]:=rfl;simp[Bg,newRow,iV]
  ·rw[S h0];simp[sY av jC,newRow]
 ·have:=JJ (r:=C.r) (bu:=C.bu) (bY:=C.bY) (w:=C.w.alloc (.cells ((Array.range (J.toNat*c.size)).map (cC.cells[·%cC.cells.size]!)) e)) (e:=e) (U:=M.length) (b:=C.w.heap.size) (cap:=J.toNat) (am:=List.replicate l.toNat M) aA.dw (by simp;omega);rw[aA.bZ];simpa using this
theorem ajH (w:World)(t u gW e:TypeId)(c:TypeInfo)(M:Value)(ht:P.underlying t=some (.slice e))(bc:P.underlying u=some (.int .i64))(av:P.info? e=some c)(ba:c.zero=some M)(ao:0<c.size)(sX:c.bytes≠0)
 (cy:Option Addr) (k:IntKind) (n:Nat) (h0:0<n) (Ol:n*c.bytes<=140737488355328):
 (Builtin.append_ #[t,u] gW #[.slice cy 0 0,.int k n]).run P w=
  .ok (.slice (some ⟨w.heap.size,0,none⟩) n (grownCap w n 0 e)) (w.drew.alloc (.cells (Builtin.zeroCells M.cells n++Builtin.zeroCells M.cells (grownCap w n 0 e-n)) e)):=by
 have UX:n<=140737488355328:=aLk (aOj _ (by omega)) Ol;have Ga:IntKind.i64.wrap (n:Int)=n:=by simp only[IntKind.wrap,IntKind.bits,IntKind.signed];simp;omega
 have aH:n≠0:=by omega
 have ajI:¬(9223372036854775807<(n:Int)):=by omega
 have JK:¬(281474976710656<Builtin.nextslicecap n 0*c.bytes):=by rw[nextslicecap_zero h0];omega
 have ajJ:¬((281474976710656:Int)<(n:Int)*(c.bytes:Int)):=by
  have: ((n*c.bytes:Nat):Int)<=140737488355328:=by omega
  rw[Int.natCast_mul] at this;omega
 have ajK:¬((n:Int)<0):=by omega
 have ur:¬(n*c.size=0):=by
  intro h;rcases aOi.1 h with h|h<;>omega
 have oK:¬(c.size=0):=by omega
 cases cy<;>simp[Builtin.append_,run_underlying ht,run_underlying bc,sizeOf,typeInfo,zeroValue,av,ba,asInt,asIntOf,Ga,aH,ur,oK,ajK,ajI,JK,ajJ,Question.forced,Builtin.firstCells,loadCells,loadCellsFrom,newRow,grownCap,run_askRoom]
theorem ajL (aA:ci C){t u gW e:TypeId}{M:List F}{jW:Nat}(ht:P.underlying t=some (.slice e))(bc:P.underlying u=some (.int .i64))(ba:nt P e=some M)(af: (P.info? e).map (·.bytes)=some jW)(lZ:jW≠0)
 {cz:Value} {k:IntKind} {n:Int} (aj:Rep C .bH cz) (h0:0<n) (Ol:n*jW<=140737488355328)
 (h:K (.own C.r.length n.toNat 0 n.toNat) (C.r++[.ag e M.length (List.replicate n.toNat M)])):
 ∃aZ v aB,(Builtin.append_ #[t,u] gW #[cz,.int k n]).run P C.w= .ok aZ aB.w/\Rep aB v aZ/\ci aB/\cm C.r.length C aB/\K v aB.r:=by
 obtain⟨c,cC,av,jC,lY,hl,iG,dJ⟩:=sW ba;obtain⟨bO,cd⟩:=rV (C:=C) lY;have bp:=vG bO cd;have sX:c.bytes=jW:=by simpa[av] using af
 subst sX;obtain⟨m,rfl⟩:∃m:Nat,n=m:=⟨n.toNat,by omega⟩;have JK:m*c.bytes<=140737488355328:=by
  have: ((m*c.bytes:Nat):Int)<=140737488355328:=by rw[Int.natCast_mul];exact Ol
  omega
 rw[aKX] at h;rw[Rep] at aj;obtain⟨cy,rfl⟩:=aj;have jD:∀n,aE C (List.replicate n M).flatten (List.replicate n cC.cells.toList).flatten/\iU (List.replicate n cC.cells.toList).flatten:=by
  intro n
  induction n with
  |zero=>simp[aE,iU]
  |succ n ih=>
   rw[aME,aME,aLS,aLS];refine⟨bO.append ih.1,λv an=> ?_⟩;rcases aK3.1 an with an|an
   ·exact bp v an
   ·exact ih.2 v an
 have JL:∀n,(Builtin.zeroCells cC.cells n).toList=(List.replicate n cC.cells.toList).flatten:=λn=>by unfold Builtin.zeroCells;exact Be cC.cells n
 have Bh:=grownCap_ge C.w m 0 e;have UX:m<=140737488355328:=aLk (aOj _ (by omega)) JK;have re:=ajH (P:=P) C.w t u gW e c cC ht bc av jC iG lZ cy k m (by omega) JK;have uq:fs C M.length (List.replicate m M) (List.replicate m cC.cells.toList).flatten:=
  ⟨λx aj=>by rw[aNY aj],(jD _).1,(jD _).2⟩
 have eK: (Builtin.zeroCells cC.cells m++Builtin.zeroCells cC.cells (grownCap C.w m 0 e-m)).size=grownCap C.w m 0 e*M.length:=by
  simp only[aOW,size_zeroCells,dJ,hl,<-aLM];congr 1;omega
 have ak:=Bf aA e M.length (grownCap C.w m 0 e) _ (List.replicate m M) _ (C.w.drew.alloc (.cells (Builtin.zeroCells cC.cells m++Builtin.zeroCells cC.cells (grownCap C.w m 0 e-m)) e)) ⟨rfl,rfl,rfl,rfl⟩ eK (grownCap_le_maxLen C.w m 0 e (by simp only[maxLen];omega)) (by simp;omega) uq
  (by rw[Array.toList_append,JL];exact aM6)
 refine⟨_,.own C.r.length m 0 m,_,re,?_,ak.1,ak.2,h⟩;have:=JJ (r:=C.r) (bu:=C.bu) (bY:=C.bY) (w:=C.w.drew.alloc (.cells (Builtin.zeroCells cC.cells m++Builtin.zeroCells cC.cells (grownCap C.w m 0 e-m)) e)) (e:=e) (U:=M.length) (b:=C.w.heap.size) (cap:=grownCap C.w m 0 e) (am:=List.replicate m M) aA.dw (by simp;omega);rw[aA.bZ];simpa using this
theorem ajM (aA:ci C){t e:TypeId}{n:Nat}(bc:P.underlying t=some (.slice e))(ao:ie P e=some n){x y:F}{cz fQ:Value}(aj:Rep C x cz)(bt:Rep C y fQ)
 (h:xj C.r n x y λv=>K v C.r):∃aZ v,(Instr.indexAt t cz fQ).run P C.w= .ok aZ C.w/\Rep C v aZ/\K v C.r:=by
 unfold xj at h;split at h
 ·rename_i bz am k c;obtain⟨rfl,h0,d,O⟩:=h;simp only[Rep] at aj bt;subst bt;obtain⟨cy,cap,rfl,_,N⟩:=aj;rcases N with N|⟨b,V,rfl,af,he⟩
  ·omega
  ·have av:c.toNat<am.length:=by omega
   obtain⟨aKH,bR⟩:=he.oL c.toNat av;refine⟨.pointer (some ⟨b,V+c.toNat*bz,none⟩),_,?_,?_,O⟩
   ·simp[Instr.indexAt,asIntOf,run_underlying bc,h0,d,mL ao,sZ]
   ·rw[Rep];exact⟨b,V+c.toNat*bz,rfl,af,bR⟩
 ·rename_i z m off len k c;split at h
  ·rename_i cO bz am hrow;obtain⟨rfl,aH,h0,d,O⟩:=h;rw[Rep] at bt;subst bt;have rY:=aj;rw[Rep] at aj;obtain⟨_,_,fA,aj⟩:=aj;obtain⟨ta,p,ak,an⟩:=(aj cO bz am hrow).2 aH;rcases aA.ag hrow with ⟨hl,iW⟩|⟨b,cap,ap,hl,bO,cd,fk,hB,jE,jF⟩
   ·subst iW;simp at aH;omega
   ·rw[ak] at hl;simp at hl;subst hl;simp only[oH] at an;obtain⟨a,J,rfl,_,ho,hp,_,bp⟩:=an;have aC:a=⟨b,off*bz,none⟩:=by
     obtain⟨x,y,M⟩:=a;simp only at ho hp bp;rw[ho,hp,bp (by omega)]
    subst aC;refine⟨.pointer (some ⟨b,off*bz+c.toNat*bz,none⟩),_,?_,?_,O⟩
    ·simp[Instr.indexAt,asIntOf,run_underlying bc,h0,d,mL ao,sZ]
    ·rw[Rep];refine⟨aA.bZ,⟨_,rfl⟩,fA,λbK pu mM G=> ?_⟩;rw[hrow] at G;simp at G;obtain⟨rfl,rfl,rfl⟩:=G;exact⟨by omega,λ_=>⟨by omega,b,cap,ak,by rw[aLM];rfl⟩⟩
  ·exact h.elim
 ·exact h.elim
theorem UY {len cap:Nat}{ft av:Option Value}{k br:IntKind}{a b:Int}{w:World}(nu:ft=some (.int k a)\/(ft=none/\a=0))(xk:av=some (.int br b)\/(av=none/\b=len))
 (h0:0<=a) (d:a<=b) (G:b<=cap) (ajN:Bool): (Instr.sliceBounds ajN len cap ft av none).run P w= .ok (a.toNat,b.toNat,cap) w:=by
 have pv:a<=(b.toNat:Int):=by omega
 rcases nu with rfl|⟨rfl,rfl⟩<;>rcases xk with rfl|⟨rfl,rfl⟩<;>
  simp only[Instr.sliceBounds,Instr.sliceBound,asIntOf,Sem.run_bind,Sem.run_pure,Result.andThen_ok,Sem.run_ite]
 ·rw[Rc ⟨by omega,G⟩];simp only[Result.andThen_ok];rw[Rc ⟨h0,pv⟩];rfl
 ·rw[Rc ⟨h0,by omega⟩];simp
 ·rw[Rc ⟨by omega,G⟩];simp
 ·simp
theorem ajO {t e:TypeId}{n:Nat}{x:F}{cz:Value}{ft av:Option F}{tb tc:Option Value}(aj:Rep C x cz)
 (bc:P.underlying t=some (.slice e)) (ao:ie P e=some n)
 (nu: (∃l fX,ft=some l/\tb=some fX/\Rep C l fX)\/(ft=none/\tb=none)) (xk: (∃l fX,av=some l/\tc=some fX/\Rep C l fX)\/(av=none/\tc=none))
 (h:qj C.r ft av n x λv=>K v C.r):∃aZ v,(Instr.sliceAt t cz tb tc none).run P C.w= .ok aZ C.w/\Rep C v aZ/\K v C.r:=by
 unfold qj at h;split at h
 ·exact h.elim
 rename_i l hl;split at h
 ·rename_i Om a On b er xl;obtain⟨h0,d,G,O⟩:=h;have Oo:tb=some (.int Om a)\/(tb=none/\a=0):=by
   rcases nu with ⟨x,fX,rfl,rfl,N⟩|⟨rfl,rfl⟩
   ·simp at er;subst er;rw[Rep] at N;subst N;exact .inl rfl
   ·simp at er;exact .inr ⟨rfl,er.2.symm⟩
  have Oq:tc=some (.int On b)\/(tc=none/\b=l):=by
   rcases xk with ⟨x,fX,rfl,rfl,N⟩|⟨rfl,rfl⟩
   ·simp at xl;subst xl;rw[Rep] at N;subst N;exact .inl rfl
   ·simp at xl;exact .inr ⟨rfl,xl.2.symm⟩
  have JM:∀{cy:Option Addr} {cap:Nat},l<=cap->
   (Instr.sliceAt t (.slice cy l cap) tb tc none).run P C.w= .ok (.slice (if cap=a.toNat then cy else cy.map (·.add (a.toNat*n))) (b.toNat-a.toNat) (cap-a.toNat)) C.w:=by
   intro cy cap ad;simp[Instr.sliceAt,Instr.slice,run_underlying bc,UY (P:=P) (w:=C.w) (cap:=cap) Oo Oq h0 d (by omega) true,mL ao]
  cases x<;>simp only at O
  case pure bz am=>
   obtain⟨rfl,O⟩:=O;simp[td] at hl;subst hl;rw[Rep] at aj;obtain⟨cy,cap,rfl,eA,N⟩:=aj;refine⟨_,_,JM eA,?_,O⟩;rw[Rep];have cK: ((am.drop a.toNat).take (b.toNat-a.toNat)).length=b.toNat-a.toNat:=by rw[aLd,aLt];omega
   refine⟨_,_,by rw[cK],by rw[cK];omega,?_⟩;rcases N with N|⟨vH,V,rfl,af,he⟩
   ·exact .inl (by rw[cK];omega)
   ·by_cases ba:b.toNat-a.toNat=0
    ·exact .inl (by rw[cK];exact ba)
    ·right
     refine⟨vH,V+a.toNat*bz,?_,af,(he.drop a.toNat).take _⟩;rw[S (by omega)];simp[sZ]
  case bH=>
   simp[td] at hl;subst hl;rw[Rep] at aj;obtain⟨cy,rfl⟩:=aj;have aC:a.toNat=0:=by omega
   have af:b.toNat=0:=by omega
   refine⟨_,_,JM (aKM _),?_,O⟩;rw[Rep,aC,af];exact⟨_,rfl⟩
  case own z m off len=>
   simp[td] at hl;subst hl;split at O
   ·rename_i cO bz am hrow;obtain⟨rfl,aH,O⟩:=O;rw[Rep] at aj;obtain⟨hC,_,fA,aj⟩:=aj;obtain⟨ta,p,ak,an⟩:=(aj cO bz am hrow).2 aH;cases p with
    |none=>
     simp only[oH] at an;obtain⟨⟨cy,rfl⟩,rfl,rfl⟩:=an;have aC:a.toNat=0:=by omega
     have af:b.toNat=0:=by omega
     refine⟨_,_,JM (aKM _),?_,O⟩;rw[Rep,aC,af];refine⟨hC,⟨_,_,rfl⟩,fA,λbK pu mM G=>⟨(aj bK pu mM G).1,λ_=>⟨by omega,none,ak,?_⟩⟩⟩;simp[oH]
    |some q=>
     obtain⟨Ot,cap⟩:=q;simp only[oH] at an;obtain⟨dK,J,rfl,xm,ho,hp,pw,bp⟩:=an;refine⟨_,_,JM xm,?_,O⟩;rw[Rep];refine⟨hC,⟨_,_,rfl⟩,fA,λbK pu mM G=>⟨(aj bK pu mM G).1,λ_=>⟨by omega,_,ak,?_⟩⟩⟩;rw[hrow] at G;simp at G;obtain⟨rfl,rfl,rfl⟩:=G;simp only[oH]
     by_cases oM:J=a.toNat
     ·rw[Rc oM];refine⟨dK,_,rfl,by omega,ho,hp,λba=> ?_,λba=>by omega⟩;obtain⟨aKH,bR⟩:=pw (by omega);exact⟨aKH,by omega⟩
     ·rw[S oM];have kI:dK.add (a.toNat*bz)=⟨Ot,dK.off+a.toNat*bz,none⟩:=by
       obtain⟨x,y,M⟩:=dK;simp only at ho hp;subst ho;subst hp;exact sZ _ _ _
      refine⟨_,_,by rw[aML,kI],by omega,rfl,rfl,λba=> ?_,λba=> ?_⟩
      ·obtain⟨aKH,bR⟩:=pw (by omega);have aC:a.toNat=0:=by omega
       simp[aC,aKH,bR]
      ·show dK.off+a.toNat*bz=_;rw[bp (by omega),aLM]
   ·exact O.elim
  all_goals exact O.elim
 ·exact h.elim
theorem ajP {t:TypeId}{x:F}{cz:Value}{ft av:Option F}{tb tc:Option Value}(aj:Rep C x cz)(bc:P.underlying t=some .string)
 (nu: (∃l fX,ft=some l/\tb=some fX/\Rep C l fX)\/(ft=none/\tb=none)) (xk: (∃l fX,av=some l/\tc=some fX/\Rep C l fX)\/(av=none/\tc=none))
 (h:ut ft av x λv=>K v C.r):∃aZ v,(Instr.sliceAt t cz tb tc none).run P C.w= .ok aZ C.w/\Rep C v aZ/\K v C.r:=by
 unfold ut at h;split at h
 ·rename_i I;split at h
  ·rename_i Om a On b er xl;obtain⟨h0,d,G,O⟩:=h;rw[Rep] at aj;subst aj;have Oo:tb=some (.int Om a)\/(tb=none/\a=0):=by
    rcases nu with ⟨x,fX,rfl,rfl,N⟩|⟨rfl,rfl⟩
    ·simp at er;subst er;rw[Rep] at N;subst N;exact .inl rfl
    ·simp at er;exact .inr ⟨rfl,er.2.symm⟩
   have Oq:tc=some (.int On b)\/(tc=none/\b=I.size):=by
    rcases xk with ⟨x,fX,rfl,rfl,N⟩|⟨rfl,rfl⟩
    ·simp at xl;subst xl;rw[Rep] at N;subst N;exact .inl rfl
    ·simp at xl;exact .inr ⟨rfl,xl.2.symm⟩
   refine⟨.string (I.extract a.toNat b.toNat),_,?_,?_,O⟩
   ·simp[Instr.sliceAt,Instr.slice,run_underlying bc,UY (P:=P) (w:=C.w) (cap:=I.size) Oo Oq h0 d G false]
   ·rw[Rep]
  ·exact h.elim
 ·exact h.elim
end
end Go.Abs
